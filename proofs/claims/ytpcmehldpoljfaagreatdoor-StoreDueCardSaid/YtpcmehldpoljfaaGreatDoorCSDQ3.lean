/- Conditions: those that stand in each line. -/
import Derived.Test.YtpcmehldpoljfaaGreatDoorCSDQ2
import Derived.Sort.LotC
import Derived.Sort.LotA
import Derived.Sort.LotD1
import Derived.Laws.Bits64b
import Derived.Laws.Closers25b
import Derived.KernelRfl
import Derived.Sort.LotD2
import Derived.Sort.LotB
import Derived.Sort.LotD3
import Derived.Test.YtpcmehldpoljfaaGreatDoorCSDQ1
import Derived.Test.YtpcmehldpoljfaaGreatDoorProg
import Derived.Shelf.Bytes.SlCountOne
import Derived.Laws.CopyRow
import Derived.Laws.IdiomCopy
import Derived.Test.YtpcmehldpoljfaaGreatDoorTie
import Derived.LaidMore
import Derived.MakeChecks
import Derived.OpenShut
import Derived.ProofKit
set_option linter.unusedVariables false
set_option linter.unusedSimpArgs false
set_option linter.defProp false
namespace Go.Proofs.YtpcmehldpoljfaaGreatDoor
open Go.Proofs.Tryz
section
open Go Go.Pt Go.Sort List
attribute [local irreducible] ld dJ iH mZ i7 fi st new idx i8 jr fB js iY lV gT nn call dV inv run fc iM join loop held ext jR eI mH mz mI IntKind.wrap
variable {K:Int->WP} {a b n:Nat} {d:Array Int} {l:List Int} {p:Int->Bool} {t:Int->World->(Bool->WP)->Prop} {w:World}
section
variable {eA:Nat} {T:jS} {w0 w:World} {d:Array Int} {len cap:Nat}
def DB{J i0:Nat}{E:Int->WP}(h:gB eA T w0 w d)(hJ:J<=1152921504606846976)(hi0:i0<=J+2)(hT:∀(x:Nat) w Y,i0<=x->gB eA T w0 w d->(∀w',gB eA T w0 w' d->Y (decide (x<=J)&&p d[x]!) w')->t x w Y)(hE:∀w',gB eA T w0 w' d->E (scanUp p d J i0:Nat) w'): loop Int (fun X x w=>join Bool (fun Y=>t x w Y) fun b w'=>bif b then X (IntKind.i64.wrap (x+1)) w' else E x w') i0 w:=by refine iV (fun x w'=>∃i:Nat,x=i/\i0<=i/\i<=J+2/\gB eA T w0 w' d/\scanUp p d J i=scanUp p d J i0) (fun x _=>((J:Int)+2-x).toNat) ⟨i0,rfl,zM _,hi0,h,rfl⟩ ?_;rintro x w1 ⟨i,rfl,hi,hiJ,h,he⟩ X hX;refine gQ (fun c w'=>c=(decide (i<=J)&&p d[i]!)/\gB eA T w0 w' d) (hT i w1 _ hi h fun w' h=>⟨rfl,h⟩) ?_;rintro c w2 ⟨rfl,h⟩;have hd:=scanUp.eq_1 p d J i;apply dR<;>intro hc;have hc1:=hc;simp only[yA,decide_eq_true_eq] at hc;rw[if_pos (oP hc1)] at hd;rw[wi _ oJ];exact hX _ _ ⟨i+1,oJ,oJ,oJ,h,hd.symm.trans he⟩ oJ;rw[if_neg (oP hc)] at hd;rw[show (i:Int)=(scanUp p d J i0:Nat) by rw[<- he,hd]];exact hE _ h
def FB{i j0:Nat}{E:Int->WP}(h:gB eA T w0 w d)(hJ:j0<=1152921504606846976)(hi:1<=i)(hT:∀(x:Nat) w Y,x<=j0->gB eA T w0 w d->(∀w',gB eA T w0 w' d->Y (decide (i<=x)&&p d[x]!) w')->t x w Y)(hE:∀w',gB eA T w0 w' d->E (scanDown p d i j0:Nat) w'): loop Int (fun X x w=>join Bool (fun Y=>t x w Y) fun b w'=>bif b then X (IntKind.i64.wrap (x-1)) w' else E x w') j0 w:=by
 refine iV (fun x w'=>∃j:Nat,x=j/\j<=j0/\gB eA T w0 w' d/\scanDown p d i j=scanDown p d i j0) (fun x _=>x.toNat) ⟨j0,rfl,zM _,h,rfl⟩ ?_;rintro x w1 ⟨j,rfl,hj,h,he⟩ X hX;refine gQ (fun c w'=>c=(decide (i<=j)&&p d[j]!)/\gB eA T w0 w' d) (hT j w1 _ hj h fun w' h=>⟨rfl,h⟩) ?_;rintro c w2 ⟨rfl,h⟩;apply dR<;>intro hc;have hc1:=hc;simp only[yA,decide_eq_true_eq] at hc;obtain⟨k,rfl⟩:∃k,j=k+1:=⟨j-1,oJ⟩;rw[wi _ oJ];refine hX _ _ ⟨k,oJ,oJ,h,?_⟩ oJ;rw[<- he,scanDown,if_pos (oP hc1)];rw[show (j:Int)=(scanDown p d i j0:Nat) by
  rw[<- he];cases j with
  | zero=>rfl
  | succ k=>rw[scanDown,if_neg (oP hc)]]
 exact hE _ h
def qyp{pivot:Nat}{K:Int×Bool->WP}(h:gB eA T w0 w d)(hap:a<=pivot)(hpb:pivot<b)(hb:b<=len)(hl:len<=d.size/\len<=1152921504606846976)(hk:∀w',gB eA T w0 w' (Sort.partition ltInt d a b pivot).2.2->K (((Sort.partition ltInt d a b pivot).1:Nat),(Sort.partition ltInt d a b pivot).2.1) w'): cW 220 [.slice (pW eA) len cap,.i a,.i b,.i pivot] dp w K:=by
 refine qe0 (data:=⟨pW eA,len,cap⟩) ?_;revert hk;unfold Sort.partition;dsimp only;intro hk;refine h.drew.swap a pivot rfl rfl oJ oJ oJ fun w1 h=>?_;have hsz:(swp d a pivot).size=d.size:=Sort.size_swp _ _ _;generalize swp d a pivot=d1 at h hk hsz;have eb:IntKind.i64.wrap ((b:Int)-1)=((b-1:Nat):Int):=(by rw[wi _ oJ];omega);rw[eb,wi ((a:Int)+1) oJ,show (a:Int)+1=((a+1:Nat):Int) by omega];refine DB (p:=fun x=>ltInt x d1[a]!) (J:=b-1) (i0:=a+1) h oJ oJ (fun x w Y hx h hY=>?_) fun w2 h=>?_;apply cD<;>intro hc;have hc':x<=b-1:=oJ;refine h.drew.rd x rfl oJ oJ<|h.drew.rd a rfl oJ oJ<|rI ?_
 have:=hY _ h.drew
 simpa[hc'] using this;have hc':¬x<=b-1:=by omega
 have:=hY _ h.drew
 simpa[hc'] using this;have hu1:=scanUp_ge (fun x=>ltInt x d1[a]!) d1 (b-1) (a+1);generalize scanUp (fun x=>ltInt x d1[a]!) d1 (b-1) (a+1)=i at hk hu1⊢;refine FB (p:=fun x=>!ltInt x d1[a]!) (i:=i) (j0:=b-1) h oJ oJ (fun x w Y hx h hY=>?_) fun w3 h=>?_;apply cD<;>intro hc;have hc':i<=x:=oJ;refine h.drew.rd x rfl oJ oJ<|h.drew.rd a rfl oJ oJ<|rI ?_
 have:=hY _ h.drew
 simpa[hc'] using this;have hc':¬i<=x:=by omega
 have:=hY _ h.drew
 simpa[hc'] using this;have hv1:=scanDown_le (fun x=>!ltInt x d1[a]!) d1 i (b-1);generalize scanDown (fun x=>!ltInt x d1[a]!) d1 i (b-1)=j at hk hv1⊢;apply cD<;>intro hc;have hc':i>j:=oJ;simp only[if_pos hc'] at hk;exact h.drew.swap j a rfl rfl oJ oJ oJ fun w4 h=>hk _ h;have hc':¬i>j:=oJ;simp only[if_neg hc'] at hk;refine h.drew.swap i j rfl rfl oJ oJ oJ fun w4 h=>?_;have hsz2:(swp d1 i j).size=d1.size:=Sort.size_swp _ _ _;generalize swp d1 i j=d2 at h hk hsz2;rw[wi ((i:Int)+1) oJ,wi ((j:Int)-1) oJ];refine iV (fun s w'=>∃(i' j':Nat) (d':Array Int),s=((i':Int),(j':Int))/\a+1<=i'/\i'<=b/\j'<=b-1/\i'<=j'+2/\gB eA T w0 w' d'/\d'.size=d.size/\partLoop ltInt a i' j' d'=partLoop ltInt a (i+1) (j-1) d2) (fun s _=>(s.2+2-s.1).toNat)
  ⟨i+1,j-1,d2,sh oJ oJ,oJ,oJ,oJ,oJ,h,oJ,rfl⟩ ?_
 rintro s w5 ⟨i',j',d3,rfl,hi1,hi2,hj1,hij,h,hs3,he⟩ X hX;rw[partLoop_eq ltInt a i' j' d3] at he;dsimp only;refine DB (p:=fun x=>ltInt x d3[a]!) (J:=j') (i0:=i') h oJ oJ (fun x w Y hx h hY=>?_) fun w6 h=>?_;apply cD<;>intro hc;have hc':x<=j':=oJ;refine h.drew.rd x rfl oJ oJ<|h.drew.rd a rfl oJ oJ<|rI ?_
 have:=hY _ h.drew
 simpa[hc'] using this;have hc':¬x<=j':=by omega
 have:=hY _ h.drew
 simpa[hc'] using this;have hu1:=scanUp_ge (fun x=>ltInt x d3[a]!) d3 j' i';generalize scanUp (fun x=>ltInt x d3[a]!) d3 j' i'=i2 at he hu1⊢;refine FB (p:=fun x=>!ltInt x d3[a]!) (i:=i2) (j0:=j') h oJ oJ (fun x w Y hx h hY=>?_) fun w7 h=>?_;apply cD<;>intro hc;have hc':i2<=x:=oJ;refine h.drew.rd x rfl oJ oJ<|h.drew.rd a rfl oJ oJ<|rI ?_
 have:=hY _ h.drew
 simpa[hc'] using this;have hc':¬i2<=x:=by omega
 have:=hY _ h.drew
 simpa[hc'] using this;have hv1:=scanDown_le (fun x=>!ltInt x d3[a]!) d3 i2 j';generalize scanDown (fun x=>!ltInt x d3[a]!) d3 i2 j'=j2 at he hv1⊢;apply cD<;>intro hc;have hc':i2>j2:=oJ;rw[if_pos hc'] at he;rw[<- he] at hk;exact h.drew.swap j2 a rfl rfl oJ oJ oJ fun w4 h=>hk _ h;have hc':¬i2>j2:=oJ;rw[if_neg hc'] at he;refine h.drew.swap i2 j2 rfl rfl oJ oJ oJ fun w4 h=>?_;rw[wi ((i2:Int)+1) oJ,wi ((j2:Int)-1) oJ];exact hX _ _ ⟨i2+1,j2-1,_,sh oJ oJ,oJ,oJ,oJ,oJ,h,by rw[Sort.size_swp];exact hs3,he⟩ oN
def qvj{pivot:Nat}(h:gB eA T w0 w d)(hap:a<=pivot)(hpb:pivot<b)(hb:b<=len)(hl:len<=d.size/\len<=1152921504606846976)(hk:∀w',gB eA T w0 w' (Sort.partitionEqual ltInt d a b pivot).2->K ((Sort.partitionEqual ltInt d a b pivot).1:Nat) w'): cW 219 [.slice (pW eA) len cap,.i a,.i b,.i pivot] df w K:=by
 refine qdv (data:=⟨pW eA,len,cap⟩) ?_;revert hk;unfold Sort.partitionEqual;intro hk;refine h.drew.swap a pivot rfl rfl oJ oJ oJ fun w1 h=>?_;have hsz:(swp d a pivot).size=d.size:=Sort.size_swp _ _ _;generalize swp d a pivot=d2 at h hk hsz;rw[wi ((a:Int)+1) oJ,wi ((b:Int)-1) oJ];refine iV (fun s w'=>∃(i' j':Nat) (d':Array Int),s=((i':Int),(j':Int))/\a+1<=i'/\i'<=b/\j'<=b-1/\i'<=j'+2/\gB eA T w0 w' d'/\d'.size=d.size/\partEqLoop ltInt a i' j' d'=partEqLoop ltInt a (a+1) (b-1) d2) (fun s _=>(s.2+2-s.1).toNat)
  ⟨a+1,b-1,d2,sh oJ oJ,oJ,oJ,oJ,oJ,h,oJ,rfl⟩ ?_
 rintro s w5 ⟨i',j',d3,rfl,hi1,hi2,hj1,hij,h,hs3,he⟩ X hX;rw[partEqLoop_eq ltInt a i' j' d3] at he;dsimp only;refine DB (p:=fun x=>!ltInt d3[a]! x) (J:=j') (i0:=i') h oJ oJ (fun x w Y hx h hY=>?_) fun w6 h=>?_;apply cD<;>intro hc;have hc':x<=j':=oJ;refine h.drew.rd a rfl oJ oJ<|h.drew.rd x rfl oJ oJ<|rI ?_
 have:=hY _ h.drew
 simpa[hc'] using this;have hc':¬x<=j':=by omega
 have:=hY _ h.drew
 simpa[hc'] using this;have hu1:=scanUp_ge (fun x=>!ltInt d3[a]! x) d3 j' i';generalize scanUp (fun x=>!ltInt d3[a]! x) d3 j' i'=i2 at he hu1⊢;refine FB (p:=fun x=>ltInt d3[a]! x) (i:=i2) (j0:=j') h oJ oJ (fun x w Y hx h hY=>?_) fun w7 h=>?_;apply cD<;>intro hc;have hc':i2<=x:=oJ;refine h.drew.rd a rfl oJ oJ<|h.drew.rd x rfl oJ oJ<|rI ?_
 have:=hY _ h.drew
 simpa[hc'] using this;have hc':¬i2<=x:=by omega
 have:=hY _ h.drew
 simpa[hc'] using this;have hv1:=scanDown_le (fun x=>ltInt d3[a]! x) d3 i2 j';generalize scanDown (fun x=>ltInt d3[a]! x) d3 i2 j'=j2 at he hv1⊢;apply cD<;>intro hc;have hc':i2>j2:=oJ;rw[if_pos hc'] at he;rw[<- he] at hk;exact hk _ h;have hc':¬i2>j2:=oJ;rw[if_neg hc'] at he;refine h.drew.swap i2 j2 rfl rfl oJ oJ oJ fun w4 h=>?_;rw[wi ((i2:Int)+1) oJ,wi ((j2:Int)-1) oJ];exact hX _ _ ⟨i2+1,j2-1,_,sh oJ oJ,oJ,oJ,oJ,oJ,h,by rw[Sort.size_swp];exact hs3,he⟩ oN
end
section
section
variable {eA:Nat} {T:jS} {w0 w:World} {d:Array Int} {len cap:Nat}
def qw4{K:Bool->WP}(h:gB eA T w0 w d)(aA:a<b)(hb:b<=len)(hl:len<=d.size/\len<=1152921504606846976)(hk:∀w',gB eA T w0 w' (Sort.partialInsertionSort ltInt d a b).1->K (Sort.partialInsertionSort ltInt d a b).2 w'): cW 217 [.slice (pW eA) len cap,.i a,.i b] dg w K:=by
 refine qcu (data:=⟨pW eA,len,cap⟩) ?_;revert hk;unfold Sort.partialInsertionSort;intro hk;rw[wi ((a:Int)+1) oJ];refine iV (fun x w'=>∃(i s:Nat) (E:Array Int),x=((i:Int),5-(s:Int))/\s<=5/\a+1<=i/\i<=b/\gB eA T w0 w' E/\E.size=d.size/\partialIns ltInt a b s i E=partialIns ltInt a b 5 (a+1) d) (fun x _=>(5-x.2).toNat)
  ⟨a+1,5,d,sh oJ oJ,oJ,oJ,oJ,h,rfl,rfl⟩ ?_
 rintro x w1 ⟨i,s,R,rfl,aB,ao,ap,h,aC,C⟩ X hX;dsimp only;apply dR<;>intro u;obtain⟨s,rfl⟩:∃k,s=k+1:=⟨s-1,by have:=zC u;omega⟩;rw[partialIns_succ] at C;refine gQ (fun x w'=>∃(i:Nat) (E:Array Int),x=i/\a+1<=i/\i<=b/\gB eA T w0 w' E/\E.size=d.size/\partialIns ltInt a b s i E=partialIns ltInt a b 5 (a+1) d) ?_ ?_;refine iV (fun x w'=>∃k:Nat,x=k/\a+1<=k/\k<=b/\gB eA T w0 w' R/\scanSorted ltInt R b k=scanSorted ltInt R b i) (fun x _=>((b:Int)-x).toNat) ⟨i,rfl,ao,ap,h,rfl⟩ ?_;rintro x w2 ⟨k,rfl,U,V,h,ak⟩ Z hZ;have hd:=scanSorted.eq_1 ltInt R b k;refine gQ (fun c w'=>c=(decide (k<b)&&!ltInt R[k]! R[k-1]!)/\gB eA T w0 w' R) ?_ ?_;apply dR<;>intro u;have ac:k<b:=(by have:=zC u;omega);exact h.drew.rd k rfl oJ oJ<|h.drew.rd (k-1) (by rw[wi _ oJ];omega) oJ oJ<|rI<|⟨by simp[ac],h.drew⟩;have ac:¬k<b:=(by have:=zB u;omega);exact⟨by simp[ac],h.drew⟩;rintro c w3 ⟨rfl,h⟩;apply dR<;>intro u;have aq:=u;simp only[yA,decide_eq_true_eq] at u;rw[if_pos (oP aq)] at hd;rw[wi _ oJ];exact hZ _ _ ⟨k+1,oJ,oJ,oJ,h,hd.symm.trans ak⟩ oJ;rw[if_neg (oP u)] at hd;rw[show scanSorted ltInt R b i=k by rw[<- ak,hd]] at C;unfold fixUp fixDown at C;apply dR<;>intro u;have ad:k=b:=(by have:=yO.1 u;omega);rw[if_pos ad] at C;rw[<- C] at hk;exact hk _ h;have ad:¬k=b:=fun e=>by rw[e] at u;simp at u
 rw[if_neg ad] at C;rw[wi ((b:Int)-a) oJ];apply dR<;>intro u;have ae:b-a<50:=(by have:=zC u;omega);rw[if_pos ae] at C;rw[<- C] at hk;exact hk _ h;have ae:¬b-a<50:=(by have:=zB u;omega);rw[if_neg ae] at C;refine h.drew.swap k (k-1) rfl (by rw[wi _ oJ];omega) oJ oJ oJ fun w4 h=>?_;have al:(swp R k (k-1)).size=R.size:=Sort.size_swp _ _ _;generalize swp R k (k-1)=J at h C al;refine gQ (fun _ w'=>gB eA T w0 w' (if k-a>=2 then shiftDown ltInt (k-1) J else J)/\(if k-a>=2 then shiftDown ltInt (k-1) J else J).size=J.size) ?_ ?_;rw[wi ((k:Int)-a) oJ];apply dR<;>intro u;have af:k-a>=2:=(by have:=zC u;omega);simp only[if_pos af];rw[wi ((k:Int)-1) oJ];refine iV (fun x w'=>∃(j:Nat) (E:Array Int),x=j/\j<=k-1/\gB eA T w0 w' E/\E.size=J.size/\shiftDown ltInt j E=shiftDown ltInt (k-1) J) (fun x _=>x.toNat) ⟨k-1,J,oJ,oJ,h,rfl,rfl⟩ ?_;rintro x w5 ⟨j,d3,rfl,hj,h,aa,I⟩ Q hQ;apply dR<;>intro u;obtain⟨j,rfl⟩:∃m,j=m+1:=⟨j-1,by have:=zC u;omega⟩;rw[shiftDown] at I;refine h.drew.rd (j+1) rfl oJ oJ<|h.drew.rd j (by rw[wi _ oJ];omega) oJ oJ<|rI ?_;apply dR<;>intro u;rw[if_pos u] at I;rw[<- I];exact⟨h.drew,aa⟩;rw[if_neg (by rw[u];decide)] at I;refine h.drew.drew.swap (j+1) j rfl (by rw[wi _ oJ];omega) oJ oJ oJ fun w6 h=>?_;rw[wi _ oJ];exact hQ _ _ ⟨j,_,oJ,oJ,h,by rw[Sort.size_swp];exact aa,I⟩ oJ;have au:j=0:=(by have:=zB u;omega);subst au;rw[<- I];exact⟨h,aa⟩;have af:¬k-a>=2:=(by have:=zB u;omega);simp only[if_neg af];exact⟨h,trivial⟩;rintro _ w5 ⟨h,aa⟩;generalize (if k-a>=2 then shiftDown ltInt (k-1) J else J)=d3 at h C aa;rw[wi ((b:Int)-k) oJ];apply dR<;>intro u;have ag:b-k>=2:=(by have:=zC u;omega);rw[if_pos ag] at C;rw[wi ((k:Int)+1) oJ];refine iV (fun x w'=>∃(j:Nat) (E:Array Int),x=j/\k+1<=j/\j<=b/\gB eA T w0 w' E/\E.size=d.size/\shiftUp ltInt b j E=shiftUp ltInt b (k+1) d3) (fun x _=>((b:Int)-x).toNat) ⟨k+1,d3,oJ,oJ,oJ,h,oJ,rfl⟩ ?_;rintro x w6 ⟨j,d4,rfl,aG,aH,h,ah,ai⟩ Q hQ;have G:=shiftUp.eq_1 ltInt b j d4;apply dR<;>intro u;have aj:j<b:=(by have:=zC u;omega);rw[if_pos aj] at G;refine h.drew.rd j rfl oJ oJ<|h.drew.rd (j-1) (by rw[wi _ oJ];omega) oJ oJ<|rI ?_;apply dR<;>intro u;rw[if_pos u] at G;rw[<- ai,G] at C;exact⟨k,d4,rfl,U,V,h.drew,ah,C⟩;rw[if_neg (by rw[u];decide)] at G;refine h.drew.drew.swap j (j-1) rfl (by rw[wi _ oJ];omega) oJ oJ oJ fun w6 h=>?_;rw[wi _ oJ];exact hQ _ _ ⟨j+1,_,oJ,oJ,oJ,h,by rw[Sort.size_swp];exact ah,G.symm.trans ai⟩ oJ;have aj:¬j<b:=(by have:=zB u;omega);rw[if_neg aj] at G;rw[<- ai,G] at C;exact⟨k,d4,rfl,U,V,h,ah,C⟩;have ag:¬b-k>=2:=(by have:=zB u;omega);rw[if_neg ag] at C;exact⟨k,d3,rfl,U,V,h,oJ,C⟩;rintro x w2 ⟨k,J,rfl,U,V,h,aw,ax⟩;rw[wi _ oJ];exact hX _ _ ⟨k,s,J,sh rfl oJ,oJ,U,V,h,aw,ax⟩ oN;have ay:s=0:=(by have:=zB u;omega);subst ay;rw[<- C] at hk;exact hk _ h
end
end
def qyG{s:ByteArray}{i:Int}{K:Int->Prop}(b:UInt8)(u:0<=i)(h:s[i.toNat]?=some b)(k:K (b.toNat:Int)):i8 s i K:=by unfold i8;exact⟨b,⟨u,h⟩,k⟩
def Gr{k:Nat}(h:2^k<=n):bitsLen n=bitsLen (n / 2^k)+k:=by
 have G:bitsLen n<=bitsLen (n / 2^k)+k:=by
  rw[bitsLen_le_iff,Nat.pow_add]
  have:=lt_two_pow_bitsLen (n / 2^k)
  exact (Nat.div_lt_iff_lt_mul (Nat.two_pow_pos k)).1 this
 have I:bitsLen (n / 2^k)+k<=bitsLen n:=by
  have C:=lt_two_pow_bitsLen n;have E:k<=bitsLen n:=by
   rcases Nat.lt_or_ge (bitsLen n) k with u|u
   have:=Nat.pow_le_pow_right (show 0<2 by decide) (Nat.le_of_lt u);omega
   exact u
  have:bitsLen (n / 2^k)<=bitsLen n-k:=(by rw[bitsLen_le_iff,Nat.div_lt_iff_lt_mul (Nat.two_pow_pos k),<- Nat.pow_add,Nat.sub_add_cancel E];exact C);omega
 omega
def que{k:Nat}(h:n<2^k):bitsLen n<=k:=(bitsLen_le_iff n k).2 h
def Fm(n k:Nat):Int.fdiv (n:Int) ((k:Nat):Int)=((n / k:Nat):Int):=by rw[Int.fdiv_eq_ediv_of_nonneg _ oJ];rfl
def qwV(hn:n<18446744073709551616)(hk:K (bitsLen n:Nat) w):cW 222 [.int .u64 n] df w K:=by apply qp2;refine gQ (fun t w'=>∃m c:Nat,t=((m:Int),(c:Int))/\w=w'/\m<4294967296/\c<=32/\bitsLen n=bitsLen m+c) ?_ ?_;apply cD<;>intro hc;have h:=hc;refine⟨n / 2^32,32,sh (Fm n (2^32)) rfl,rfl,oJ,oJ,Gr oJ⟩;have h:=hc;exact⟨n,0,rfl,rfl,oJ,oJ,rfl⟩;rintro t w' ⟨m,c,rfl,rfl,hm,hc1,he⟩;dsimp only;refine gQ (fun t w'=>∃m c:Nat,t=((m:Int),(c:Int))/\w=w'/\m<65536/\c<=48/\bitsLen n=bitsLen m+c) ?_ ?_;apply cD<;>intro hc;have h:=hc;refine⟨m / 2^16,c+16,sh (Fm m (2^16)) (by rw[wi _ oJ];omega),rfl,oJ,oJ,by rw[he,Gr (n:=m) (k:=16) oJ];omega⟩;have h:=hc;exact⟨m,c,rfl,rfl,oJ,oJ,he⟩;rintro t w' ⟨m,c,rfl,rfl,hm,hc1,he⟩;dsimp only;refine gQ (fun t w'=>∃m c:Nat,t=((m:Int),(c:Int))/\w=w'/\m<256/\c<=56/\bitsLen n=bitsLen m+c) ?_ ?_;apply cD<;>intro hc;have h:=hc;refine⟨m / 2^8,c+8,sh (Fm m (2^8)) (by rw[wi _ oJ];omega),rfl,oJ,oJ,by rw[he,Gr (n:=m) (k:=8) oJ];omega⟩;have h:=hc;exact⟨m,c,rfl,rfl,oJ,oJ,he⟩;rintro t w' ⟨m,c,rfl,rfl,hm,hc1,he⟩;dsimp only;have hb:=que (n:=m) (k:=8) oJ;rw[IntWalk.u8_in (m:Int) oJ];refine qyG (UInt8.ofNat (bitsLen m)) oJ ?_ ?_;rw[zJ];clear he hb;revert m;decide +kernel;have e:(UInt8.ofNat (bitsLen m)).toNat=bitsLen m:=oO;rw[e,wi (bitsLen m:Nat) oJ,wi _ oJ];rw[he] at hk;rw[show (c:Int)+(bitsLen m:Nat)=((bitsLen m+c:Nat):Int) by omega];exact hk
def EW(hn:n<18446744073709551616)(hk:K (bitsLen n:Nat) w):cW 178 [.int .u64 n] df w K:=by apply qsi;exact qwV hn hk
section
structure jz (eA:Nat) (T:jS) (w0 w:World) (d:Array Int) (sb:Nat) (k:IntKind) (v:Int):Prop where
 arr:gB eA T w0 w d
 cell:∃ T2,w.heap[sb]?=some (.cells #[.int k v] T2 (0,0))
 ne:sb≠eA
 new:w0.heap.size<=sb
section
variable {eA:Nat} {T:jS} {w0 w:World} {d:Array Int} {len cap sb:Nat} {k:IntKind} {v:Int}
def jz.drew(h:jz eA T w0 w d sb k v):jz eA T w0 w.drew d sb k v:=⟨h.arr.drew,h.cell,h.ne,h.new⟩
def jz.get(h:jz eA T w0 w d sb k v){K:Int->Prop}(u:K v):ld (.int k) (dd sb) w K:=by obtain⟨E,C⟩:=h.cell;exact iG C v rfl u
def jz.put(h:jz eA T w0 w d sb k v)(u:Int){K:WP}(E:∀w',jz eA T w0 w' d sb k u->K w'):st (dd sb) [.int k u] w K:=by
 obtain⟨G,C⟩:=h.cell;unfold st;refine xf (w:=w) [.int k u] 0 0 _ w K C rfl oL (E _ ⟨⟨?_,?_⟩,⟨G,?_⟩,h.ne,h.new⟩);refine h.arr.fr.j8 (T:=[sb]) ⟨rfl,rfl,rfl,by rw[ug];exact zM _,fun j R I=>?_⟩ (fun i J=>.inr ?_);rw[nW _ _ _ _ (eT C),if_neg (oP I)]
 have:=h.new
 simp at J;omega;rw[nW _ _ _ _ (eT C),if_neg (fun e=>h.ne e.symm)];exact h.arr.eA;rw[nW _ _ _ _ (eT C),if_pos rfl];rfl
def jz.mk'(h:gB eA T w0 w d)(C:TypeId)(u:Int){K:Nat->WP}(E:∀b w',jz eA T w0 w' d b k u->K b w'):Pt.new (.cells #[.int k u] C (0,0)) w K:=by
 unfold Pt.new;refine E _ _ ⟨⟨h.fr.alloc _,?_⟩,⟨C,?_⟩,?_,h.fr.size⟩
 have:=eT h.eA
 rw[we,iN];exact h.eA;rw[we,if_pos rfl]
 have:=eT h.eA
 omega
def E8{K:Int×Int->WP}(h:jz eA T w0 w d sb .i64 v)(G:a<len)(I:b<len)(C:len<=d.size/\len<=1152921504606846976)(E:∀(p q:Nat) u w',(p=a/\q=b\/p=b/\q=a)->jz eA T w0 w' d sb .i64 u->K ((p:Int),(q:Int)) w'): cW 260 [.slice (pW eA) len cap,.i a,.i b,dB sb] di w K:=by refine qgb (data:=⟨pW eA,len,cap⟩)<|h.arr.drew.rd b rfl I C<|h.arr.drew.rd a rfl G C<|rI ?_;apply dR<;>intro J;exact fq<|h.drew.get<|fq<|h.drew.put _ fun w' h=>E b a _ _ (.inr ⟨rfl,rfl⟩) h;exact E a b _ _ (.inl ⟨rfl,rfl⟩) h.drew
def qoQ{c:Nat}(h:jz eA T w0 w d sb .i64 v)(G:a<len)(I:b<len)(J:c<len)(C:len<=d.size/\len<=1152921504606846976)(R:∀(p:Nat) u w',(p=a\/p=b\/p=c)->jz eA T w0 w' d sb .i64 u->K (p:Int) w'): cW 246 [.slice (pW eA) len cap,.i a,.i b,.i c,dB sb] df w K:=by refine qga (data:=⟨pW eA,len,cap⟩) ?_;dsimp only;refine E8 h G I C fun p q u w1 hp h=>?_;dsimp only;refine E8 h oJ J C fun p' q' u w1 U h=>?_;dsimp only;exact E8 h oJ oJ C fun V aa u w1 E h=>R _ _ _ oJ h
def Fv(h:jz eA T w0 w d sb .i64 v)(G:1<=a)(I:a+1<len)(C:len<=d.size/\len<=1152921504606846976)(E:∀(p:Nat) u w',(a<=p+1/\p<=a+1)->jz eA T w0 w' d sb .i64 u->K (p:Int) w'): cW 245 [.slice (pW eA) len cap,.i a,dB sb] df w K:=by refine qdu (data:=⟨pW eA,len,cap⟩) ?_;dsimp only;rw[wi ((a:Int)-1) oJ,wi ((a:Int)+1) oJ,show (a:Int)-1=((a-1:Nat):Int) by omega,show (a:Int)+1=((a+1:Nat):Int) by omega];exact qoQ h oJ oJ oJ C fun p u w' J h=>E p u w' oJ h
def qw3{K:Int×Int->WP}(h:gB eA T w0 w d)(ab:a<b)(hb:b<=len)(I:len<=d.size/\len<=1152921504606846976)(J:∀(p:Nat) (x:Int) w',a<=p/\p<b->gB eA T w0 w' d->K ((p:Int),x) w'): cW 215 [.slice (pW eA) len cap,.i a,.i b] di w K:=by
 refine qel (data:=⟨pW eA,len,cap⟩) ?_;dsimp only;have e0:IntKind.i64.wrap ((b:Int)-a)=((b-a:Nat):Int):=(by rw[wi _ oJ];omega);have e4:Int.tdiv ((b-a:Nat):Int) 4=(((b-a) / 4:Nat):Int):=(by rw[Int.tdiv_eq_ediv_of_nonneg oJ];omega);have e1:∀m:Nat,m<=3->IntKind.i64.wrap ((a:Int)+IntKind.i64.wrap (IntKind.i64.wrap (((b-a) / 4:Nat):Int)*(m:Int)))=((a+(b-a) / 4*m:Nat):Int):=by intro m R;have hq:(b-a) / 4*m<=(b-a) / 4*3:=Nat.mul_le_mul_left _ R;have hz:(((b-a) / 4:Nat):Int)*(m:Int)=(((b-a) / 4*m:Nat):Int):=(by push_cast;rfl);rw[wi (((b-a) / 4:Nat):Int) oJ,hz,wi (((b-a) / 4*m:Nat):Int) oJ,wi _ oJ];omega
 have U:=e1 1 oJ;have V:=e1 2 oJ;have f3:=e1 3 oJ;simp only[Int.cast_ofNat_Int] at U V f3;rw[e0,e4,U,V,f3];refine jz.mk' h _ _ fun sb w1 h=>gQ (fun x w'=>∃(p:Nat) (u:Int),x=p/\a<=p/\p<b/\jz eA T w0 w' d sb .i64 u) ?_ ?_;apply cD<;>intro C;have h8:b-a>=8:=oJ;refine gQ (fun x w'=>∃(p q r:Nat) (u:Int),x=((p:Int),(q:Int),(r:Int))/\a<=p/\p<b/\a<=q/\q<b/\a<=r/\r<b/\jz eA T w0 w' d sb .i64 u) ?_ ?_;apply cD<;>intro C;have af:b-a>=50:=oJ;exact Fv h oJ oJ I fun p u w2 hp h=>Fv h oJ oJ I fun q u w2 hq h=>Fv h oJ oJ I fun r u w2 hr h=>⟨p,q,r,u,rfl,oJ,oJ,oJ,oJ,oJ,oJ,h⟩;exact⟨_,_,_,_,rfl,oJ,oJ,oJ,oJ,oJ,oJ,h⟩;rintro x w2 ⟨p,q,r,u,rfl,E,G,ag,ah,ai,aj,h⟩;dsimp only;exact qoQ h oJ oJ oJ I fun m u w3 R h=>⟨m,u,rfl,oJ,oJ,h⟩;exact⟨_,_,rfl,oJ,oJ,h⟩;rintro x w2 ⟨p,u,rfl,E,G,h⟩;refine h.get ?_;apply cD<;>intro C;exact J _ _ _ ⟨E,G⟩ h.arr;apply cD<;>intro C;exact J _ _ _ ⟨E,G⟩ h.arr;exact J _ _ _ ⟨E,G⟩ h.arr
end
end
section
section
variable {eA:Nat} {T:jS} {w0 w:World} {d:Array Int} {len cap sb:Nat} {k:IntKind} {v:Int}
def gB.Er(h:gB eA T w0 w d):gB eA T w w d:=⟨.refl _ _,h.eA⟩
def jz.step(h:jz eA T w0 w d sb k v){w':World}{u:Array Int}(g:gB eA T w w' u):jz eA T w0 w' u sb k v:=by obtain⟨E,C⟩:=h.cell;refine⟨⟨h.arr.fr.trans g.fr,g.eA⟩,⟨E,?_⟩,h.ne,h.new⟩;rw[g.fr.block sb (eT C) (oP h.ne)];exact C
def qyn(h:jz eA T w0 w d sb .u64 v)(u:∀(x:Int) w',0<=x/\x<=18446744073709551615->jz eA T w0 w' d sb .u64 x->K x w'): cW 244 [dB sb] dr w K:=by refine qgc<|fq (h.drew.get (fq (h.drew.get (fq (h.drew.put _ fun w1 h=>?_)))));refine fq (h.drew.get (fq (h.drew.get (fq (h.drew.put _ fun w1 h=>?_)))));refine fq (h.drew.get (fq (h.drew.get (fq (h.drew.put _ fun w1 h=>?_)))));refine fq (h.get ?_);exact u _ _ (bits_within .xor .u64 _ _) h
def qzn{w:World}(C:1<=n/\n<=1152921504606846976)(h:K ((2^bitsLen n:Nat):Int) w):cW 243 [.i n] dr w K:=by apply qfT;rw[IntWalk.u64_in (n:Int) oJ];refine EW oJ<|pc oJ ?_;have E:=two_pow_bitsLen_le (n:=n) oJ;have G:bitsLen n<=61:=(bitsLen_le_iff n 61).2 oJ;rw[zJ,xQ oJ];have e:(1:Int)*2^bitsLen n=((2^bitsLen n:Nat):Int):=(by rw[Int.one_mul];push_cast;rfl);have u:(0:Int)<=((2^bitsLen n:Nat):Int):=Int.natCast_nonneg _;rw[e,IntWalk.u64_in _ oJ];exact h
def qwQ{K:Unit->WP}(h:gB eA T w0 w d)(U:a<=b)(hb:b<=len)(hl:len<=d.size/\len<=1152921504606846976)(J:∀E w',PermIn a b d E->gB eA T w0 w' E->K () w'): cW 214 [.slice (pW eA) len cap,.i a,.i b] [] w K:=by
 refine qdM (data:=⟨pW eA,len,cap⟩) ?_;have e0:IntKind.i64.wrap ((b:Int)-a)=((b-a:Nat):Int):=(by rw[wi _ oJ];omega);rw[e0];apply cD<;>intro C;have h8:b-a>=8:=oJ;have V:Int.tdiv ((b-a:Nat):Int) 4=(((b-a) / 4:Nat):Int):=(by rw[Int.tdiv_eq_ediv_of_nonneg oJ];omega);have e1:IntKind.i64.wrap ((a:Int)+IntKind.i64.wrap (IntKind.i64.wrap (((b-a) / 4:Nat):Int)*2))=((a+(b-a) / 4*2:Nat):Int):=by rw[wi (((b-a) / 4:Nat):Int) oJ,wi ((((b-a) / 4:Nat):Int)*2) oJ,wi _ oJ];omega
 rw[V,e1,IntWalk.u64_in ((b-a:Nat):Int) oJ];refine jz.mk' h _ _ fun sb w1 h=>h.put _ fun w2 h=>qzn oJ ?_;have aa:=two_pow_bitsLen_le (n:=b-a) oJ;have G:=Nat.two_pow_pos (bitsLen (b-a));rw[wi (_-1) oJ,wi (_+1) oJ];refine iV (fun x w'=>∃(i:Nat) (E:Array Int) (u:Int),x=i/\a<=i/\i<=a+(b-a) / 4*2+2/\PermIn a b d E/\jz eA T w0 w' E sb .u64 u) (fun x _=>(((a+(b-a) / 4*2+2:Nat):Int)-x).toNat)
  ⟨a+(b-a) / 4*2-1,d,_,oJ,oJ,oJ,permIn_refl _ _ _,h⟩ ?_
 rintro x w3 ⟨i,R,u,rfl,ab,ac,I,h⟩ X hX;have ae:=I.1;apply cD<;>intro C;have af:i<=a+(b-a) / 4*2+1:=oJ;refine qyn h fun y w4 hy h=>?_;obtain⟨z,rfl⟩:∃z:Nat,y=z:=⟨y.toNat,oJ⟩;have ez:bits .and .u64 (z:Int) (IntKind.u64.wrap (((2^bitsLen (b-a):Nat):Int)-1))=((z%2^bitsLen (b-a):Nat):Int):=by rw[IntWalk.u64_in _ oJ,show ((2^bitsLen (b-a):Nat):Int)-1=((2^bitsLen (b-a)-1:Nat):Int) by omega,bits_and_u64_nat z _ oJ oJ,Nat.and_two_pow_sub_one_eq_mod]
 rw[ez];have hz:=Nat.mod_lt z G;rw[wi ((z%2^bitsLen (b-a):Nat):Int) oJ];refine gQ (fun x w'=>∃o:Nat,x=o/\o<b-a/\jz eA T w0 w' R sb .u64 z) ?_ ?_;apply cD<;>intro C
 have:=C
 exact⟨z%2^bitsLen (b-a)-(b-a),by rw[wi _ oJ];omega,oJ,h⟩
 have:=C
 exact⟨z%2^bitsLen (b-a),rfl,oJ,h⟩;rintro x w5 ⟨o,rfl,ho,h⟩;refine h.drew.arr.Er.swap i (a+o) rfl (by rw[wi _ oJ];omega) oJ oJ oJ fun w6 h6=>?_;rw[wi _ oJ];exact hX _ _ ⟨i+1,_,_,oJ,oJ,oJ,permIn_trans _ _ _ _ _ I (swp_permIn _ _ _ _ _ oJ oJ oJ oJ oJ),h.drew.step h6⟩ oJ;exact J R _ I h.arr;exact J d _ (permIn_refl _ _ _) h
end
end
section
section
variable {eA:Nat} {T:jS} {len cap:Nat}
def qzm:∀(n:Nat) {w0 w:World} {d:Array Int} {a b:Nat} {limit:Int} {K:Unit->WP},b-a<=n->gB eA T w0 w d->a<=b->b<=len->(len<=d.size/\len<=1152921504606846976)->Sort.Below ltInt a b d-> (∀d' w',PermIn a b d d'->SortedIn ltInt a b d'->gB eA T w0 w' d'->K () w')-> cW 177 [.slice (pW eA) len cap,.i a,.i b,.i limit] [] w K:=by
 intro n;induction n using Nat.strongRecOn with
 | _ n ih=>
 intro w0 w d a0 b0 limit0 K hn h hab hb hl hB hk;refine qcA (data:=⟨pW eA,len,cap⟩) ?_;dsimp only;refine iV (fun x w'=>∃(a b:Nat) (l:Int) (wb wp:Bool) (d':Array Int),x=((a:Int),(b:Int),l,wb,wp)/\b-a<=n/\a<=b/\b<=len/\d'.size=d.size/\Sort.Below ltInt a b d'/\gB eA T w0 w' d'/\
   ∀R,PermIn a b d' R->SortedIn ltInt a b R->PermIn a0 b0 d R/\SortedIn ltInt a0 b0 R) (fun x _=>(x.2.1-x.1).toNat)
  ⟨a0,b0,limit0,true,true,d,rfl,hn,hab,hb,rfl,hB,h,fun R h1 h2=>⟨h1,h2⟩⟩ ?_
 rintro x w1 ⟨a,b,l,wb,wp,d1,rfl,hn1,hab,hb,hs1,hB,h,hR⟩ X hX;dsimp only;have e0:IntKind.i64.wrap ((b:Int)-a)=((b-a:Nat):Int):=(by rw[wi _ oJ];omega);rw[e0];apply dR<;>intro hc;refine qzk h hab hb oJ fun w2 h=>?_;obtain⟨h1,h2⟩:=insertionSort_holds AV d1 a b hab oJ;obtain⟨h3,h4⟩:=hR _ h1 h2;exact hk _ _ h3 h4 h;have h12:12<b-a:=(by have:=zB hc;omega);apply dR<;>intro hc;refine qym h hab hb oJ fun w2 h=>?_;obtain⟨h1,h2⟩:=heapSort_holds AV d1 a b hab oJ;obtain⟨h3,h4⟩:=hR _ h1 h2;exact hk _ _ h3 h4 h;refine gQ (fun _ w'=>∃d2,PermIn a b d1 d2/\gB eA T w0 w' d2) ?_ ?_;apply dR<;>intro hc;exact qwQ h hab hb oJ fun d2 w2 hp h=>⟨d2,hp,h⟩;exact⟨d1,permIn_refl _ _ _,h⟩;rintro lim w2 ⟨d2,hp2,h⟩;have hs2:=hp2.1;refine qw3 h oJ hb oJ fun p hint w3 hpp h=>?_;dsimp only;refine gQ (fun x w'=>∃(p:Nat) (hint:Int) (d3:Array Int),x=((p:Int),hint)/\a<=p/\p<b/\PermIn a b d1 d3/\gB eA T w0 w' d3) ?_ ?_;apply dR<;>intro hc;refine qzo h oJ hb oJ fun w4 h=>⟨(b-1)-(p-a),1,_,sh ?_ rfl,oJ,oJ,permIn_trans _ _ _ _ _ hp2 (reverseRange_holds _ _ _ hab oJ),h⟩;rw[wi ((b:Int)-1) oJ,wi ((p:Int)-a) oJ,wi _ oJ];omega;exact⟨p,hint,d2,rfl,hpp.1,hpp.2,hp2,h⟩;rintro x w4 ⟨p,hint,d3,rfl,hp1,hp2,hp3,h⟩;have hs3:=hp3.1;dsimp only;refine gQ (fun _ w'=>∃d4,PermIn a b d1 d4/\gB eA T w0 w' d4) ?_ ?_;refine gQ (fun _ w'=>gB eA T w0 w' d3) ?_ ?_;apply dR<;>intro hc;apply dR<;>intro hc;exact h;exact h;exact h;rintro c w5 h;apply dR<;>intro hc;refine qw4 h oJ hb oJ fun w6 h=>?_;obtain⟨h1,h2⟩:=partialInsertionSort_holds AV d3 a b oJ oJ (hB.perm oJ hp3);apply dR<;>intro hc;obtain⟨h3,h4⟩:=hR _ (permIn_trans _ _ _ _ _ hp3 h1) (h2 hc);exact hk _ _ h3 h4 h;exact⟨_,permIn_trans _ _ _ _ _ hp3 h1,h⟩;exact⟨d3,hp3,h⟩;rintro _ w5 ⟨d4,hp4,h⟩;have hs4:=hp4.1;have hB4:=hB.perm oJ hp4;refine gQ (fun c w'=>c=(decide (0<a)&&!ltInt d4[a-1]! d4[p]!)/\gB eA T w0 w' d4) ?_ ?_;apply dR<;>intro hc;have ha:0<a:=(by have:=zC hc;omega);exact h.drew.rd (a-1) (by rw[wi _ oJ];omega) oJ oJ<|h.drew.rd p rfl oJ oJ<|rI<|⟨by simp[ha],h.drew⟩;have ha:¬0<a:=(by have:=zB hc;omega);exact⟨by simp[ha],h.drew⟩;rintro c w6 ⟨rfl,h⟩;apply dR<;>intro hc;simp only[yA,decide_eq_true_eq,zT] at hc;have hr:=round_eq AV (partitionEqual_holds ltInt) hc.1 hp1 hp2 oJ hB4 hc.2 (mid:=(Sort.partitionEqual ltInt d4 a b p).1) (d4:=(Sort.partitionEqual ltInt d4 a b p).2) rfl;refine qvj h hp1 hp2 hb oJ fun w7 h=>?_;obtain⟨h1,h2,h3,h4,h5⟩:=hr;refine hX _ _ ⟨_,b,lim,wb,wp,_,rfl,oJ,h2,hb,oJ,h4,h,fun R r1 r2=>?_⟩ oN;obtain⟨q1,q2⟩:=h5 R r1 r2;exact hR R (permIn_trans _ _ _ _ _ hp4 q1) q2;have hr:=round_part AV (partition_holds ltInt) hp1 hp2 oJ hB4 (mid:=(Sort.partition ltInt d4 a b p).1) (ap:=(Sort.partition ltInt d4 a b p).2.1) (d4:=(Sort.partition ltInt d4 a b p).2.2) rfl;refine qyp h hp1 hp2 hb oJ fun w7 h=>?_;obtain⟨h1,h2,h3,h4,h5,h6,h7⟩:=hr;dsimp only;generalize (Sort.partition ltInt d4 a b p).1=mid at *
 generalize (Sort.partition ltInt d4 a b p).2.2=d5 at *
 rw[wi ((mid:Int)-a) oJ,wi ((b:Int)-mid) oJ,wi ((mid:Int)+1) oJ,show (mid:Int)+1=((mid+1:Nat):Int) by omega];apply cD<;>intro hc;have hlt:mid-a<b-mid:=oJ;refine ih (mid-a) oJ (zM _) h h1 oJ oJ h4 fun d6 w8 r1 r2 h=>?_;obtain⟨q1,q2⟩:=h6 d6 r1 r2;refine hX _ _ ⟨mid+1,b,lim,_,_,d6,rfl,oJ,oJ,hb,by have:=r1.1;omega,q1,h,fun R s1 s2=>?_⟩ oN;obtain⟨t1,t2⟩:=q2 R s1 s2;exact hR R (permIn_trans _ _ _ _ _ hp4 t1) t2;refine ih (b-(mid+1)) oJ (zM _) h oJ hb oJ h5 fun d6 w8 r1 r2 h=>?_;obtain⟨q1,q2⟩:=h7 d6 r1 r2;refine hX _ _ ⟨a,mid,lim,_,_,d6,rfl,oJ,oJ,oJ,by have:=r1.1;omega,q1,h,fun R s1 s2=>?_⟩ oN;obtain⟨t1,t2⟩:=q2 R s1 s2;exact hR R (permIn_trans _ _ _ _ _ hp4 t1) t2
def qsX{w0:World}{K:Unit->WP}(h:gB eA T w0 w d)(C:len<=d.size/\len<=1152921504606846976)(E:∀u w',PermIn 0 len d u->SortedIn ltInt 0 len u->gB eA T w0 w' u->K () w'): cW 148 [.slice (pW eA) len cap] [] w K:=by refine qhQ (x:=⟨pW eA,len,cap⟩) ?_;dsimp only;rw[IntWalk.u64_in (len:Int) oJ];exact EW oJ<|qzm len (a:=0) oJ h oJ (zM _) C (.inl rfl) E
def qqG{K:Unit->WP}(h:K () w):cW 148 [.slice none 0 0] [] w K:=by refine qhQ (x:=dC) ?_;dsimp only;rw[IntWalk.u64_in ((0:Nat):Int) oJ];exact EW (n:=0) oJ<|qcA (data:=dC)<|AE fun X u=>cond_true (by decide +kernel)<|qbH (data:=dC)<|AE fun X u=>cond_false (by decide +kernel) h
end
end
def qwR{rb cap:Nat}{T:TypeId}{K:Sl->WP}(I:w.heap[rb]?=some (.cells (gY d) T (0,0)))(ag:n<=d.size)(hn:n<=1000000)(hk:∀b U h T' w',w'.heap[b]?=some (.cells (gY U) T' (0,0))->n<=U.size->n<=h/\h<=U.size->U.toList.take n=d.toList.take n->w.heap.size<=b->Fr [] w w'->K ⟨pW b,n,h⟩ w'): cW 176 [.slice (pW rb) n cap] de w K:=by
 obtain⟨V,hi,hz,aa,ab⟩:=uP;refine qgF (s:=⟨pW rb,n,cap⟩)<|cond_false rfl ?_;have C:=oE [] w;refine dM.new C fun tb w1 et aj C=>?_;have ac:w1.heap[rb]?=some (.cells (gY d) T (0,0)):=(by rw[C.fr.block rb (eT I) oL];exact I);have G:∀(j:Nat) u,((d.toList.take n).map (Value.int .u32))[j]?=some u->w1.cell? (((dd rb):Addr).add j)=some u:=fun j u E=>by rw[Addr.q9,je ac,xR];rw[zQ,xA] at E;by_cases hjn:j<n;rw[if_pos hjn] at E;unfold gY;rw[Array.getElem?_map];simpa using E;rw[if_neg hjn] at E;cases E
 have J:((d.toList.take n).map (Value.int .u32)).length=n:=oO;dsimp only;by_cases h0:n=0;subst h0;refine qs3 (P:=prog) (e:=63) oK hi [] (C.at (i:=0) rfl) oL (fun j u E=>by simp at E) oL oJ oL ?_;have R:=C.gL (o':=.cells (dN #[] (0+0*V.size) []) 63 (0,0)) 0 rfl
 have:=R.at (i:=0) rfl
 have e:gY #[] = #[]:=(by simp[gY]);exact hk tb #[] 0 63 _ (by rw[e];exact this) oL ⟨zM _,zM _⟩ oL oJ R.fr;refine qqI (P:=prog) (e:=63) oK hi hz [] ((d.toList.take n).map (Value.int .u32)) oL (fun j u E=>by simp at E) (by rw[J,aa];omega) G oJ (by rw[ab];omega) oJ fun q ak al=>?_;rw[qn2 _ _ rfl];have ad:([]:List Value).toArray++((d.toList.take n).map (Value.int .u32)).toArray++Array.replicate (q-(0+n)) (.u 0)=gY ((d.toList.take n++List.replicate (q-(0+n)) (0:Int)).toArray):=(by rw[De];apply Array.ext';simp);rw[ad];have C:=C.drew.alloc (.cells (gY ((d.toList.take n++List.replicate (q-(0+n)) (0:Int)).toArray)) 63 (0,0));have hl:(d.toList.take n).length=n:=oO;rw[xR];refine hk _ _ q _ _ (by have:=C.at (i:=0) rfl;rw[xR] at this;exact this) oO ⟨oJ,by simp;omega⟩ ?_ (by show w.heap.size<=w1.heap.size;omega) (by rw[xR] at C;exact C.fr);show ((d.toList.take n++List.replicate (q-n) (0:Int))).take n=_;rw[take_append_of_le_length oJ,take_take,Nat.min_self]
def EJ:∀ {u C:List Int},u.Perm C->u.Pairwise (·<=·)->C.Pairwise (·<=·)->u=C
 | [],C,h,_,_=>h.nil_eq
 | a::u,[],h,_,_=>absurd h.symm.nil_eq oL
 | a::u,b::C,h,R,U=>by
  have E:=yI.1 R;have G:=yI.1 U;have I:a=b:=by
   have V:a∈b::C:=h.mem_iff.1 oL;have m2:b∈a::u:=h.mem_iff.2 oL;rcases zG.1 V with e|e;exact e;rcases zG.1 m2 with J|J;exact J.symm
   have:=G.1 a e
   have:=E.1 b J
   omega
  subst I;rw[EJ h.cons_inv E.2 G.2]
def Told (w w':World) (s:Sl) (l:List Int):Prop:=
 (l=[]/\s=dC)\/∃b d T cap,s=⟨pW b,l.length,cap⟩/\w'.heap[b]?=some (.cells (gY d) T (0,0))/\l.length<=d.size/\l.length<=cap/\d.toList.take l.length=l/\w.heap.size<=b/\cap<=d.size
def qsU{pb:Nat}{F:List Nat}{K:Sl->WP}(h:gE w pb F l)(hl:l.length<=1000000)(hk:∀s w',Told w w' s l->Fr [] w w'->K s w'):cW 147 [dB pb] de w K:=by
 refine qk1 ?_;have u:=h.pz;obtain⟨mb,R,d,f,rfl,hr,hm,hp,hh,hf,h1⟩:=h.ex;rcases hr with ⟨h0,hd,hR,I⟩|⟨rb,T,hR,I,J,aq,U⟩;have V:l=[]:=eq_nil_of_length_eq_zero h0;subst V;exact fq<|iG I dC rfl<|qgF<|cond_true rfl<|qqG<|hk _ _ (.inl ⟨rfl,rfl⟩) (.refl _ _);refine fq<|iG I ⟨pW rb,l.length,d.size⟩ rfl ?_;dsimp only;refine qwR J U hl fun b d' C T' w' c1 c2 aa c3 c4 c5=>?_;dsimp only;refine qsX (.start c1) ⟨c2,oJ⟩ fun d2 w2 s1 s2 s3=>?_;have ay:=s1.1;refine hk _ _ (.inr ⟨b,d2,T',C,rfl,s3.eA,oJ,aa.1,?_,c4,oJ⟩) (c5.j8 s3.fr fun i E=>by simp at E;subst E;exact .inr c4);refine EJ ((AS s1).trans (by rw[c3];exact hp)) ?_ (u.imp Int.le_of_lt);rw[pairwise_iff_getElem];intro i j E hj ac;have ad:i<l.length:=(by simp at E;omega);have G:j<l.length:=(by simp at hj;omega);have g1:=ww (d:=d2) rfl ad oJ;have g2:=ww (d:=d2) rfl G oJ;rw[zA E] at g1;rw[zA hj] at g2;rw[yN g1,yN g2]
 have:=s2 i j oJ ac G
 simp[ltInt] at this;exact this
abbrev ik:Int->List Value:=fun n=>[Value.int .u32 n]
abbrev Rd (S:List Nat) (w:World) (s:Sl) (l:List Int):Prop:=dW ik 1 S w s l
abbrev kQ (w:World) (s:Sl) (l:List Int) (B:List Nat):Prop:=eO ik 1 w s l B
def qy:∀x,(ik x).length=1:=fun _=>rfl
def Rd.at{S:List Nat}{s:Sl}(h:Rd S w s l)(n:Nat){i x:Int}{K:Int->Prop}(hi:i=n)(C:l[n]?=some x)(k:K x):idx s i 1 fun a=>ld .u a w K:=
 dW.get (y:=x) h n hi C rfl k
def DC{s:Sl}{B:List Nat}{x:Int}{T:TypeId}{K:Sl->WP}(h:kQ w s l B)(U:l.length<=1000000)(I:∀G B' w',kQ w' G (l++[x]) B'->Fr B w w'->(∀b∈B',b∈B\/w.heap.size<=b)->K G w'): Pt.new (.cells #[.u x] T) w fun r w1=>Pt.run de ((Builtin.append_ #[172,172] 172 #[s.v,.slice (pW r) 1 1]).run prog w1) K:=by obtain⟨i,J,R,C,E⟩:=uP;exact eO.push (e:=63) h qy (by simp[Value.oneCell']) oK J R C rfl rfl (by rw[E];omega) oJ I
def CO{w0:World}{F F':List Nat}(u:∀b∈F,w0.heap.size<=b)(E:w0.heap.size<=w.heap.size)(h:∀b∈F',b∈F\/w.heap.size<=b):∀b∈F',w0.heap.size<=b:=by intro b C;rcases h b C with h|h;exact u b h;omega
end
section
set_option maxRecDepth 100000
open Go Go.Pt
end
section
set_option maxRecDepth 100000
open Go Go.Pt
variable {K:Int->WP} {s:Option Addr} {w:World}
@[reducible] def zd:List Cell:=ku
@[reducible] def qx8:List Cell:=oq
@[reducible] def uT:List Cell:=iS
@[reducible] def zg:List Cell:=lX

def qrY{p:Option Addr}{K:((Option Addr))->WP}(hF:new (.cells #[.pointer p] 100) w fun a b=>K (pW a) b):cW 63 [.pointer p] dt w K:=eu (an:=[]) func63 hF

def qft{a:HL zd}(hF:new (.cells (List.toArray (HL.mk zd a)) 74) w fun b c=>dJ (zd) (dd b) c fun d=>cW 52 ([fJ zd d]) dk c fun (e:Sl×Sl) f=>nn s fun g=>ld .ptr g f fun h=>cW 50 ([.pointer h,.i 0,e.fst.v,e.snd.v]) df f fun (i:Int) j=>K i j):cW 20 [.pointer s,fJ zd a] df w K:=eu (an:=[]) func20 hF

def qe1{x:List Value}(hF:new (.cells (List.toArray x) 79) w fun b c=>dJ (qx8) (dd b) c fun d=>new (.cells #[.int .u64 0,.int .u64 0,.int .u64 0,.int .u64 0,.int .u64 0,.int .u64 0,.int .u64 0,.int .u64 0,.int .u64 0,.int .u64 0,.int .u64 0,.u 0,.u 0,.int .u16 0,.int .u16 0,.int .u64 0] 77) c fun e f=>st (dd e) (HL.mk qx8 d) f fun g=>iH 18 (dd b) g fun h=>cW 59 ([.agg (List.toArray h)]) dk g fun (i:Sl×Sl) j=>nn s fun k=>ld .ptr k j fun l=>cW 50 ([.pointer l,.i 1,i.fst.v,i.snd.v]) df j fun (m:Int) n=>cond (!m==0) (K m n) (nn s fun o=>ld .ptr o n.drew fun p=>dJ dc (dd e 2) n.drew fun q=>ld (.int .u64) (dd e 15) n.drew fun (r:Int)=>dJ dc (dd e) n.drew fun t=>cW 38 ([c6 q.fst q.snd,.int .u64 r]) de n.drew fun u v=>held [jp (dd e) 0 ([.int .u64 t.fst,.int .u64 t.snd]),dO o (.pointer p)] v<|cW 55 ([c6 t.fst t.snd]) de v fun A B=>held [dO o (.pointer p)] B<|cW 50 ([.pointer p,.i 4,u.v,A.v]) df B fun (D:Int) E=>cond (!D==0) (K D E) (nn s fun F=>ld .ptr F E.drew fun G=>dJ dc (dd e 4) E.drew fun H=>ld (.int .u64) (dd e 15) E.drew fun (I:Int)=>dJ dc (dd e) E.drew fun J=>cW 38 ([c6 H.fst H.snd,.int .u64 I]) de E.drew fun L M=>held [jp (dd e) 0 ([.int .u64 J.fst,.int .u64 J.snd]),dO F (.pointer G)] M<|cW 55 ([c6 J.fst J.snd]) de M fun P Q=>held [dO F (.pointer G)] Q<|cW 50 ([.pointer G,.i 5,L.v,P.v]) df Q fun (S:Int) T=>K S T))):cW 24 [.pointer s,.agg x.toArray] df w K:=eu (an:=aS [(9,.o [[0,1,2,3,4,5,6,7,9,10,8,11,12,13]]),(3,.o [[0,1,2,3,4,5,6,7,9,10,8,11,12,13]])]) func24 hF

def qfW{id0 id1 state:Int}(hF:new (.cells #[.int .u64 id0,.int .u64 id1] 39) w fun b c=>(nn s fun d=>ld .ptr d c.drew fun e=>dJ dc (dd b) c.drew fun f=>cW 55 ([c6 f.fst f.snd]) de c.drew fun g h=>held [dO d (.pointer e)] h<|new (.cells #[.b state] 5) h fun j k=>held [jp (dd b) 0 ([.int .u64 f.fst,.int .u64 f.snd]),dO d (.pointer e)] k<|cW 50 ([.pointer e,.i 2,g.v,.slice (pW j) 1 1]) df k fun (n:Int) o=>K n o)/\(nn s fun p=>ld .ptr p c.drew fun q=>dJ dc (dd b) c.drew fun r=>new (.cells #[.b state] 5) c.drew fun t u=>held [jp (dd b) 0 ([.int .u64 r.fst,.int .u64 r.snd]),dO p (.pointer q)] u<|cW 55 ([c6 r.fst r.snd]) de u fun y z=>held [dO p (.pointer q)] z<|cW 50 ([.pointer q,.i 2,y.v,.slice (pW t) 1 1]) df z fun (B:Int) C=>K B C)):cW 67 [.pointer s,c6 id0 id1,.b state] df w K:=eu (an:=[.n,.n,.o [[0,1,2,3,4,6,5,7,8,9],[0,1,2,3,4,6,7,5,8,9]]]) func67 hF

def qhU{d0 d1 d2 d3:Int}(hF:new (.cells #[.int .u64 d0,.int .u64 d1,.int .u64 d2,.int .u64 d3] 41) w fun b c=>dJ (uT) (dd b) c fun d=>cW 60 ([fJ uT d]) dk c fun (e:Sl×Sl) f=>nn s fun g=>ld .ptr g f fun h=>cW 50 ([.pointer h,.i 3,e.fst.v,e.snd.v]) df f fun (i:Int) j=>K i j):cW 26 [.pointer s,.agg #[.int .u64 d0,.int .u64 d1,.int .u64 d2,.int .u64 d3]] df w K:=eu (an:=[]) func26 hF

def qhT{d0 d1 d2 d3:Int}(hF:new (.cells #[.int .u64 d0,.int .u64 d1,.int .u64 d2,.int .u64 d3] 41) w fun b c=>dJ (uT) (dd b) c fun d=>cW 60 ([fJ uT d]) dk c fun (e:Sl×Sl) f=>nn s fun g=>ld .ptr g f fun h=>cW 61 ([.pointer h,.i 3,e.fst.v]) df f fun (i:Int) j=>K i j):cW 25 [.pointer s,.agg #[.int .u64 d0,.int .u64 d1,.int .u64 d2,.int .u64 d3]] df w K:=eu (an:=[]) func25 hF

def qkk{J0 most:Int}{K:Sl->WP}(hF:nn s fun b=>ld .ptr b w.drew fun c=>cW 35 ([.int .u64 J0,.int .u64 18446744073709551615]) de w.drew fun d e=>held [dO b (.pointer c)] e<|cW 34 ([.pointer c,.i 3,.slice none 0 0,d.v,.bool false,.i most]) de e fun g h=>loop (Sl×Int) (fun i (j:Sl×Int) k=>cond (decide (j.snd<(↑g.len:Int))) (join (Sl) (fun l=>idx g j.snd 2 fun m=>dJ ([.slice,.slice]) m k fun n=>new (.cells cZ 104) k fun o p=>st (dd o) ([n.fst.v,n.snd.v]) p fun q=>ld .slice (dd o) q fun r=>ld .slice (dd o 1) q fun t=>cW 36 ([r.v,t.v]) ([.agg uT,.one .bool]) q fun (u:(Int×Int×Int×Int)×Bool) v=>new (.cells cY 41) v fun x y=>st (dd x) (HL.mk uT u.fst) y fun z=>cond u.snd (dJ (uT) (dd x) z fun A=>new (.cells (List.toArray (HL.mk uT A)) 41) z fun B C=>iK (#[29,29]) 29 (#[j.fst.v,.slice (pW B) 1 1]) C fun D E=>l D E) (l j.fst z)) fun F G=>i ((F,IntKind.wrap .i64 (j.snd+1))) G) (K j.fst k)) (({ a:=none,len:=0,cap:=0 },0)) h):cW 10 [.pointer s,.int .u64 J0,.i most] de w K:=eu (an:=aS [(4,.o [[0,1,2,3,4,6,9,5,7,8]]),(0,.l [(7,.one .slice),(21,.one .i)]),(2,.j [(7,.one .slice)])]) func10 hF

def qhV{account0 account1:Int}{r:HL zg}(hF:new (.cells #[.int .u64 account0,.int .u64 account1] 39) w fun b c=>new (.cells (List.toArray (HL.mk zg r)) 62) c fun d e=>dJ dc (dd b) e fun f=>dJ (zg) (dd d) e fun g=>cW 111 ([c6 f.fst f.snd,fJ zg g]) dk e fun (h:Sl×Sl) i=>nn s fun j=>ld .ptr j i fun k=>cW 50 ([.pointer k,.i 6,h.fst.v,h.snd.v]) df i fun (l:Int) m=>K l m):cW 71 [.pointer s,c6 account0 account1,fJ zg r] df w K:=eu (an:=[]) func71 hF
end
section
set_option maxRecDepth 100000
open Go Go.Pt
end
section
set_option maxRecDepth 100000
open Go Go.Pt

variable {w:World}
def qhf{blocks:Int}{K:((Option Addr)×(Option Addr))->WP}(hF:cW 62 ([.i blocks]) du w fun (a:Option Addr×Option Addr) b=>cond (Option.isNone a.snd) (K ((none,none)) b) (cW 63 ([.pointer a.snd]) dt b fun c d=>K ((c,a.snd)) d)):cW 32 [.i blocks] du w K:=eu (an:=[]) func32 hF
@[reducible] def iU:List Cell:=fT
variable {K:((Option Addr)×(HL iU)×Bool)->WP}
@[reducible] def Af:List Cell:=ku
@[reducible] def pZ:List Cell:=iS
@[reducible] def AJ:List Cell:=lX

def qg7{s:Option Addr}{n:Int}{K:Int->WP}(hF:(nn s fun b=>ld .ptr b w.drew fun c=>new (.cells #[.b 1] 5) w.drew fun d e=>held [dO b (.pointer c)] e<|cW 51 ([.int .u64 n]) de e fun g h=>held [dO b (.pointer c)] h<|cW 50 ([.pointer c,.i 7,.slice (pW d) 1 1,g.v]) df h fun (j:Int) k=>K j k)/\(nn s fun l=>ld .ptr l w.drew fun m=>cW 51 ([.int .u64 n]) de w.drew fun o p=>held [dO l (.pointer m)] p<|new (.cells #[.b 1] 5) p fun r t=>held [dO l (.pointer m)] t<|cW 50 ([.pointer m,.i 7,.slice (pW r) 1 1,o.v]) df t fun (v:Int) x=>K v x)):cW 19 [.pointer s,.int .u64 n] df w K:=eu (an:=[.n,.n,.o [[0,1,2,3,5,4,6,7,8],[0,1,2,3,5,6,4,7,8]]]) func19 hF

def qhg{s p:Option Addr}{b:HL iU}{o:List Value}{K:((HL iU)×Bool)->WP}(hF:new (.cells (List.toArray (HL.mk iU b)) 34) w fun a c=>new (.cells (List.toArray o) 81) c fun d e=>new (.cells cq 34) e fun f g=>ld .b (dd d) g fun (h:Int)=>cond (Int.tmod h 8==0) (dJ (iU) (dd a) g.drew fun i=>dJ (Af) (dd d 1) g.drew fun j=>dJ (Af) (dd d 1) g.drew fun k=>cW 64 ([fJ iU i,fJ Af j]) ([.agg iU]) g.drew fun (l:Sl×Sl×Sl×Sl×Sl×Sl×Sl×Int×Bool×Sl) m=>held [jp (dd d 1) 0 (HL.mk Af k)] m<|cW 20 ([.pointer s,fJ Af k]) df m fun (q:Int) r=>st (dd f) (HL.mk iU l) r fun t=>dJ (iU) (dd f) t fun u=>K ((u,q==0)) t) (cond (Int.tmod h 8==1) (dJ (iU) (dd a) g.drew fun v=>iH 18 (dd d 16) g.drew fun x=>iH 18 (dd d 16) g.drew fun y=>cW 65 ([fJ iU v,.agg (List.toArray x)]) ([.agg iU]) g.drew fun (z:Sl×Sl×Sl×Sl×Sl×Sl×Sl×Int×Bool×Sl) A=>held [jp (dd d 16) 0 y] A<|cW 24 ([.pointer s,.agg (List.toArray y)]) df A fun (C:Int) D=>st (dd f) (HL.mk iU z) D fun E=>dJ (iU) (dd f) E fun F=>K ((F,C==0)) E) (cond (Int.tmod h 8==2) (dJ (iU) (dd a) g.drew fun G=>dJ dc (dd d 34) g.drew fun H=>ld .b (dd d 36) g.drew fun (I:Int)=>dJ dc (dd d 34) g.drew fun J=>ld .b (dd d 36) g.drew fun (L:Int)=>cW 66 ([fJ iU G,c6 H.fst H.snd,.b I]) ([.agg iU]) g.drew fun (M:Sl×Sl×Sl×Sl×Sl×Sl×Sl×Int×Bool×Sl) N=>held [dO (dd d 36) (.b L),jp (dd d 34) 0 ([.int .u64 J.fst,.int .u64 J.snd])] N<|cW 67 ([.pointer s,c6 J.fst J.snd,.b L]) df N fun (Q:Int) R=>st (dd f) (HL.mk iU M) R fun S=>dJ (iU) (dd f) S fun T=>K ((T,Q==0)) S) (cond (Int.tmod h 8==3) (dJ (iU) (dd a) g.drew fun U=>dJ (pZ) (dd d 37) g.drew fun V=>dJ (pZ) (dd d 37) g.drew fun W=>cW 68 ([fJ iU U,fJ pZ V]) ([.agg iU]) g.drew fun (X:Sl×Sl×Sl×Sl×Sl×Sl×Sl×Int×Bool×Sl) Y=>held [jp (dd d 37) 0 (HL.mk pZ W)] Y<|cW 26 ([.pointer s,fJ pZ W]) df Y fun (aa:Int) ab=>st (dd f) (HL.mk iU X) ab fun ac=>dJ (iU) (dd f) ac fun ad=>K ((ad,aa==0)) ac) (cond (Int.tmod h 8==4) (dJ (iU) (dd a) g fun ae=>dJ (pZ) (dd d 37) g fun af=>cW 69 ([fJ iU ae,fJ pZ af]) ([.agg iU,.one .bool]) g fun (ag:(Sl×Sl×Sl×Sl×Sl×Sl×Sl×Int×Bool×Sl)×Bool) ah=>new (.cells cq 34) ah fun ai aj=>st (dd ai) (HL.mk iU ag.fst) aj fun ak=>join (Int) (fun al=>cond ag.snd (al 0 ak) (al 5 ak)) fun (am:Int) an=>dJ (iU) (dd ai) an.drew fun ao=>dJ (pZ) (dd d 37) an.drew fun ap=>cW 25 ([.pointer s,fJ pZ ap]) df an.drew fun (aq:Int) ar=>held [jp (dd ai) 0 (HL.mk iU ao)] ar<|st (dd f) (HL.mk iU ao) ar fun av=>dJ (iU) (dd f) av fun aw=>K ((aw,aq==am)) av) (cond (Int.tmod h 8==5) (dJ (iU) (dd a) g.drew fun ax=>dJ dc (dd d 34) g.drew fun ay=>dJ (AJ) (dd d 41) g.drew fun az=>dJ dc (dd d 34) g.drew fun aA=>dJ (AJ) (dd d 41) g.drew fun aB=>cW 70 ([fJ iU ax,c6 ay.fst ay.snd,fJ AJ az]) ([.agg iU]) g.drew fun (aC:Sl×Sl×Sl×Sl×Sl×Sl×Sl×Int×Bool×Sl) aD=>held [jp (dd d 41) 0 (HL.mk AJ aB),jp (dd d 34) 0 ([.int .u64 aA.fst,.int .u64 aA.snd])] aD<|cW 71 ([.pointer s,c6 aA.fst aA.snd,fJ AJ aB]) df aD fun (aG:Int) aH=>st (dd f) (HL.mk iU aC) aH fun aI=>dJ (iU) (dd f) aI fun aJ=>K ((aJ,aG==0)) aI) (cond (Int.tmod h 8==6) (ld (.int .u64) (dd d 51) g fun (aL:Int)=>st (dd a 7) ([.int .u64 aL]) g fun aM=>st (dd a 8) ([.bool true]) aM fun aN=>dJ (iU) (dd a) aN.drew fun aO=>ld (.int .u64) (dd d 51) aN.drew fun (aP:Int)=>cW 19 ([.pointer s,.int .u64 aP]) df aN.drew fun (aQ:Int) aR=>held [jp (dd a) 0 (HL.mk iU aO)] aR<|st (dd f) (HL.mk iU aO) aR fun aT=>dJ (iU) (dd f) aT fun aU=>K ((aU,aQ==0)) aT) (dJ (iU) (dd a) g.drew fun aV=>cW 72 ([.pointer p]) df g.drew fun (aW:Int) aX=>held [jp (dd a) 0 (HL.mk iU aV)] aX<|st (dd f) (HL.mk iU aV) aX fun aZ=>dJ (iU) (dd f) aZ fun ba=>K ((ba,aW==0)) aZ)))))))):cW 33 [.pointer s,.pointer p,fJ iU b,.agg o.toArray] [.agg iU,.one .bool] w K:=eu (an:=aS [(5,.o [[0,1,2,4,5,6,3,7,8,9,10]]),(2,.o [[0,1,2,4,5,6,3,7,8,9,10]]),(2,.o [[0,1,2,3,4,6,7,8,9,10,5,11,12,13,14]]),(2,.o [[0,1,2,4,5,6,3,7,8,9,10]]),(3,.j [(12,.one .i)]),(2,.o [[0,1,2,3,5,4,6,7,8]]),(2,.o [[0,1,2,3,4,6,7,8,9,10,5,11,12,13,14]])]) func33 hF

def qgU{ops:Sl}(hF:new (.cells cq 34) w fun a b=>cW 32 ([.i 900]) du b fun (c:Option Addr×Option Addr) d=>cond (Option.isNone c.fst) (st (dd a) ([.slice none 0 0,.slice none 0 0,.slice none 0 0,.slice none 0 0,.slice none 0 0,.slice none 0 0,.slice none 0 0,.int .u64 0,.bool false,.slice none 0 0]) d fun e=>dJ (iU) (dd a) e fun f=>K ((none,f,false)) e) (new (.cells cq 34) d fun g h=>loop (Int) (fun i (j:Int) k=>cond (decide (j<(↑ops.len:Int))) (idx ops j 52 fun l=>iH 52 l k fun m=>fi prog 81 k fun n o=>gT (List.length m=52)<|st (dd n) m o fun p=>dJ (iU) (dd g) p fun q=>iH 52 (dd n) p fun r=>cW 33 ([.pointer c.fst,.pointer c.snd,fJ iU q,.agg (List.toArray r)]) ([.agg iU,.one .bool]) p fun (s:(Sl×Sl×Sl×Sl×Sl×Sl×Sl×Int×Bool×Sl)×Bool) t=>new (.cells cq 34) t fun u v=>st (dd u) (HL.mk iU s.fst) v fun x=>cond (!s.snd) (dJ (iU) (dd g) x.drew fun y=>st (dd a) (HL.mk iU y) x.drew fun z=>dJ (iU) (dd a) z fun A=>K ((none,A,false)) z) (dJ (iU) (dd u) x fun B=>st (dd g) (HL.mk iU B) x fun C=>i (IntKind.wrap .i64 (j+1)) C)) (dJ (iU) (dd g) k.drew fun D=>st (dd a) (HL.mk iU D) k.drew fun E=>dJ (iU) (dd a) E fun F=>K ((c.fst,F,true)) E)) 0 h)):cW 9 [ops.v] [.one .ptr,.agg iU,.one .bool] w K:=eu (an:=aS [(8,.l [(21,.one .i)])]) func9 hF
def qdy  (K:Bool->WP) (w:World):Prop:=cW 32 ([.i 40]) du w fun (a:Option Addr×Option Addr) b=>join (Bool) (fun c=>cond (Option.isNone a.fst) (c true b) (cW 26 ([.pointer a.fst,.agg #[.int .u64 9,.int .u64 2,.int .u64 0,.int .u64 0]]) df b fun (d:Int) e=>cond (!d==0) (c true e) (cW 26 ([.pointer a.fst,.agg #[.int .u64 5,.int .u64 3,.int .u64 0,.int .u64 0]]) df e fun (f:Int) g=>c (!f==0) g))) fun (h:Bool) i=>cond h (K false i) (cW 10 ([.pointer a.fst,.int .u64 9,.i 1]) de i fun j k=>cond ((↑j.len:Int)==1) (idx j 0 4 fun l=>dJ (pZ) l k fun (m:Int×Int×Int×Int)=>fc dg (fun n=>(do eqGuard BinOp.eql 41 (Operand.tmp 30) (Operand.tmp 31) (fJ pZ m) (.agg #[.int .u64 5,.int .u64 3,.int .u64 0,.int .u64 0]);binOp BinOp.eql 41 (fJ pZ m) (.agg #[.int .u64 5,.int .u64 3,.int .u64 0,.int .u64 0])).run prog n) k fun (o:Bool)=>K o k) (K false k))
def qgV{w K}(hF:qdy  K w):cW 8 [] dg w K:=eu (an:=aS [(3,.j [(21,.one .bool)])]) func8 hF

def qfj{ops:Sl}{J0 most:Int}{K:Bool->WP}(hF:cond (decide ((↑ops.len:Int)>60)) (cW 8 [] dg w fun (b:Bool) c=>K b c) (cW 9 ([ops.v]) ([.one .ptr,.agg iU,.one .bool]) w fun (d:Option Addr×(Sl×Sl×Sl×Sl×Sl×Sl×Sl×Int×Bool×Sl)×Bool) e=>new (.cells cq 34) e fun f g=>st (dd f) (HL.mk iU d.snd.fst) g fun h=>cond (!d.snd.snd) (K false h) (dJ (iU) (dd f) h.drew fun i=>cW 10 ([.pointer d.fst,.int .u64 J0,.i most]) de h.drew fun j k=>held [jp (dd f) 0 (HL.mk iU i)] k<|cW 11 ([fJ iU i,.int .u64 J0,.i most]) de k fun m n=>cond (!(↑j.len:Int)==(↑m.len:Int)) (K false n) (loop (Int) (fun o (p:Int) q=>cond (decide (p<(↑j.len:Int))) (idx j p 4 fun r=>dJ (pZ) r q.drew fun s=>idx m p 4 fun t=>dJ (pZ) t q.drew fun u=>fc dg (fun v=>(do eqGuard BinOp.neq 41 (Operand.tmp 46) (Operand.tmp 50) (fJ pZ s) (fJ pZ u);binOp BinOp.neq 41 (fJ pZ s) (fJ pZ u)).run prog v) q.drew fun (x:Bool)=>cond x (K false q.drew) (o (IntKind.wrap .i64 (p+1)) q.drew)) (cW 8 [] dg q fun (y:Bool) z=>K y z)) 0 n)))):cW 3 [ops.v,.int .u64 J0,.i most] dg w K:=eu (an:=aS [(9,.o [[0,1,2,4,5,6,3,7,8,9]]),(5,.l [(40,.one .i)])]) func3 hF
end
section
set_option maxRecDepth 100000
open Go Go.Pt
end
section
open Go Go.Pt List
open Go.IntKind (wrap)
attribute [local irreducible] ld dJ iH mZ i7 fi st new idx i8 jr fB js iY lV gT nn call dV inv run fc iM join loop held ext jR eI mH mz mI IntKind.wrap
variable {K:Sl->Prop} {L:List (Nat×Obj)} {S:List Nat} {T:TypeId} {body l:List Int} {number:Int} {s:Sl} {w:World}
abbrev encB:Int->List Value:=fun n=>[Value.int .u8 n]
abbrev eE (S:List Nat) (w:World) (s:Sl) (l:List Int):Prop:=dW encB 1 S w s l
abbrev fO (w:World) (s:Sl) (l:List Int) (B:List Nat):Prop:=eO encB 1 w s l B
def k8:∀x,(encB x).length=1:=fun _=>rfl
def fM (l:List Int):Array Value:=(l.map (Value.int .u8)).toArray
def wW(l:List Int):(fM l).size=l.length:=by simp[fM]
def qI(l:List Int):l.flatMap encB=l.map (Value.int .u8):=by
 induction l with
 | nil=>rfl
 | cons a l ih=>rw[yG,ih];rfl
def uL:∃i,prog.info? 5=some i/\i.zero=some (.b 0)/\i.size=1/\i.bytes=1:=se oK
def eE.at(h:eE S w s l)(n:Nat){i x:Int}{K:Int->Prop}(hi:i=n)(u:l[n]?=some x)(k:K x):idx s i 1 fun a=>ld .b a w K:=
 dW.get (y:=x) h n hi u rfl k
def uG{b o n cap:Nat}{L:List Int}{u:Nat×Nat}(C:w.heap[b]?=some (.cells (fM L) T u))(J:o+n<=L.length)(E:n<=cap)(G:b∉S):eE S w ⟨some (dd b o),n,cap⟩ ((L.drop o).take n):=by
 refine⟨by rw[yK,yB];dsimp only;omega,E,.inr ⟨b,o,_,T,_,rfl,C,G,fun i x h=>?_⟩⟩;have I:=(zP.1 h).1;rw[yK,yB] at I;rw[xA,iP,yZ] at h;rw[xS];apply ext_getElem?;intro j;rw[xA,yZ];match j with
 | 0=>simp[fM,h]
 | j+1=>simp
def BD{b o len cap:Nat}{lo hi:Int}{h:Nat}(u:0<=lo)(C:lo<=hi)(E:hi<=cap)(G:lo<cap)(k:K ⟨some ⟨b,o+lo.toNat*h,none⟩,hi.toNat-lo.toNat,cap-lo.toNat⟩):fB ⟨some (dd b o),len,cap⟩ (some lo) (some hi) none h K:=by unfold fB;refine⟨by simpa using ⟨u,C,E⟩,?_⟩;simp only[xV,xU,zJ];rw[iN];simp only[Option.map_some,Addr.q9];exact k
def CB{b o len cap:Nat}{lo:Int}{h:Nat}(u:0<=lo)(C:lo<=len)(E:len<=cap)(G:lo<cap)(k:K ⟨some ⟨b,o+lo.toNat*h,none⟩,len-lo.toNat,cap-lo.toNat⟩):fB ⟨some (dd b o),len,cap⟩ (some lo) none none h K:=by unfold fB;refine⟨by simp;omega,?_⟩;simp only[xV,xU,zJ];rw[iN];simp only[Option.map_some,Addr.q9];exact k
def dW.part{α:Type}{enc:α->List Value}{k:Nat}{l:List α}(h:dW enc k S w s l){lo hi:Option Int}(a b:Nat)(u:lo.getD 0=a)(C:hi.getD s.len=b)(aa:a<=b)(U:b<=l.length)(kk:∀E,E.len=b-a->dW enc k S w E ((l.take b).drop a)->(s.a.isNone=true->E.a.isNone=true)->K E):fB s lo hi none k K:=by
 obtain⟨h1,h2,I⟩:=h;unfold fB;refine⟨by rw[u,C];simp;omega,kk _ ?_ ⟨?_,?_,?_⟩ ?_⟩;rw[u,C];simp;rw[u,C];simp;omega;rw[u,C];simp;omega;by_cases he:(l.take b).drop a=[];exact .inl he;right;have ac:a<b:=by rcases Nat.lt_or_ge a b with h|h;exact h;exact absurd (by rw[vD];simp;omega) he
 rcases I with I|⟨bl,o,cs,T,fr,ha,J,R,hc⟩;rw[I] at U;simp at U;omega;refine⟨bl,o+a*k,cs,T,fr,?_,J,R,fun i x G=>?_⟩;rw[u];simp only[xV,zJ];rw[iN,ha];simp[Addr.q9];rw[yZ,xA] at G;split at G
 have:=hc (a+i) x G
 rw[<- this,xT,Nat.add_assoc];cases G;intro V;rw[Option.isNone_iff_eq_none] at V;rw[V];simp
def gl (n:Int) (j:Nat):Int:=wrap .u8 (Int.fdiv n (2^min (8*j) 32))
def be (n:Int) (k:Nat):List Int:=(List.range k).map fun i=>gl n (k-1-i)
def jQ(n:Int)(k:Nat):(be n k).length=k:=by simp[be]
def gc(n:Int)(h:-1000000000000000<=n/\n<=1000000000000000):wrap .i64 n=n:=by rw[IntWalk.i64_in];omega
def DA{w0:World}{b o k cap:Nat}{A X Z:List Int}{n:Int}{K:Unit->WP}(h:dM S w0 w L)(i:Nat)(hi:L[i]?=some (b,.cells (fM (A++X++Z)) T (0,0)))(ho:A.length=o)(hX:X.length=k)(aa:k<=4)(hk:∀w',dM S w0 w' (L.set i (b,.cells (fM (A++be n k++Z)) T (0,0)))->K () w'): cW 181 [.slice (some (dd b o)) k cap,.u n] [] w K:=by
 refine qsH (b:=⟨some (dd b o),k,cap⟩)<|iV (fun x w'=>∃j:Nat,x=j/\j<=k/\dM S w0 w' (L.set i (b,.cells (fM (A++((be n k).take j++X.drop j)++Z)) T (0,0)))) (fun x _=>((k:Int)-x).toNat) ⟨0,rfl,oJ,?_⟩ ?_;have:L.set i (b,.cells (fM (A++((be n k).take 0++X.drop 0)++Z)) T (0,0))=L:=by
  apply ext_getElem?;intro j;rw[List.getElem?_set];by_cases hij:i=j;subst hij;rw[if_pos rfl,hi]
  have:=(zP.1 hi).1
  simp[this];rw[if_neg hij]
 rw[this];exact h;rintro x w1 ⟨j,rfl,hj,E⟩ Y hY;have R:=(zP.1 hi).1;dsimp only;apply cD<;>intro U;have G:j<k:=oJ;have e1:wrap .i64 (8*wrap .i64 (wrap .i64 ((k:Int)-1)-j))=((8*(k-1-j):Nat):Int):=by rw[gc ((k:Int)-1) oJ,gc ((k:Int)-1-j) oJ,gc (8*((k:Int)-1-j)) oJ];omega
 rw[e1,gc _ oJ];refine pc oJ<|tY oJ oJ ?_;rw[zJ,xS,zJ];have I:X.drop j=X[j]::X.drop (j+1):=zX oJ;have V:(be n k).take (j+1)=(be n k).take j++[gl n (k-1-j)]:=by rw[yF (by rw[jQ];exact G)];simp[be]
 have C:((be n k).take j).length=j:=(by rw[yK,jQ];omega);refine oH E i (by rw[List.getElem?_set,if_pos rfl,if_pos R]) (fM (A++((be n k).take (j+1)++X.drop (j+1))++Z)) ?_ rfl ?_ fun w2 J _=>?_;rw[dN,dN];apply Array.ext';rw[Array.toList_setIfInBounds];show (fM _).toList.set _ _=(fM _).toList;unfold fM;simp only[toList_toArray];rw[<- map_set,I,V,zV A,set_append_right _ _ oJ];rw[show o+j-A.length=j by omega,zV ((be n k).take j),set_append_right _ _ oJ,C,Nat.sub_self,xI,set_cons_zero];simp only[zV,xI,xH,gl];refine Nat.ble_eq_true_of_le ?_;rw[wW,I];simp only[zF,yH,xJ,C];omega;refine hY _ _ ⟨j+1,oJ,oJ,?_⟩ oJ;rw[set_set] at J;exact J;have G:j=k:=oJ;subst G;rw[zS (by rw[jQ];exact zM _),drop_of_length_le oJ,xG] at E;exact hk _ E
def gR (l:List Int):Int:=l.foldl (fun r x=>bits .or .u32 (wrap .u32 (r*2^8)) (wrap .u32 x)) 0
def Gm{K:Int->WP}(h:eE S w s l)(V:l.length<=100000)(R:K (gR l) w):cW 188 [s.v] dm w K:=by refine qsG ?_;have I:=h.1;refine iV (fun x w'=>w'=w/\∃i:Nat,x.2=i/\i<=l.length/\x.1=gR (l.take i)) (fun x _=>((l.length:Int)-x.2).toNat) ⟨rfl,0,rfl,oJ,rfl⟩ ?_;rintro⟨r,ii⟩ w' ⟨rfl,i,E,hi,J⟩ X U;simp only at E J;subst E J;apply cD<;>intro G;have C:i<l.length:=oJ;refine eE.at h i rfl (zA C) ?_;rw[gc _ oJ];refine U _ _ ⟨rfl,i+1,oL,oJ,?_⟩ oN;rw[yF C,gR,gR,foldl_append];rfl;have C:i=l.length:=oJ;subst C;rw[xY];exact R
def qll{K:Sl->World->Prop}(h:eE S w s l)(hl:l.length<=1000000)(hk:∀s' B w',fO w' s' l B->Fr [] w w'->(∀b∈B,w.heap.size<=b)->(s.a.isNone=true->s'=dC)->(s.a.isNone=false->s'.a.isNone=false)->K s' w'): cond (Option.isNone s.a) (K dC w) (new (.cells #[] 5) w fun r w1=>Pt.run de ((Builtin.append_ #[101,101] 101 #[.slice (some (dd r)) 0 0,.slice s.a s.len s.cap]).run prog w1) fun s' w'=>K s' w'):=by
 obtain⟨i5,hi,hz,hsz,hby⟩:=uL;apply dR<;>intro hc;have hl0:l=[]:=by rcases h.2.2 with h3|⟨b,o,cs,T,fr,ha,_⟩;exact h3;rw[ha] at hc;cases hc
 subst hl0;exact hk _ [] w (.nil _ _ _) (.refl _ _) oL (fun _=>rfl) (fun h=>by rw[hc] at h;cases h);obtain⟨a,ha⟩:∃a,s.a=some a:=by cases hs:s.a with|none=>rw[hs] at hc;cases hc|some a=>exact⟨a,rfl⟩
 have ho:=oE [] w;refine dM.new ho fun r w1 e1 s1 ho=>?_;have h1:eE S w1 s l:=h.q7 ho.fr;have hb:fO w1 ⟨some (dd r),0,0⟩ [] [r]:=eO.fresh k8 (ho.at (i:=0) rfl) rfl (zM _) oL oL;have hlen:=h.1;rw[ha];refine eO.j1 (s:=⟨some (dd r),0,0⟩) (ys:=l) (e:=5) hb k8 oK hi hz hsz rfl (.ofSlice _ (e':=5) oK a s.len s.cap _ ?_ (h1.cells k8 ha) ?_) hlen (by rw[hby,hlen];simp;omega) (by rw[hlen];simp;omega) fun s' B w' g1 g2 g3 g4=>?_;rw[qI];simp[hlen];intro u hu;rw[qI] at hu;obtain⟨x,_,rfl⟩:=List.mem_map.1 hu;rfl;have hBn:∀b∈B,w.heap.size<=b:=fun b hb=>by rcases g3 b hb with h|h;simp at h;omega;omega
 refine hk s' B w' (oP g1) (ho.fr.j8 g2 (fun b hb=>by simp at hb;subst hb;exact .inr oJ)) hBn (fun h=>by rw[hc] at h;cases h) (fun _=>?_);rcases g4 with hn|hn;exact hn;simp at hn
def wZ{K:Sl->WP}(h:eE S w s l)(C:l.length<=1000000)(E:∀u B w',fO w' u l B->Fr [] w w'->(∀b∈B,w.heap.size<=b)->(s.a.isNone=true->u=dC)->(s.a.isNone=false->u.a.isNone=false)->K u w'): cW 154 [s.v] de w K:=by exact qmA<|qll h C E
def xj{K:Sl->WP}(h:eE S w s l)(C:l.length<=1000000)(E:∀u B w',fO w' u l B->Fr [] w w'->(∀b∈B,w.heap.size<=b)->(s.a.isNone=true->u=dC)->(s.a.isNone=false->u.a.isNone=false)->K u w'): cW 75 [s.v] de w K:=by exact qn7<|qll h C E
def kB:List Int:=[0,274646895,549293790,820201905,1098587580,1361435347,1640403810,1905808397,2197175160,2460548119,2722870694,2987750089,3280807620,3553878443,3811616794,4084100981]
abbrev HG:Nat:=1
def Hv (w:World):Prop:=∃T h,w.heap[HG]?=some (.cells (kB.map (Value.int .u32)).toArray T h)
def Hv.q8{w':World}(h:Hv w)(f:Fr S w w')(C:HG∉S):Hv w':=by obtain⟨T,E,u⟩:=h;exact⟨T,E,by rw[f.block HG (eT u) C];exact u⟩
def Hv.q7{w':World}(h:Hv w)(f:Fr [] w w'):Hv w':=h.q8 f oL
def Hv.lt(h:Hv w):HG<w.heap.size:=by obtain⟨T,C,u⟩:=h;exact eT u
def Ex(x:Int):0<=bits .and .u32 x 15/\bits .and .u32 x 15<16:=by have h:(BitVec.ofInt 32 x&&& BitVec.ofInt 32 15).toNat<16:=(by rw[BitVec.toNat_and];exact Nat.lt_of_le_of_lt Nat.and_le_right oM);have u:bits .and .u32 x 15=((BitVec.ofInt 32 x&&& BitVec.ofInt 32 15).toNat:Int):=(by show wrap .u32 _=_;unfold wrap;have:(IntKind.u32.signed)=false:=rfl;simp only[this,Bool.false_and,Bool.false_eq_true,if_false];have e:((2:Int)^IntKind.u32.bits)=4294967296:=rfl;rw[e];exact Int.emod_eq_of_lt oJ (by have:(BitVec.ofInt IntKind.u32.bits x&&& BitVec.ofInt IntKind.u32.bits 15).toNat<16:=h;omega));rw[u];omega
def half (x:Int):Int:=kB.getD x.toNat 0
def u0 (r:Int):Int:=bits .xor .u32 (Int.fdiv r (2^4)) (half (bits .and .u32 r 15))
def rG (r x:Int):Int:=u0 (u0 (bits .xor .u32 r (wrap .u32 x)))
def tg (h:Int) (l:List Int):Int:=bits .xor .u32 (l.foldl rG (bits .xor .u32 h 4294967295)) 4294967295
def nj (l:List Int):Int:=tg 0 l
def qti{x:Int}{K:Int->Prop}(h:Hv w)(k:K (half (bits .and .u32 x 15))):ld .u (Addr.add (dd HG) (Int.toNat (bits .and .u32 x 15)*1)) w K:=by obtain⟨T,J,E⟩:=h;obtain⟨G,I⟩:=Ex x;rw[Addr.q9];refine iG E _ ?_ k;generalize bits .and .u32 x 15=y at G I;have C:y.toNat<kB.length:=(by show y.toNat<16;omega);rw[xR,xS];simp only[List.getElem?_toArray,zQ,zA C,Option.map_some,half,yQ,xU];rfl
def qyW{E:Int}{K:Int->WP}(h:eE S w s l)(J:Hv w)(hl:l.length<=100000)(V:K (tg E l) w): cW 225 [.u E,s.v] dm w K:=by refine qsn ?_;have R:=h.1;refine iV (fun x w'=>w'=w/\∃i:Nat,x.2=i/\i<=l.length/\x.1=(l.take i).foldl rG (bits .xor .u32 E 4294967295)) (fun x _=>((l.length:Int)-x.2).toNat) ⟨rfl,0,rfl,oJ,rfl⟩ ?_;rintro⟨r,ii⟩ w' ⟨rfl,i,G,hi,U⟩ X hX;simp only at G U;subst G U;apply cD<;>intro I;have C:i<l.length:=oJ;refine eE.at h i rfl (zA C)<|pc (Ex _)<|qti J<|pc (Ex _)<|qti J ?_;rw[gc _ oJ];refine hX _ _ ⟨rfl,i+1,oL,oJ,?_⟩ oN;rw[yF C,foldl_append];rfl;have C:i=l.length:=oJ;subst C;rw[xY];exact V
def qwJ{K:Int->WP}(h:eE S w s l)(C:Hv w)(E:l.length<=100000)(G:K (nj l) w): cW 182 [s.v] dm w K:=by exact qul<|qyW h C E G
def DG{α:Type}(A X Y Z:List α)(h:X.length=Y.length):(A++X++Z).take A.length++Y++(A++X++Z).drop (A.length+Y.length)=A++Y++Z:=by have u:(A++X++Z).take A.length=A:=(by rw[zV,take_append_of_le_length (zM _),zS (zM _)]);have C:(A++X++Z).drop (A.length+Y.length)=Z:=(by rw[<- h,<- zF,drop_append_of_le_length (zM _),drop_of_length_le (zM _),xH]);rw[u,C]
def qkj{A X Y Z:List Int}(h:X.length=Y.length):dN (fM (A++X++Z)) A.length (Y.map (Value.int .u8))=fM (A++Y++Z):=by
 apply Array.ext';rw[px _ _ _ (by rw[wW];simp only[zF,zK];omega)]
 have:=DG (A.map (Value.int .u8)) (X.map (Value.int .u8)) (Y.map (Value.int .u8)) (Z.map (Value.int .u8)) (oP h)
 simpa only[fM,xM,toList_toArray,zK] using this
def zs (n:Nat):List Int:=List.replicate n 0
def oT(n:Nat):(zs n).length=n:=length_replicate
def wY(a b:Nat):zs (a+b)=zs a++zs b:=replicate_append_replicate.symm
def qzV:zs 1=[0]:=rfl
def qsa(n:Nat):(List.replicate n (Value.int .u8 0)).toArray=fM (zs n):=by unfold fM zs;rw[map_replicate]
def dM.bytes{w0:World}{b:Nat}{l':List Int}(h:dM S w0 w ((b,.cells (fM l) T (0,0))::L))(e:l=l'):dM S w0 w ((b,.cells (fM l') T (0,0))::L):=by rw[<- e];exact h
def kC (number kind:Int) (body:List Int):List Int:=be number 4++[kind]++be (wrap .u32 body.length) 2++[0]++body++zs (500-body.length)
def eh (number kind:Int) (body:List Int):List Int:=be (nj (kC number kind body)) 4++kC number kind body
def BJ{kind:Int}(h:body.length<=500):(kC number kind body).length=508:=by simp only[kC,jQ,oT,zF,yH,xJ];omega
def vr{kind:Int}(h:body.length<=500):(eh number kind body).length=512:=by rw[eh,zF,jQ,BJ h]
def Dz{kind:Int}{K:Sl×Int->WP}(h:eE S w s l)(R:Hv w)(hl:l.length<=100000)(I:500<l.length->K (dC,3) w)(hk:l.length<=500->∀b T w',w'.heap[b]?=some (.cells (fM (eh number kind l)) T (0,0))->Fr [] w w'->w.heap.size<=b->K (⟨pW b,512,512⟩,0) w'): cW 150 [.u number,.b kind,s.v] dh w K:=by
 refine qrA ?_;have G:=h.1;refine dR (fun U=>I (by have:=zC U;omega)) (fun U=>?_);have E:l.length<=500:=(by have:=zB U;omega);refine dM.Fi (oE [] w) oM oM oM oM fun b w1 eb C=>?_;rw[qsa] at C;replace C:=dM.bytes (l':=zs 4++zs 4++zs 504) C (by rw[<- wY,<- wY];rfl);refine BD oM oM oM oM<|DA (k:=4) C 0 rfl (oT 4) (oT 4) oM fun w2 C=>?_;replace C:=dM.bytes (l':=(zs 4++be number 4)++zs 1++zs 503) C (by rw[show (504:Nat)=1+503 from rfl,wY,zV,zV,zV]);refine tY oJ oL<|oH C 0 rfl _ (qkj (A:=zs 4++be number 4) (X:=zs 1) (Y:=[kind]) rfl) rfl (by rw[wW];simp only[zF,oT,jQ];rfl) fun w3 C _=>?_;replace C:=dM.bytes (l':=(zs 4++be number 4++[kind])++zs 2++zs 501) C (by rw[show (503:Nat)=2+501 from rfl,wY,zV,zV,zV,zV,zV]);refine BD oJ oJ oL oL<|DA (k:=2) C 0 rfl (by simp only[zF,oT,jQ];rfl) (oT 2) oM fun w4 C=>?_;replace C:=dM.bytes (l':=(zs 4++be number 4++[kind]++be (wrap .u32 s.len) 2++[0])++zs l.length++zs (500-l.length)) C (by rw[show (501:Nat)=1+(l.length+(500-l.length)) by omega,wY,wY,qzV];simp only[zV]);refine CB oJ oL oL oL ?_;have h4:eE S w4 s l:=h.q7 C.fr;have e6:(zs 4++be number 4++[kind]++be (wrap .u32 s.len) 2++[0]).length=12:=(by simp only[zF,oT,jQ];rfl);refine dM.uE (el:=5) (vs:=l.map (Value.int .u8)) C 0 rfl oK oK (by rw[zK,G];exact (xQ (by show l.length<=500;omega)).symm) (fun J=>?_) (fun v R=>by obtain⟨x,_,rfl⟩:=mem_map.1 R;rfl) (by rw[wW,zF,zF,e6,oT,oT,zK];omega) fun w5 C=>?_;rcases h4.2.2 with h3|⟨bb,o,cs,T,fr,ha,_⟩;rw[h3] at J;exact absurd rfl J;refine⟨_,ha,?_⟩
 have:=h4.cells k8 ha
 rw[qI] at this;exact this;have e5:=qkj (A:=zs 4++be number 4++[kind]++be (wrap .u32 s.len) 2++[0]) (X:=zs l.length) (Y:=l) (Z:=zs (500-l.length)) (oT _);rw[e6] at e5;have e7:(0:Nat)+Int.toNat 12*1=12:=rfl;rw[e7,e5] at C;replace C:=dM.bytes (l':=[]++zs 4++kC number kind l) C (by simp only[kC,G,zV,xH]);refine wD ⟨oJ,oL⟩<|CB oJ oL oL oL ?_;have V:=C.drew;have hr:eE [] w5.drew ⟨some ⟨b,0+Int.toNat 4*1,none⟩,(512:Int).toNat-Int.toNat 4,(512:Int).toNat-Int.toNat 4⟩ (kC number kind l):=by
  have:=uG (S:=[]) (o:=4) (n:=508) (cap:=508) (V.at (i:=0) rfl) (by rw[zF,zF,oT,BJ E];simp) (zM _) oL
  rw[xH,drop_append_of_le_length (by rw[oT];exact zM _),drop_of_length_le (by rw[oT];exact zM _),xH,zS (by rw[BJ E];exact zM _)] at this;exact this
 have aa:Hv w5.drew:=R.q7 V.fr;refine qwJ hr aa (by rw[BJ E];decide)<|DA (k:=4) V 0 rfl rfl (oT 4) oM fun w6 C=>hk E b _ w6 (C.at (i:=0) rfl) C.fr oJ
def eB (l:List Int):Prop:=∀x∈l,0<=x/\x<256
def eB.take{l:List Int}(h:eB l)(n:Nat):eB (l.take n):=fun x u=>h x (yU u)
def eB.drop{l:List Int}(h:eB l)(n:Nat):eB (l.drop n):=fun x u=>h x (yT u)
def qvw(h:eB l):((Lib.countByte (Lib.bytesOf l) (0:Int).toNat.toUInt8:Nat):Int)=l.length↔∀x∈l,x=0:=by
 have key:∀l:List Int,eB l->((Lib.bytesOf l).count (0:UInt8)<=l.length/\((Lib.bytesOf l).count (0:UInt8)=l.length↔∀x∈l,x=0)):=by
  intro l;induction l with
  | nil=>intro _;simp[Lib.bytesOf]
  | cons a l ih=>
   intro u;obtain⟨J,C⟩:=ih (fun x E=>u x (zN _ E));have R:=u a oL;have e:Lib.bytesOf (a::l)=UInt8.ofNat a.toNat::Lib.bytesOf l:=rfl;rw[e,count_cons];have G:(UInt8.ofNat a.toNat==0)=decide (a=0):=by
    by_cases h0:a=0;subst h0;rfl;rw[zU h0,zR];intro I
    have:=congrArg UInt8.toNat I
    simp at this;omega
   rw[G];by_cases h0:a=0;subst h0;simp only[decide_true,if_true,yH,zG,forall_eq_or_imp,true_and];exact⟨oJ,by rw[<- C];omega⟩;simp only[h0,decide_false,Bool.false_eq_true,if_false,yH,zG,forall_eq_or_imp,false_and,iff_false];omega
 have:=(key l h).2
 show (((Lib.bytesOf l).count _:Nat):Int)=_↔_;rw[<- this];exact Int.ofNat_inj
def qn9{b2 cap2:Nat}{K:Int->World->Prop}(h:eE S w s l)(hB:eB l)(hc2:w.cell? (dd b2)=some (.int .u8 0))(hk:∀c:Int,(c=l.length↔∀x∈l,x=0)->K c w): call prog 189 [.slice s.a s.len s.cap,.slice (some (dd b2)) 1 cap2] [.one (.int .i64)] w K:=by
 refine qn8 (s:=s) (sep:=⟨some (dd b2),1,cap2⟩) ?_;have hlen:=h.1;refine cond_false (by rfl)<|cond_true (by rfl)<|tY oJ oL<|oV (c:=.int .u8) 0 hc2 ?_;have hcount:(Extern.BytealgCount.count #[.slice s.a s.len s.cap,.int .u8 0]).run prog w=.ok (.int .i64 (Lib.countByte (Lib.bytesOf l) (0:Int).toNat.toUInt8)) w:=by
  cases ha:s.a with
  | none=>
   have hl0:l=[]:=by rcases h.2.2 with h3|⟨b,o,cs,T,fr,ha',_⟩;exact h3;rw[ha] at ha';cases ha'
   subst hl0;exact Lib.run_countNil w _ _ _
  | some a=>
   refine Lib.run_countAt w a s.len s.cap l hlen.symm (fun i hi=>?_) 0
   have:=h.cells k8 ha i (.int .u8 (l.getD i 0)) ?_
   exact this;rw[qI,zQ,yQ,zA oJ];rfl
 exact Cv (e:=Extern.BytealgCount.count) func230 oK oK oK oK (((Lib.countByte (Lib.bytesOf l) (0:Int).toNat.toUInt8:Nat):Int)) w hcount<|hk _ (qvw hB)
def eP (number:Int) (b:List Int):Int×List Int×Int:=
 if b.length≠512 then (0,[],1)
 else if gR (b.take 4)≠nj (b.drop 4) then (0,[],8)
 else if gR ((b.take 8).drop 4)≠number then (0,[],4)
 else if gR ((b.take 11).drop 9)>500\/b.getD 11 0≠0 then (0,[],2)
 else if ∃x∈b.drop (12+(gR ((b.take 11).drop 9)).toNat),x≠0 then (0,[],2)
 else (b.getD 8 0,(b.take (12+(gR ((b.take 11).drop 9)).toNat)).drop 12,0)
def nD(x:Int)(h:0<=x/\x<4294967296):wrap .u32 x=x:=by unfold wrap;have:(IntKind.u32.signed)=false:=rfl;simp only[this,Bool.false_and,Bool.false_eq_true,if_false];exact Int.emod_eq_of_lt h.1 h.2
def uC(x:Int):0<=wrap .u32 x/\wrap .u32 x<4294967296:=by unfold wrap;have:(IntKind.u32.signed)=false:=rfl;simp only[this,Bool.false_and,Bool.false_eq_true,if_false];exact⟨Int.emod_nonneg _ oM,Int.emod_lt_of_pos _ oM⟩
def Ci(h:BinOp)(x y:Int):0<=bits h .u32 x y/\bits h .u32 x y<4294967296:=uC _
def qus(l:List Int):0<=gR l/\gR l<4294967296:=by
 unfold gR;have:∀(l:List Int) (a:Int),0<=a/\a<4294967296->0<=l.foldl (fun r x=>bits .or .u32 (wrap .u32 (r*2^8)) (wrap .u32 x)) a/\l.foldl (fun r x=>bits .or .u32 (wrap .u32 (r*2^8)) (wrap .u32 x)) a<4294967296:=by
  intro l;induction l with
  | nil=>intro a h;exact h
  | cons x l ih=>intro a _;exact ih _ (Ci _ _ _)
 exact this l 0 oM
def Ek{K:Int×Sl×Int->WP}(h:eE S w s l)(hv:Hv w)(hB:eB l)(hl:l.length<=100000)(hk:∀s' B w',fO w' s' (eP number l).2.1 B->Fr [] w w'->(∀b∈B,w.heap.size<=b)->K ((eP number l).1,s',(eP number l).2.2) w'): cW 157 [.u number,s.v] dj w K:=by
 refine qrz ?_;have J:=h.1;have E:∀ {e:Int} {w':World},eP number l=(0,[],e)->Fr [] w w'->K (0,dC,e) w':=by
  intro e w' he hf
  have:=hk dC [] w' (by rw[he];exact .nil _ _ _) hf oL
  rw[he] at this;exact this
 apply dR<;>intro C;refine E ?_ (.refl _ _);have:l.length≠512:=(by simp at C;omega);simp[eP,this];have R:l.length=512:=(by simp at C;omega);refine dW.part h 0 4 rfl rfl oJ oJ fun s1 l1 r1 _=>dW.part h 4 512 rfl (by rw[J,R];rfl) oJ oJ fun s2 l2 r2 _=>?_;rw[zS oJ] at r2;rw[xE] at r1;have fd:Fr [] w w.drew:=(Fr.refl _ _).drew;have ak:Hv w.drew:=hv.q7 fd;refine Gm (w:=w.drew) r1 (by rw[yK];omega)<|qwJ (w:=w.drew) r2 ak (by rw[yB];omega) ?_;have h0:¬l.length≠512:=oJ;apply dR<;>intro C;refine E ?_ fd;have:gR (l.take 4)≠nj (l.drop 4):=(oP C);rw[eP,if_neg h0,if_pos this];have h1:¬gR (l.take 4)≠nj (l.drop 4):=(oP C);have hd:eE S w.drew s l:=h;refine dW.part hd 4 8 rfl rfl oJ oJ fun s3 l3 r3 _=>Gm r3 (by rw[yB,yK];omega) ?_;apply dR<;>intro C;refine E ?_ fd;have:gR ((l.take 8).drop 4)≠number:=(oP C);rw[eP,if_neg h0,if_neg h1,if_pos this];have h2:¬gR ((l.take 8).drop 4)≠number:=(oP C);refine dW.part hd 9 11 rfl rfl oJ oJ fun s4 l4 r4 _=>Gm r4 (by rw[yB,yK];omega) ?_;have hn:=qus ((l.take 11).drop 9);have am:l[11]?=some (l.getD 11 0):=(by rw[yQ,zA oJ];rfl);have g8:l[8]?=some (l.getD 8 0):=(by rw[yQ,zA oJ];rfl);refine gQ (fun b w'=>b=decide (gR ((l.take 11).drop 9)>500\/l.getD 11 0≠0)/\w'=w.drew) ?_ ?_;apply dR<;>intro C;exact⟨by rw[zZ (Or.inl (zC C))],rfl⟩;refine eE.at hd 11 rfl am ⟨?_,rfl⟩
 have:=zB C
 generalize l.getD 11 0=z;by_cases hz:z=0<;>simp[this,hz];rintro b w1 ⟨rfl,rfl⟩;apply dR<;>intro C;refine E ?_ fd;rw[eP,if_neg h0,if_neg h1,if_neg h2,if_pos (zC C)];have h3:=zB C;have U:gR ((l.take 11).drop 9)<=500:=by rcases Int.lt_or_le 500 (gR ((l.take 11).drop 9)) with h|h;exact absurd (Or.inl h) h3;exact h
 have ov:eP number l=if ∃x∈l.drop (12+(gR ((l.take 11).drop 9)).toNat),x≠0 then (0,[],2) else (l.getD 8 0,(l.take (12+(gR ((l.take 11).drop 9)).toNat)).drop 12,0):=by rw[eP,if_neg h0,if_neg h1,if_neg h2,if_neg h3]
 generalize gR ((l.take 11).drop 9)=n at hn U ov;obtain⟨m,rfl⟩:∃m:Nat,n=m:=⟨n.toNat,oJ⟩;rw[nD _ oJ];rw[zJ] at ov;refine dW.part hd (12+m) 512 oL (by rw[J,R];rfl) oJ oJ fun s5 l5 r5 _=>?_;rw[zS oJ] at r5;have ho:=oE [] w.drew;refine dM.new ho fun zb w2 ez sz ho=>?_;have ao:eE S w2 s5 (l.drop (12+m)):=r5.q7 ho.fr;refine qn9 ao (hB.drop _) (ho.cell (off:=0) 0 rfl rfl) fun c ae=>?_;have I:Fr [] w w2:=fd.trans ho.fr;have af:=r5.1;apply dR<;>intro C;refine E ?_ I;have ap:¬ ∀x∈l.drop (12+m),x=0:=by rw[<- ae];intro e;rw[e,af] at C;simp at C
 rw[ov,if_pos];exact Classical.byContradiction fun aq=>ap fun x hx=>Classical.byContradiction fun au=>aq ⟨x,hx,au⟩;have ag:∀x∈l.drop (12+m),x=0:=by rw[<- ae];rw[af] at C;simpa using C
 rw[if_neg (by rintro⟨x,hx,h0⟩;exact h0 (ag x hx))] at ov;have ah:eE S w2.drew s l:=(h.q7 I).drew;obtain⟨_,b8,o8,aw,_,ai,T8,ax,V,ay⟩:=dW.at ah 8 g8;have aa:ai[o8+8]?=some (.b (l.getD 8 0)):=by
  have:=congrArg (·[0]?) ay
  simpa using this
 refine pY aw ⟨oJ,oJ⟩ ?_;have G:∀ {w':World},w'.heap[b8]?=some (.cells ai T8 ax)->w'.cell? ⟨b8,o8+Int.toNat 8*1,none⟩=some (.b (l.getD 8 0)):=fun hb=>by rw[je hb];exact aa
 refine oV (l.getD 8 0) (G V)<|dW.part ah 12 (12+m) rfl oL oJ oJ fun s6 l6 r6 _=>?_;have lm:((l.take (12+m)).drop 12).length=m:=(by rw[yB,yK];omega);refine xj r6 (by rw[lm];omega) fun s7 B w3 aA f7 n7 _ _=>ia (G (by show _=_;rw[f7.block b8 (eT V) oL];exact V)) ?_;have e1:(w2.drew).heap.size=w2.heap.size:=rfl
 have:=hk s7 B w3 (by rw[ov];exact aA) (I.drew.trans f7) (fun b hb=>by have:=n7 b hb;have:=I.size;omega)
 rw[ov] at this;exact this
end
section
open Go Go.Pt List
open Go.IntKind (wrap)
variable {K:Int×Int->WP} {a b body:List Int} {n number:Int}
def yy(x:Int):wrap .u8 x=x%256:=by unfold wrap;have:(IntKind.u8.signed)=false:=rfl;simp only[this,Bool.false_and,Bool.false_eq_true,if_false];rfl
def qzK{r x:Int}(h:0<=r/\r<16777216)(u:0<=x/\x<256):bits .or .u32 (wrap .u32 (r*2^8)) (wrap .u32 x)=r*256+x:=by rw[nD x oJ,nD (r*2^8) oJ];obtain⟨a,rfl⟩:∃a:Nat,r=a:=⟨r.toNat,oJ⟩;obtain⟨b,rfl⟩:∃b:Nat,x=b:=⟨x.toNat,oJ⟩;have e1:((a:Int)*2^8)=((2^8*a:Nat):Int):=oJ;rw[e1];show wrap .u32 ((BitVec.ofInt 32 ((2^8*a:Nat):Int)||| BitVec.ofInt 32 (b:Int)).toNat:Nat)=_;rw[BitVec.toNat_or,BitVec.ofInt_natCast,BitVec.ofInt_natCast,BitVec.toNat_ofNat,BitVec.toNat_ofNat,Nat.mod_eq_of_lt (show 2^8*a<2^32 by omega),Nat.mod_eq_of_lt (show b<2^32 by omega),<- Nat.two_pow_add_eq_or_of_lt (show b<2^8 by omega)];rw[nD _ oJ];omega
def nV (l:List Int):Int:=l.foldl (fun r x=>r*256+x) 0
def Cb:∀ {l:List Int},eB l->l.length<=4->gR l=nV l:=by
 have key:∀(l:List Int) (r:Int) (k:Nat),eB l->l.length<=k->k<=4->0<=r->r<256^(4-k)->
   l.foldl (fun r x=>bits .or .u32 (wrap .u32 (r*2^8)) (wrap .u32 x)) r=l.foldl (fun r x=>r*256+x) r:=by
  intro l;induction l with
  | nil=>intros;rfl
  | cons x l ih=>
   intro r k u h C G E;have I:=u x oL;simp only[yH] at h;have J:r<16777216:=by
    have:(256:Int)^(4-k)<=256^3:=by
     have:(4-k)<=3:=oJ;match k,C,h with
     | 1,_,_=>decide
     | 2,_,_=>decide
     | 3,_,_=>decide
     | 4,_,_=>decide
    have e:(256:Int)^3=16777216:=oM;omega
   rw[foldl_cons,foldl_cons,qzK ⟨G,J⟩ I];match k,C,h,E with
   | k+1,C,h,E=>
    refine ih _ k (fun y R=>u y (zN _ R)) oJ oJ oJ ?_;have e:4-k=(4-(k+1))+1:=oJ;rw[e,Int.pow_succ];omega
 intro l u h;exact key l 0 4 u h oM oM oM
def ya(h:0<=n)(j:Nat)(u:j<=3):gl n j=n / 256^j%256:=by
 unfold gl;rw[yy,Int.fdiv_eq_ediv_of_nonneg _ (by exact Int.pow_nonneg oM)];match j,u with
 | 0,_=>rfl
 | 1,_=>rfl
 | 2,_=>rfl
 | 3,_=>rfl
def AM(h:0<=n):be n 4=[n / 16777216%256,n / 65536%256,n / 256%256,n%256]:=by have e:be n 4=[gl n 3,gl n 2,gl n 1,gl n 0]:=rfl;rw[e,ya h 3 oM,ya h 2 oM,ya h 1 oM,ya h 0 oM];simp
def be2(h:0<=n):be n 2=[n / 256%256,n%256]:=by have e:be n 2=[gl n 1,gl n 0]:=rfl;rw[e,ya h 1 oM,ya h 0 oM];simp
def rY(n:Int)(k:Nat):eB (be n k):=by intro x h;obtain⟨i,_,rfl⟩:=mem_map.1 h;unfold gl;rw[yy];omega
def Dh(h:0<=n/\n<4294967296):gR (be n 4)=n:=by rw[Cb (rY _ _) (by rw[jQ];exact zM _),AM h.1];show (((0*256+_)*256+_)*256+_)*256+_=n;omega
def qra(h:0<=n/\n<65536):gR (be n 2)=n:=by rw[Cb (rY _ _) (by rw[jQ];decide),be2 h.1];show (0*256+_)*256+_=n;omega
def qu7(l:List Int):0<=nj l/\nj l<4294967296:=by unfold nj tg;exact Ci _ _ _
def eB.append(h:eB a)(k:eB b):eB (a++b):=fun x C=>by rcases zD.1 C with u|u;exact h x u;exact k x u
def eB.zs(n:Nat):eB (zs n):=fun x h=>by
 have:=eq_of_mem_replicate h
 omega
def eB.one{x:Int}(h:0<=x/\x<256):eB [x]:=fun y u=>by simp at u;subst u;exact h
def qwA{kind:Int}(h:0<=kind/\kind<256)(u:eB body):eB (kC number kind body):=
 (((((rY _ _).append (.one h)).append (rY _ _)).append (.one oM)).append u).append (.zs _)
def CL{kind:Int}(h:0<=kind/\kind<256)(u:eB body):eB (eh number kind body):=(rY _ _).append (qwA h u)
def EP{kind:Int}(I:0<=number/\number<4294967296)(J:body.length<=500):eP number (eh number kind body)=(kind,body,0):=by
 have u:wrap .u32 (body.length:Int)=(body.length:Int):=nD _ oJ;have e0:eh number kind body=be (nj (kC number kind body)) 4++(be number 4++([kind]++(be body.length 2++([0]++(body++zs (500-body.length)))))):=by
  rw[eh];conv=>lhs;rhs;rw[kC]
  rw[u];simp only[zV]
 have l4:=jQ (nj (kC number kind body)) 4;have e1:(eh number kind body).take 4=be (nj (kC number kind body)) 4:=(by rw[eh,take_append_of_le_length (by rw[jQ];exact zM _),zS (by rw[jQ];exact zM _)]);have R:(eh number kind body).drop 4=kC number kind body:=(by rw[eh,drop_append_of_le_length (by rw[jQ];exact zM _),drop_of_length_le (by rw[jQ];exact zM _),xH]);have G:∀n,∃a b c d,be n 4=[a,b,c,d]:=fun n=>⟨_,_,_,_,rfl⟩;have U:∀n,∃a b,be n 2=[a,b]:=fun n=>⟨_,_,rfl⟩;obtain⟨V,a1,a2,a3,ha⟩:=G (nj (kC number kind body));obtain⟨n0,n1,n2,n3,C⟩:=G number;obtain⟨l0,l1,E⟩:=U body.length;have h:eh number kind body=V::a1::a2::a3::n0::n1::n2::n3::kind::l0::l1::0::(body++zs (500-body.length)):=by rw[e0,ha,C,E];rfl
 have g1:gR ((eh number kind body).take 4)=nj ((eh number kind body).drop 4):=(by rw[e1,R,Dh (qu7 _)]);have g2:gR (((eh number kind body).take 8).drop 4)=number:=(by have:((eh number kind body).take 8).drop 4=be number 4:=(by rw[h,C];rfl);rw[this,Dh I]);have g3:gR (((eh number kind body).take 11).drop 9)=body.length:=(by have:((eh number kind body).take 11).drop 9=be body.length 2:=(by rw[h,E];rfl);rw[this,qra oJ]);have g4:(eh number kind body).getD 11 0=0:=(by rw[h];rfl);have g5:(eh number kind body).getD 8 0=kind:=(by rw[h];rfl);have g6:(eh number kind body).drop (12+body.length)=zs (500-body.length):=(by rw[h,Nat.add_comm];show (body++zs (500-body.length)).drop body.length=_;rw[drop_append_of_le_length (zM _),drop_length,xH]);have g7:((eh number kind body).take (12+body.length)).drop 12=body:=(by rw[h,Nat.add_comm];show (body++zs (500-body.length)).take body.length=_;rw[take_append_of_le_length (zM _),xY]);rw[eP,if_neg (by rw[vr J];simp),if_neg (by rw[g1];simp),if_neg (by rw[g2];simp),g3,g4,if_neg oO,zJ,g6,if_neg,g5,g7];rintro⟨x,hx,h0⟩;exact h0 (eq_of_mem_replicate hx)
def cmpL:List Int->List Int->Int
 | [],[]=>0
 | [],_::_=>-1
 | _::_,[]=>1
 | a::r,b::s=>if a<b then -1 else if b<a then 1 else cmpL r s
abbrev fD (a b:List Int):Prop:=cmpL a b<0
def Gc:∀a b:List Int,cmpL a b=-1\/cmpL a b=0\/cmpL a b=1
 | [],[]=>.inr (.inl rfl)
 | [],_::_=>.inl rfl
 | _::_,[]=>.inr (.inr rfl)
 | a::r,b::s=>by rw[cmpL];split;exact .inl rfl;split;exact .inr (.inr rfl);exact Gc r s
def EK:∀a:List Int,cmpL a a=0
 | []=>rfl
 | a::r=>by rw[cmpL,iN,iN];exact EK r
def FF:∀ {a b:List Int},cmpL a b=0->a=b
 | [],[],_=>rfl
 | [],_::_,h=>by simp[cmpL] at h
 | _::_,[],h=>by simp[cmpL] at h
 | a::r,b::s,h=>by rw[cmpL] at h;split at h;cases h;split at h;cases h;rw[FF h,show a=b by omega]
def tA:∀a b:List Int,cmpL b a =-cmpL a b
 | [],[]=>rfl
 | [],_::_=>rfl
 | _::_,[]=>rfl
 | a::r,b::s=>by rw[cmpL,cmpL];by_cases h1:a<b;rw[if_neg (show ¬b<a by omega),if_pos h1,if_pos h1];rfl;by_cases h2:b<a;rw[if_pos h2,if_neg h1,if_pos h2];rw[if_neg h2,if_neg h1,if_neg h1,if_neg h2];exact tA r s
def qw:¬fD a a:=by unfold fD;rw[EK];decide
def om:∀ {a b c:List Int},fD a b->fD b c->fD a c
 | [],[],_,h,_=>by simp[fD,cmpL] at h
 | [],_::_,[],_,h=>by simp[fD,cmpL] at h
 | [],_::_,_::_,_,_=>by simp[fD,cmpL]
 | _::_,[],_,h,_=>by simp[fD,cmpL] at h
 | _::_,_::_,[],_,h=>by simp[fD,cmpL] at h
 | a::r,b::s,c::t,h,g=>by unfold fD at h g⊢;rw[cmpL] at h g⊢;by_cases h1:a<b;by_cases g1:b<c;rw[iP];decide;rw[if_neg g1] at g;by_cases g2:c<b;rw[if_pos g2] at g;omega;rw[iP];decide;rw[if_neg h1] at h;by_cases h2:b<a;rw[if_pos h2] at h;omega;rw[if_neg h2] at h;by_cases g1:b<c;rw[iP];decide;rw[if_neg g1] at g;by_cases g2:c<b;rw[if_pos g2] at g;omega;rw[if_neg g2] at g;rw[iN,iN];exact om (a:=r) (b:=s) (c:=t) h g
def rX(h:fD a b):¬fD b a:=fun g=>qw (om h g)
def wU(h:fD a b):a≠b:=fun e=>by rw[e] at h;exact qw h
def qv7(a b:List Int):fD a b\/a=b\/fD b a:=by rcases Gc a b with h|h|h;exact .inl (by unfold fD;omega);exact .inr (.inl (FF h));refine .inr (.inr ?_);unfold fD;rw[tA];omega
def zy:¬fD a b↔a=b\/fD b a:=by constructor;intro h;rcases qv7 a b with u|u|u;exact absurd u h;exact .inl u;exact .inr u;rintro (rfl|h);exact qw;exact rX h
abbrev lz (a b:List Int):Prop:=¬fD b a
def Ap{c:List Int}(h:lz a b)(g:fD b c):fD a c:=by rcases zy.1 h with u|u;rw[<- u];exact g;exact om u g
def qK{c:List Int}(h:fD a b)(g:lz b c):fD a c:=by rcases zy.1 g with u|u;rw[u];exact h;exact om h u
def yq{c:List Int}(h:lz a b)(g:lz b c):lz a c:=fun k=>by rcases zy.1 h with u|u;subst u;exact g k;exact g (om k u)
abbrev Key:=List Int
variable {k:Key}
abbrev fL:=List (List Int×List Int)
variable {l:fL}
def dI (l:List Key) (k:Key):Nat:=(l.takeWhile fun a=>decide (fD a k)).length
def dZ (l:List Key) (k:Key):Nat:=(l.takeWhile fun a=>decide (lz a k)).length
def fE (l:List Key):Prop:=l.Pairwise fD
def qf0{α:Type}(p:α->Bool)(l:List α):(l.takeWhile p).length<=l.length:=(takeWhile_sublist p).length_le
def Fg(l:List Key)(k:Key):dI l k<=l.length:=qf0 _ l
def xh(l:List Key)(k:Key):dZ l k<=l.length:=qf0 _ l
def DD{α:Type}(p:α->Bool):∀l:List α,l.take (l.takeWhile p).length=l.takeWhile p
 | []=>rfl
 | a::r=>by
  rw[takeWhile_cons];cases h:p a with
  | true=>simp[DD p r]
  | false=>simp
def DF{α:Type}{p:α->Bool}:∀ {l:List α} {x:α},x∈l.takeWhile p->p x=true
 | a::r,x,h=>by
  rw[takeWhile_cons] at h;cases u:p a with
  | true=>
   rw[u] at h;rcases zG.1 h with rfl|h;exact u;exact DF h
  | false=>rw[u] at h;cases h
def Ei{α:Type}{p:α->Bool}:∀ {l:List α} {x:α} {r:List α},l.drop (l.takeWhile p).length=x::r->p x=false
 | a::s,x,r,h=>by
  rw[takeWhile_cons] at h;cases u:p a with
  | true=>
   rw[u] at h;exact Ei (l:=s) (oP h)
  | false=>
   rw[u] at h;simp at h;rw[<- h.1];exact u
def qrD{l:List Key}{a:Key}(h:a∈l.take (dI l k)):fD a k:=by unfold dI at h;rw[DD] at h;exact zC (p:=fD a k) (DF (p:=fun a=>decide (fD a k)) h)
def qnj{l:List Key}{a:Key}(h:a∈l.take (dZ l k)):lz a k:=by unfold dZ at h;rw[DD] at h;exact zC (p:=lz a k) (DF (p:=fun a=>decide (lz a k)) h)
def wc{x:Key}{r:List Key}(h:fE (x::r)):∀a∈r,fD x a:=(yI.1 h).1
def fE.drop{l:List Key}(h:fE l)(n:Nat):fE (l.drop n):=List.Pairwise.sublist (drop_sublist n l) h
def fE.take{l:List Key}(h:fE l)(n:Nat):fE (l.take n):=List.Pairwise.sublist (take_sublist n l) h
def qqe{l:List Key}{a:Key}(E:fE l)(h:a∈l.drop (dI l k)):lz k a:=by
 have u:=E.drop (dI l k);cases e:l.drop (dI l k) with
 | nil=>rw[e] at h;cases h
 | cons x r=>
  have C:lz k x:=zB (Ei (p:=fun a=>decide (fD a k)) e);rw[e] at h u;rcases zG.1 h with rfl|h;exact C;exact yq C (rX (wc u a h))
def qlz{l:List Key}{a:Key}(E:fE l)(h:a∈l.drop (dZ l k)):fD k a:=by
 have u:=E.drop (dZ l k);cases e:l.drop (dZ l k) with
 | nil=>rw[e] at h;cases h
 | cons x r=>
  have C:fD k x:=Classical.not_not.1 (zB (Ei (p:=fun a=>decide (lz a k)) e));rw[e] at h u;rcases zG.1 h with rfl|h;exact C;exact om C (wc u a h)
def fC (k v:Key):fL->fL
 | []=>[(k,v)]
 | x::r=>if fD k x.1 then (k,v)::x::r else if k=x.1 then (k,v)::r else x::fC k v r
def gb (k:Key) (l:fL):fL:=l.filter fun x=>decide (x.1≠k)
abbrev dL (l:fL):List Key:=l.map (·.1)
def eU (l:fL):Prop:=fE (dL l)
def AU{k v:Key}:∀ {a:fL} {l:fL},(∀x∈a,fD x.1 k)->fC k v (a++l)=a++fC k v l
 | [],l,_=>rfl
 | x::a,l,h=>by have u:=h x oL;rw[xI,fC,if_neg (rX u),if_neg (fun e=>wU u e.symm),AU fun y C=>h y (zN _ C),xI]
def qlv{k v:Key}{b:fL}(h:∀x∈b,fD k x.1):∀l:fL,fC k v (l++b)=fC k v l++b
 | []=>by
  cases b with
  | nil=>rfl
  | cons x r=>
   show fC k v (x::r)=(k,v)::x::r;rw[fC,if_pos (h x oL)]
 | x::l=>by rw[xI,fC,fC];split;rfl;split;rfl;rw[qlv h l,xI]
def Fx{v w:Key}{a r:fL}(h:∀x∈a,fD x.1 k):fC k v (a++(k,w)::r)=a++(k,v)::r:=by rw[AU h,fC,if_neg qw,if_pos rfl]
def qvZ{v:Key}{a b:fL}(h:∀x∈a,fD x.1 k)(u:∀x∈b,fD k x.1):fC k v (a++b)=a++(k,v)::b:=by
 rw[AU h];cases b with
 | nil=>rfl
 | cons x r=>rw[fC,if_pos (u x oL)]
def zt{k v:Key}{x:Key×Key}:∀ {l:fL},x∈fC k v l->x=(k,v)\/x∈l
 | [],h=>.inl (by simpa[fC] using h)
 | y::l,h=>by rw[fC] at h;split at h;rcases zG.1 h with h|h;exact .inl h;exact .inr h;split at h;rcases zG.1 h with h|h;exact .inl h;exact .inr (zN _ h);rcases zG.1 h with h|h;exact .inr (by rw[h];simp);rcases zt h with h|h;exact .inl h;exact .inr (zN _ h)
def Bm{k v:Key}:∀ {l:fL},eU l->eU (fC k v l)
 | [],_=>pairwise_singleton _ _
 | x::l,h=>by have C:=yI.1 (show (x.1::dL l).Pairwise fD from h);rw[fC];split;rename_i E;refine yI.2 ⟨fun a u=>?_,h⟩;rcases zG.1 u with rfl|u;exact E;exact om E (C.1 a u);split;rename_i E;refine yI.2 ⟨fun a u=>?_,C.2⟩;show fD k a;rw[E];exact C.1 a u;rename_i G I;refine yI.2 ⟨fun a u=>?_,Bm C.2⟩;obtain⟨y,J,rfl⟩:=mem_map.1 u;rcases zt J with rfl|J;rcases zy.1 G with e|e;exact absurd e I;exact e;exact C.1 _ (zY J)
def CK{k v:Key}:∀ {l:fL},k∉dL l->(fC k v l).length=l.length+1
 | [],_=>rfl
 | x::l,h=>by rw[fC];split;rfl;split;rename_i e;exact absurd (by rw[e];simp) h;rw[yH,CK fun u=>h (zN _ u),yH]
def BP{k v:Key}:∀ {l:fL},eU l->k∈dL l->(fC k v l).length=l.length
 | x::l,E,h=>by have C:=yI.1 (show (x.1::dL l).Pairwise fD from E);rw[fC];split;rename_i u;rcases zG.1 h with e|e;rw[e] at u;exact absurd u qw;exact absurd u (rX (C.1 k e));split;rfl;rename_i u;rcases zG.1 h with e|e;exact absurd e u;rw[yH,BP C.2 e,yH]
def qmW{a:fL}(h:∀x∈a,fD x.1 k):gb k (a++l)=a++gb k l:=by unfold gb;rw[xB,filter_eq_self.2];intro x u;exact zZ (wU (h x u))
def qlm{b:fL}(h:∀x∈b,fD k x.1):gb k (l++b)=gb k l++b:=by unfold gb;rw[xB];congr 1;rw[filter_eq_self];intro x u;exact zZ fun e=>wU (h x u) e.symm
def qxl{w:Key}{a b:fL}(h:∀x∈a,fD x.1 k)(u:∀x∈b,fD k x.1):gb k (a++(k,w)::b)=a++b:=by rw[qmW h,show (k,w)::b=[(k,w)]++b from rfl,qlm u];unfold gb;simp
def qo1(h:eU l):eU (gb k l):=List.Pairwise.sublist (List.Sublist.map _ filter_sublist) h
def Gp{x:Key×Key}:x∈gb k l↔x∈l/\x.1≠k:=by unfold gb;rw[mem_filter];simp
def eU.sC{a b:fL}:eU (a++b)↔eU a/\eU b/\∀x∈a,∀y∈b,fD x.1 y.1:=by unfold eU fE dL;rw[xM,pairwise_append];constructor;rintro⟨h,u,C⟩;exact⟨h,u,fun x E y G=>C _ (zY E) _ (zY G)⟩;rintro⟨h,u,C⟩;refine⟨h,u,fun a I b J=>?_⟩;obtain⟨x,E,rfl⟩:=mem_map.1 I;obtain⟨y,G,rfl⟩:=mem_map.1 J;exact C x E y G
def yj(u:eU l):(∀x∈l.take (dI (dL l) k),fD x.1 k)/\∀x∈l.drop (dI (dL l) k),lz k x.1:=by refine⟨fun x h=>qrD (l:=dL l) ?_,fun x h=>qqe (l:=dL l) u ?_⟩;rw[<- xO];exact zY h;rw[<- xP];exact zY h
def quv{v:Key}(U:eU l):fC k v l=if (dL l)[dI (dL l) k]?=some k then l.set (dI (dL l) k) (k,v) else l.take (dI (dL l) k)++[(k,v)]++l.drop (dI (dL l) k):=by
 obtain⟨E,V⟩:=yj (k:=k) U;have G:eU (l.drop (dI (dL l) k)):=(by unfold eU dL;rw[xP];exact fE.drop U _);generalize hi:dI (dL l) k=i at E V G;have I:l=l.take i++l.drop i:=(xD i l).symm;cases e:l.drop i with
 | nil=>
  have hn:l.length<=i:=drop_eq_nil_iff.1 e;rw[if_neg (by rw[yR (by rw[zK];exact hn)];simp)];conv=>lhs;rw[I,e]
  rw[AU E];simp[fC]
 | cons x r=>
  have hx:=V x (by rw[e];simp);have u:i<l.length:=by rcases Nat.lt_or_ge i l.length with h|h;exact h;rw[vD h] at e;cases e
  have hg:l[i]=x:=by
   have:=zX u
   rw[e] at this;exact (vB this).1.symm
  have hr:l.drop (i+1)=r:=by
   have:=zX u
   rw[e] at this;exact (vB this).2.symm
  have J:(dL l)[i]?=some x.1:=(by rw[zQ,zA u,hg];rfl);rw[J];by_cases hk:x.1=k
  ·rw[if_pos (by rw[hk])];conv=>lhs;rw[I,e]
   obtain⟨a,w⟩:=x;dsimp only at hk;subst hk;rw[Fx E,set_eq_take_append_cons_drop,if_pos u,hr]
  ·rw[if_neg (fun h=>hk (yN h))];have C:fD k x.1:=by rcases zy.1 hx with h|h;exact absurd h hk;exact h
   conv=>lhs;rw[I,e]
   rw[qvZ E];simp;intro y R;rcases zG.1 R with rfl|R;exact C;rw[e] at G;exact om C (wc (x:=x.1) (r:=dL r) G y.1 (zY R))
def vv(E:eU l):(dL l)[dI (dL l) k]?=some k↔k∈dL l:=by
 constructor;exact fun h=>yE h;intro J;obtain⟨R,U⟩:=yj (k:=k) E;obtain⟨x,C,rfl⟩:=mem_map.1 J;have u:x∈l.drop (dI (dL l) x.1):=by rw[<- xD (dI (dL l) x.1) l,zD] at C;rcases C with C|C;exact absurd (R x C) qw;exact C
 have G:eU (l.drop (dI (dL l) x.1)):=(by unfold eU dL;rw[xP];exact fE.drop E _);cases e:l.drop (dI (dL l) x.1) with
 | nil=>rw[e] at u;cases u
 | cons y r=>
  have V:=U y (by rw[e];simp);rw[e] at u G;have he:y.1=x.1:=by rcases zG.1 u with rfl|u;rfl;exact absurd (wc (x:=y.1) (r:=dL r) G x.1 (zY u)) V
  have I:(l.drop (dI (dL l) x.1))[0]?=some y:=(by rw[e];rfl);rw[yZ] at I;rw[zQ,show l[dI (dL l) x.1]?=some y by simpa using I,<- he];rfl
def qmX(C:eU l)(J:k∈dL l):gb k l=l.take (dI (dL l) k)++l.drop (dI (dL l) k+1):=by
 have u:=(vv C).2 J;obtain⟨I,R⟩:=yj (k:=k) C;generalize dI (dL l) k=i at I R u;have h:i<l.length:=by
  have:=(zP.1 u).1
  simpa using this
 have U:l=l.take i++l[i]::l.drop (i+1):=(by rw[<- zX h,xD]);have E:l[i].1=k:=(by rw[zQ,zA h] at u;exact yN u);have G:eU (l.drop i):=(by unfold eU dL;rw[xP];exact fE.drop C _);rw[zX h] at G;conv=>lhs;rw[U]
 obtain⟨a,w,e⟩:∃a w,l[i]=(a,w):=⟨_,_,rfl⟩;rw[e] at E G⊢;dsimp only at E;subst E;exact qxl I fun y V=>wc (x:=a) (r:=dL (l.drop (i+1))) G y.1 (zY V)
def qS (t:Int):Int×Int:=
 if t=0 then (16,88) else if t=1 then (16,108) else if t=2 then (16,1) else if t=3 then (16,16)
 else if t=4 then (24,16) else if t=5 then (24,16) else if t=6 then (24,65) else if t=7 then (1,8) else (0,0)
def qwF(t:Int):t=0\/t=1\/t=2\/t=3\/t=4\/t=5\/t=6\/t=7\/(t≠0/\t≠1/\t≠2/\t≠3/\t≠4/\t≠5/\t≠6/\t≠7):=by omega
def qqE{t:Int}{w:World}(h:K (qS t) w):cW 74 [.i t] di w K:=by apply qqh;rcases qwF t with rfl|rfl|rfl|rfl|rfl|rfl|rfl|rfl|⟨u,C,E,G,I,J,R,U⟩<;>simpa[qS, *] using h
def sI (k v:Int):Int×Int:=if k<1\/k>24\/v<0\/v>108 then (0,0) else (498 / (k+v),(498+k) / (4+k))
def qye{k v:Int}{w:World}(h:∀w',mS w w'->K (sI k v) w'):cW 122 [.i k,.i v] di w K:=by
 apply qrr;by_cases hc:k<1\/k>24\/v<0\/v>108;refine tN true w (fun M u=>?_) ?_;by_cases h1:k<1;simpa[h1] using u;by_cases h2:k>24;simpa[h1,h2] using u;by_cases h3:v<0;simpa[h1,h2,h3] using u;have C:v>108:=oJ;simpa[h1,h2,h3,C] using u
 have:=h w (.refl w)
 simpa[sI,hc] using this;refine tN false w (fun M u=>?_) ?_;simpa[show ¬k<1 by omega,show ¬k>24 by omega,show ¬v<0 by omega,show ¬v>108 by omega] using u
 have:=h w.drew (mS.refl w).drew
 simp only[sI,hc,if_false] at this;have e1:IntKind.i64.wrap (k+v)=k+v:=IntWalk.i64_in _ oJ;have E:IntKind.i64.wrap (4+k)=4+k:=IntWalk.i64_in _ oJ;have G:IntKind.i64.wrap (498+k)=498+k:=IntWalk.i64_in _ oJ;have R:0<k+v:=oJ;have U:0<4+k:=oJ;have I:(498:Int).tdiv (k+v)=498 / (k+v):=Int.tdiv_eq_ediv_of_nonneg oJ;have J:(498+k).tdiv (4+k)=(498+k) / (4+k):=Int.tdiv_eq_ediv_of_nonneg oJ;have V:498 / (k+v)<=498:=Int.ediv_le_self _ oJ;have b2:(498+k) / (4+k)<=498+k:=Int.ediv_le_self _ oJ;have b3:0<=498 / (k+v):=Int.ediv_nonneg oJ oJ;have b4:0<=(498+k) / (4+k):=Int.ediv_nonneg oJ oJ;rw[e1,E,G,I,J,IntWalk.i64_in _ ⟨oJ,oJ⟩,IntWalk.i64_in _ ⟨oJ,oJ⟩];exact⟨oJ,oJ,this⟩
abbrev zi (t:Int):Prop:=0<=t/\t<=7
end
section
open Go Go.Pt List
open Go.IntKind (wrap)
attribute [local irreducible] ld dJ iH mZ i7 fi st new idx i8 jr fB js iY lV gT nn call dV inv run fc iM join loop held ext jR eI mH mz mI IntKind.wrap
variable {B F F1 F2 S X:List Nat} {K:Int->WP} {L:List (Nat×Obj)} {T:TypeId} {Z:List Value} {body c l t:List Int} {cs:Array Value} {db:Option Addr} {defb fb mb pb r:Nat} {f:List (Int×Value)} {n q:Int} {s sl sn:Sl} {w w' w0:World}
def eC (n:Nat):Nat:=if n=0 then 0 else (n-1) / 124+1
def qqu{n:Nat}(E:n<=1000000)(h:K (eC n) w):cW 141 [.i n] df w K:=by
 refine qmb ?_;apply cD<;>intro u
 have:=u
 have C:n=0:=oJ;subst C;exact h
 have:=u
 have C:n≠0:=oJ;rw[eC,if_neg C] at h;rw[gc ((n:Int)-1) oJ];have e:Int.tdiv ((n:Int)-1) 124=(((n-1) / 124:Nat):Int):=(by rw[Int.tdiv_eq_ediv_of_nonneg oJ];omega);rw[e,gc (((n-1) / 124:Nat):Int) oJ,gc ((((n-1) / 124:Nat):Int)+1) oJ];exact h
def iu:Int->List Int->Bool
 | _,[]=>true
 | a,x::r=>decide (a<x)&&iu x r
def qrP{K:Bool->WP}(h:Rd S w s l)(V:l.length<=1000000)(G:K (iu 1 l) w): cW 206 [s.v] dg w K:=by
 refine qk0 ?_;have R:=h.1;refine iV (fun x w'=>w'=w/\∃i:Nat,x.2=i/\i<=l.length/\iu x.1 (l.drop i)=iu 1 l) (fun x _=>((l.length:Int)-x.2).toNat) ⟨rfl,0,rfl,oJ,oL⟩ ?_;rintro⟨a,ii⟩ w' ⟨rfl,i,E,hi,C⟩ X U;simp only at E C;subst E;apply cD<;>intro I;have u:i<l.length:=oJ;refine Rd.at h i rfl (zA u) ?_;rw[zX u,iu] at C;apply cD<;>intro J
 have:=J
 rw[show decide (a<l[i])=false by rw[decide_eq_false_iff_not];omega,Bool.false_and] at C;rw[<- C] at G;exact G
 have:=J
 rw[show decide (a<l[i])=true by rw[yM];omega,Bool.true_and] at C;rw[gc _ oJ];exact U _ _ ⟨rfl,i+1,oL,oJ,C⟩ oN;have u:i=l.length:=oJ;subst u;rw[drop_length] at C;rw[<- C] at G;exact G
def qyw(n:Int):gl n 0=wrap .u8 n:=by
 unfold gl;have:Int.fdiv n (2^min (8*0) 32)=n:=by show Int.fdiv n (2^0)=n;simp
 rw[this]
def qpH{K:Sl->WP}(h:fO w s l B)(hl:l.length<=1000000)(hk:∀C B' w',fO w' C (l++be n 4) B'->Fr B w w'->(∀b∈B',b∈B\/w.heap.size<=b)->K C w'): new (.cells #[.b (wrap .u8 (Int.fdiv n (2^24))),.b (wrap .u8 (Int.fdiv n (2^16))),.b (wrap .u8 (Int.fdiv n (2^8))),.b (wrap .u8 n)] 5) w fun r w2=> Pt.run de ((Builtin.append_ #[101,101] 101 #[s.v,.slice (pW r) 4 4]).run prog w2) fun C w'=>K C w':=by obtain⟨i5,E,hz,G,I⟩:=uL;refine oB (oE [] w) fun r w1 e1 J ho=>?_;have R:be n 4=[gl n 3,gl n 2,gl n 1,gl n 0]:=rfl;have ae:=J.size;refine eO.j1 (ys:=be n 4) (e:=5) (h.q7 J) k8 oK E hz G rfl (.ofSlice _ (e':=5) oK _ 4 4 _ (by rw[qI];simp[jQ]) (fun j u V=>?_) (fun u hu=>?_)) (jQ n 4).symm (by rw[I];omega) oJ fun C B' w' g1 g2 g3 _=>?_;rw[Addr.q9,je (ho.at (i:=0) rfl),xR];rw[qI,R,qyw] at V;rw[List.getElem?_toArray];exact V;rw[qI] at hu;obtain⟨x,_,rfl⟩:=mem_map.1 hu;rfl;refine hk C B' w' g1 ((J.mono (fun i E _=>by cases E)).j8 g2 (fun b U=>.inl U)) (fun b U=>?_);rcases g3 b U with h|h;exact .inl h;exact .inr oJ
def qtg{K:Sl->WP}(h:fO w s l B)(E:l.length<=1000000)(G:∀C B' w',fO w' C (l++be n 4) B'->Fr B w w'->(∀b∈B',b∈B\/w.heap.size<=b)->K C w'): cW 208 [s.v,.u n] de w K:=by exact qm9<|qpH h E G
def Dt{A B:Int}(k:Nat)(G:0<=A)(C:A%2^k=0)(I:0<=B)(h:B<2^k)(J:A+B<4294967296):bits .or .u32 A B=A+B:=by
 obtain⟨a,rfl⟩:∃a:Nat,A=a:=⟨A.toNat,oJ⟩;obtain⟨b,rfl⟩:∃b:Nat,B=b:=⟨B.toNat,oJ⟩;have E:a%2^k=0:=by have:((a:Int)%((2^k:Nat):Int))=0:=(by rw[Int.natCast_pow];exact C);omega
 have u:b<2^k:=(by have:(b:Int)<((2^k:Nat):Int):=(by rw[Int.natCast_pow];exact h);omega);obtain⟨q,rfl⟩:∃q,a=2^k*q:=⟨a / 2^k,by have:=Nat.div_add_mod a (2^k);omega⟩;show wrap .u32 ((BitVec.ofInt 32 ((2^k*q:Nat):Int)||| BitVec.ofInt 32 (b:Int)).toNat:Nat)=_;rw[BitVec.toNat_or,BitVec.ofInt_natCast,BitVec.ofInt_natCast,BitVec.toNat_ofNat,BitVec.toNat_ofNat,Nat.mod_eq_of_lt (show 2^k*q<2^32 by omega),Nat.mod_eq_of_lt (show b<2^32 by omega),<- Nat.two_pow_add_eq_or_of_lt u];rw[nD _ oJ];omega
def nO (a b c d:Int):Int:=bits .or .u32 (bits .or .u32 (bits .or .u32 (wrap .u32 (wrap .u32 a*2^24)) (wrap .u32 (wrap .u32 b*2^16))) (wrap .u32 (wrap .u32 c*2^8))) (wrap .u32 d)
def qq8{a b c d:Int}(h:0<=a/\a<256)(u:0<=b/\b<256)(C:0<=c/\c<256)(E:0<=d/\d<256):nO a b c d=((a*256+b)*256+c)*256+d:=by unfold nO;rw[nD a oJ,nD b oJ,nD c oJ,nD d oJ,nD (a*2^24) oJ,nD (b*2^16) oJ,nD (c*2^8) oJ];rw[Dt (A:=a*2^24) (B:=b*2^16) 24 oJ oJ oJ oJ oJ];rw[Dt (B:=c*2^8) 16 oJ oJ oJ oJ oJ];rw[Dt (B:=d) 8 oJ oJ oJ oJ oJ];omega
def qxc(h:0<=n/\n<4294967296):nO (n / 16777216%256) (n / 65536%256) (n / 256%256) (n%256)=n:=by rw[qq8 oJ oJ oJ oJ];omega
def fg (l:List Int):Int:=nO (l.getD 0 0) (l.getD 1 0) (l.getD 2 0) (l.getD 3 0)
def getD_some{n:Nat}(h:n<l.length):l[n]?=some (l.getD n 0):=by rw[yQ,zA h];rfl
def qvQ(h:eE S w s l)(J:4<=l.length)(u:K (fg l) w): (idx s 0 1 fun a=>ld .b a w fun C=>idx s 1 1 fun a=>ld .b a w fun E=>idx s 2 1 fun a=>ld .b a w fun G=>idx s 3 1 fun a=>ld .b a w fun I=>K (nO C E G I) w):=by exact eE.at h 0 rfl (getD_some oJ)<|eE.at h 1 rfl (getD_some oJ)<|eE.at h 2 rfl (getD_some oJ)<|eE.at h 3 rfl (getD_some oJ)<|u
def qtf(h:eE S w s l)(C:4<=l.length)(E:K (fg l) w.drew):cW 211 [s.v] dm w K:=by exact qm8<|qvQ (w:=w.drew) h C E
def qrx{A B:Int}(k:Nat)(G:0<=A)(C:A%2^k=0)(I:0<=B)(h:B<2^k)(J:A+B<4294967296):bits .or .i64 A B=A+B:=by
 obtain⟨a,rfl⟩:∃a:Nat,A=a:=⟨A.toNat,oJ⟩;obtain⟨b,rfl⟩:∃b:Nat,B=b:=⟨B.toNat,oJ⟩;have E:a%2^k=0:=by have:((a:Int)%((2^k:Nat):Int))=0:=(by rw[Int.natCast_pow];exact C);omega
 have u:b<2^k:=(by have:(b:Int)<((2^k:Nat):Int):=(by rw[Int.natCast_pow];exact h);omega);obtain⟨q,rfl⟩:∃q,a=2^k*q:=⟨a / 2^k,by have:=Nat.div_add_mod a (2^k);omega⟩;show wrap .i64 ((BitVec.ofInt 64 ((2^k*q:Nat):Int)||| BitVec.ofInt 64 (b:Int)).toNat:Nat)=_;rw[BitVec.toNat_or,BitVec.ofInt_natCast,BitVec.ofInt_natCast,BitVec.toNat_ofNat,BitVec.toNat_ofNat,Nat.mod_eq_of_lt (show 2^k*q<2^64 by omega),Nat.mod_eq_of_lt (show b<2^64 by omega),<- Nat.two_pow_add_eq_or_of_lt u];rw[gc _ oJ];omega
def kc (l:List Int):Int:=l.getD 4 0*256+l.getD 5 0
def jK (l:List Int) (n:Nat):List Int:=(List.range n).map fun i=>fg (l.drop (6+4*i))
def gW (l:List Int):Int×List Int×Int:=
 if l.length<6 then (0,[],2) else
 if fg l=1\/kc l>123\/(l.length:Int)≠6+4*kc l then (0,[],2) else
 if iu 1 (jK l (kc l).toNat) then (fg l,jK l (kc l).toNat,0) else (0,[],2)
def qve{K:Int×Sl×Int->WP}(h:eE S w s l)(hB:eB l)(hl:l.length<=100000)(hk:∀s' B w',kQ w' s' (gW l).2.1 B->Fr [] w w'->(∀b∈B,w.heap.size<=b)->K ((gW l).1,s',(gW l).2.2) w'): cW 175 [s.v] dA w K:=by
 refine qkY ?_;have I:=h.1;have R:∀ {e:Int} {w':World},gW l=(0,[],e)->Fr [] w w'->K (0,dC,e) w':=by
  intro e w' he hf
  have:=hk dC [] w' (by rw[he];exact .nil _ _ _) hf oL
  rw[he] at this;exact this
 apply dR<;>intro C
 have:=zC C
 exact R (by rw[gW,iP]) (.refl _ _);have h6:¬l.length<6:=(by have:=zB C;omega);have fd:Fr [] w w.drew:=(Fr.refl _ _).drew;have E:Fr [] w w.drew.drew:=fd.drew;obtain⟨_,b4,o4,ak,aK,al,T4,aL,aa,am⟩:=dW.at h 4 (getD_some (l:=l) (n:=4) oJ);obtain⟨_,b5,o5,an,aM,ao,T5,aN,ab,ap⟩:=dW.at h 5 (getD_some (l:=l) (n:=5) oJ);have g4:al[o4+4]?=some (.b (l.getD 4 0)):=(by have:=congrArg (·[0]?) am;simpa using this);have g5:ao[o5+5]?=some (.b (l.getD 5 0)):=(by have:=congrArg (·[0]?) ap;simpa using this);have c4:∀ {w':World},Fr [] w w'->w'.cell? ⟨b4,o4+Int.toNat 4*1,none⟩=some (.b (l.getD 4 0)):=fun f=>by rw[je (by rw[f.block b4 (eT aa) oL];exact aa)];exact g4
 have c5:∀ {w':World},Fr [] w w'->w'.cell? ⟨b5,o5+Int.toNat 5*1,none⟩=some (.b (l.getD 5 0)):=fun f=>by rw[je (by rw[f.block b5 (eT ab) oL];exact ab)];exact g5
 refine pY ak ⟨oJ,oJ⟩<|oV (l.getD 4 0) (c4 fd)<|pY an ⟨oJ,oJ⟩<|oV (l.getD 5 0) (c5 fd)<|qtf (w:=w.drew) (S:=S) h oJ<|jX (c5 E) (c4 E) ?_;have r4:0<=l.getD 4 0/\l.getD 4 0<256:=hB _ (yE (getD_some (l:=l) (n:=4) oJ));have r5:0<=l.getD 5 0/\l.getD 5 0<256:=hB _ (yE (getD_some (l:=l) (n:=5) oJ));have ac:bits .or .i64 (wrap .i64 (wrap .i64 (l.getD 4 0)*2^8)) (wrap .i64 (l.getD 5 0))=kc l:=by rw[gc (l.getD 4 0) oJ,gc (l.getD 5 0) oJ,gc (l.getD 4 0*2^8) oJ,qrx 8 oJ oJ oJ oJ oJ];rfl
 have aH:0<=kc l/\kc l<65536:=(by unfold kc;omega);rw[ac];refine gQ (fun b w'=>b=decide (fg l=1\/kc l>123\/(l.length:Int)≠6+4*kc l)/\w'=w.drew.drew) ?_ ?_;apply dR<;>intro C;exact⟨by rw[zZ (Or.inl (oP C))],rfl⟩;have aq:¬fg l=1:=(oP C);apply cD<;>intro U;exact⟨by rw[zZ (Or.inr (Or.inl (U)))],rfl⟩;have ad:¬kc l>123:=U;refine⟨?_,rfl⟩;rw[gc (4*kc l) oJ,gc (6+4*kc l) oJ,I];by_cases h3:(l.length:Int)=6+4*kc l<;>simp[aq,ad,h3];rintro b w1 ⟨rfl,rfl⟩;refine dR (fun C=>R (by rw[gW,if_neg h6,if_pos (zC C)]) E) (fun C=>?_);have V:=zB C;have ae:kc l<=123:=by rcases Int.lt_or_le 123 (kc l) with h|h;exact absurd (Or.inr (Or.inl h)) V;exact h
 have ar:(l.length:Int)=6+4*kc l:=Classical.byContradiction fun h=>V (Or.inr (Or.inr h));have pv:gW l=if iu 1 (jK l (kc l).toNat) then (fg l,jK l (kc l).toNat,0) else (0,[],2):=by rw[gW,if_neg h6,if_neg V]
 obtain⟨n,hn⟩:∃n:Nat,kc l=n:=⟨(kc l).toNat,oJ⟩;rw[hn] at ae ar pv⊢;rw[zJ] at pv;refine iV (fun x w'=>∃(i:Nat) (B:List Nat),x.2=i/\i<=n/\kQ w' x.1 (jK l i) B/\Fr [] w w'/\∀b∈B,w.heap.size<=b) (fun x _=>((n:Int)-x.2).toNat)
  ⟨0,[],rfl,oJ,.nil _ _ _,E,oL⟩ ?_
 rintro⟨s1,ii⟩ w2 ⟨i,B,af,hi,J,f2,n2⟩ X hX;simp only at af J;subst af;apply cD<;>intro C;have ag:i<n:=oJ;rw[gc (4*(i:Int)) oJ,gc (6+4*(i:Int)) oJ];have h2:eE S w2 s l:=h.q7 f2;refine dW.part h2 (6+4*i) l.length oL (by rw[I];rfl) oJ oJ fun s3 l3 r3 _=>?_;rw[xY] at r3;refine qtf r3 (by rw[yB];omega) ?_;have ah:Fr [] w w2.drew:=f2.drew;refine DC (w:=w2.drew) (B:=B) J (by simp[jK];omega) fun s4 B4 w4 g1 g2 g3=>?_;rw[gc _ oJ];have aZ:=ah.size;refine hX _ _ ⟨i+1,B4,oL,oJ,?_,ah.j8 g2 (fun b J=>.inr (n2 b J)),fun b J=>?_⟩ oN;have:jK l (i+1)=jK l i++[fg (l.drop (6+4*i))]:=(by simp[jK,range_succ]);rw[this];exact g1;rcases g3 b J with h|h;exact n2 b h;omega;have ag:i=n:=oJ;subst ag;refine qrP (S:=[]) (J.jq qy oL) (by simp[jK];omega) ?_;apply dR<;>intro hr;have G:¬iu 1 (jK l i)=true:=(oP hr);exact R (by rw[pv,if_neg G]) f2;have G:iu 1 (jK l i)=true:=by simpa using hr
 have:=hk s1 B w2 (by rw[pv,if_pos G];exact J) f2 n2
 rw[pv,if_pos G] at this;exact this
def sJ:Sl->List Value:=fun s=>[s.v]
def qqW:∀x,(sJ x).length=1:=fun _=>rfl
def qz0:∃i,prog.info? 101=some i/\i.zero=some (.slice none 0 0)/\i.size=1/\i.bytes=24:=se oK
def ji (S:List Nat) (w:World) (s:Sl) (u:List (List Int)) (B:List Nat):Prop:=
 ∃h:List Sl,eO sJ 1 w s h B/\h.length=u.length/\∀(i:Nat) sl l,h[i]?=some sl->u[i]?=some l->eE (S++B) w sl l
def ji.nil(S:List Nat)(w:World):ji S w dC [] []:=⟨[],.nil _ _ _,rfl,fun i sl l h=>by simp at h⟩
def ji.q8{S S':List Nat}{w w':World}{s:Sl}{G:List (List Int)}{B:List Nat}(h:ji S w s G B)(f:Fr S w w')(I:∀b∈B,b∉S)(C:∀b∈S',b∈S\/w.heap.size<=b):ji S' w' s G B:=by obtain⟨E,J,R,U⟩:=h;refine⟨E,J.q8 f I,R,fun i sl l V hl=>(U i sl l V hl).q8 (f.mono fun b u _=>zH _ u) fun b u=>?_⟩;rcases zD.1 u with u|u;rcases C b u with h|h;exact .inl (zH _ h);exact .inr h;exact .inl (zI _ u)
def ji.push{S:List Nat}{w:World}{s sl:Sl}{J:List (List Int)}{B:List Nat}{l:List Int}{T:TypeId}{K:Sl->WP}(h:ji S w s J B)(hr:eE (S++B) w sl l)(hl:J.length<=1000000)(kk:∀I B' w',ji S w' I (J++[l]) B'->Fr B w w'->(∀b∈B',b∈B\/w.heap.size<=b)->K I w'): Pt.new (.cells #[sl.v] T) w fun r w1=>Pt.run de ((Builtin.append_ #[171,171] 171 #[s.v,.slice (pW r) 1 1]).run prog w1) K:=by
 obtain⟨i,hi,hz,R,U⟩:=qz0;obtain⟨G,h1,V,h3⟩:=h;refine eO.push (e:=101) (x:=sl) h1 qqW (by simp[sJ,Value.oneCell']) oK hi hz R rfl rfl (by rw[U];omega) oJ fun I B' w' b' f' n'=>kk I B' w' ⟨_,b',by simp[V],fun j sj lj C u=>?_⟩ f' n';have hw:∀b∈S++B',b∈S++B\/w.heap.size<=b:=fun b E=>by rcases zD.1 E with E|E;exact .inl (zH _ E);rcases n' b E with h|h;exact .inl (zI _ h);exact .inr h
 have hf:Fr (S++B) w w':=f'.mono fun b E _=>zI _ E;by_cases hjl:j<G.length;rw[yY hjl] at C;rw[yY oJ] at u;exact (h3 j sj lj C u).q8 hf hw;by_cases hje:j=G.length;subst hje;rw[yX (zM _),Nat.sub_self] at C;rw[V,yX (zM _),Nat.sub_self] at u;simp at C u;subst C u;exact hr.q8 hf hw;rw[yR (by rw[zF];simp;omega)] at C;cases C
def iA (next:Int) (c:List Int):List Int:=be next 4++[wrap .u8 (Int.fdiv c.length (2^8)),wrap .u8 c.length]++c.flatMap (be · 4)
def gf (numbers y4:List Int) (k:Nat):List (List Int):=(List.range k).map fun i=>iA (y4.getD (i+1) 0) ((numbers.drop (123*i)).take 123)
def gd (numbers y4:List Int):List (List Int)×Int:=
 if iu 1 numbers=false\/numbers.length>123*y4.length then ([],1) else if ∃p∈y4,p<2 then ([],1) else (gf numbers y4 y4.length,0)
def qw2{K:Value->WP}(E:∀u C w',Fr [] w w'->(∀S w0 L,dM S w0 w L->dM S w0 w' ((u,.cells #[.i n] 3 (0,0))::(C,.cells #[s.v] 172 (0,0))::L))->K (.func (.func 240) #[] #[dB u,dB C]) w'): cW 207 [s.v,.i n] dq w K:=by exact qkZ<|Pt.CO<|Pt.CO<|E _ _ _ (((Fr.refl [] w).alloc _).alloc _) fun S w0 L h=>(h.alloc _).alloc _
def Ab:∀l:List Int,(l.flatMap (be · 4)).length=l.length*4
 | []=>rfl
 | x::l=>by rw[yG,zF,jQ,Ab l,yH];omega
def qzf(a b:Int):([a,b]:List Int).length=2:=rfl
def qtO{G:List Nat}{sp:Sl}{numbers y4:List Int}{K:Sl×Int->WP}(hn:Rd S w sn numbers)(hp:Rd S w sp y4)(b5:numbers.length<=100000)(b6:y4.length<=100000)(hG:∀b∈G,b<w.heap.size)(hk:∀s' B w',ji G w' s' (gd numbers y4).1 B->Fr [] w w'->(∀b∈B,w.heap.size<=b)->K (s',(gd numbers y4).2) w'): cW 172 [sn.v,sp.v] dh w K:=by
 refine qjN ?_;have bl:=hn.1;have bm:=hp.1;have aX:∀ {w':World},gd numbers y4=([],1)->Fr [] w w'->K (dC,1) w':=by
  intro w' he hf
  have:=hk dC [] w' (by rw[he];exact .nil _ _) hf oL
  rw[he] at this;exact this
 refine oB (oE [] w) fun r1 w1 e1 f1 ho=>?_;have bn:Rd S w1 sn numbers:=hn.q7 ho.fr;have bo:Rd S w1 sp y4:=hp.q7 ho.fr;refine gQ (fun b w'=>b=decide (iu 1 numbers=false\/numbers.length>123*y4.length)/\w'=w1) ?_ ?_;refine qrP bn oJ ?_;apply dR<;>intro hc;have hr:iu 1 numbers=false:=(oP hc);exact⟨by rw[zZ (Or.inl hr)],rfl⟩;have hr:iu 1 numbers=true:=(oP hc);refine oA ho 0 rfl sp rfl ⟨?_,rfl⟩;rw[gc (123*(sp.len:Int)) oJ,bl,bm];have e:decide ((numbers.length:Int)>123*(y4.length:Int))=decide (numbers.length>123*y4.length):=by by_cases h:numbers.length>123*y4.length;rw[zZ h,zZ];omega;rw[zU h,zU];omega
 rw[e];by_cases h:numbers.length>123*y4.length<;>simp[hr,h];rintro b w2 ⟨rfl,rfl⟩;refine dR (fun hc=>aX (by rw[gd,if_pos (zC hc)]) ho.fr) (fun hc=>?_);have aY:=zB hc;refine oA ho 0 rfl sp rfl<|iV (fun x w'=>w'=w2/\∃i:Nat,x.2.2=i/\i<=y4.length/\∀p∈y4.take i,¬p<2) (fun x _=>((y4.length:Int)-x.2.2).toNat) ⟨rfl,0,rfl,oJ,oL⟩ ?_;rintro⟨sx,ex,ii⟩ w3 ⟨rfl,i,aZ,hi,ar⟩ X hX;simp only at aZ;subst aZ;dsimp only;apply cD<;>intro hc;have au:i<y4.length:=oJ;refine Rd.at bo i rfl (zA au) ?_;apply cD<;>intro hx;exact aX (by rw[gd,if_neg aY,if_pos ⟨y4[i],zW au,hx⟩]) ho.fr;rw[gc _ oJ];refine hX _ _ ⟨rfl,i+1,oL,oJ,fun p hp=>?_⟩ oN;rw[yF au] at hp;rcases zD.1 hp with hp|hp;exact ar p hp;simp at hp;subst hp;exact hx;have au:i=y4.length:=oJ;subst au;rw[xY] at ar;have bv:gd numbers y4=(gf numbers y4 y4.length,0):=by rw[gd,if_neg aY,if_neg];rintro⟨p,hp,h2⟩;exact ar p hp h2
 rw[bv] at hk;refine oB ho fun ro w4 eo fo ho=>oA ho 1 rfl sp rfl<|qw2 fun rp rl w5 f5 a0=>?_;have bx:=a0 _ _ _ ho;refine dM.jR (lb:=[dB rp,dB rl]) bx rfl oK fun Dm l R Bz J E E0 w6 el eD b8 a1 hy=>qik<|oA a1 2 rfl sp.len rfl<|iV (fun x w'=>∃(j:Nat) (cl so:Sl) (Bo:List Nat),x=j/\j<=y4.length/\Rd [] w cl (numbers.drop (123*j))/\ji ([l,Dm,rp,rl,ro,r1]++G) w' so (gf numbers y4 j) Bo/\(∀b∈Bo,w.heap.size<=b/\b∉[l,Dm,rp,rl,ro,r1])/\
   dM [] w w' [(l,R),(Dm,.deferred (some [])),(rp,.cells #[.i sp.len] 3 (0,0)),(rl,.cells #[cl.v] 172 (0,0)),(ro,.cells #[so.v] 171 (0,0)),(r1,.cells #[sp.v] 172 (0,0))]) (fun x _=>((y4.length:Int)-x).toNat)
  ⟨0,sn,dC,[],rfl,oJ,hn.j6 (fun b C=>by cases C),.nil _ _,oL,a1⟩ ?_
 rintro x w7 ⟨j,cl,so,Bo,rfl,hj,aL,av,ao,ac⟩ X hX;have al:∀b∈Bo,b∉[l,Dm,rp,rl,ro,r1]++G:=fun b C U=>by
  rcases zD.1 U with U|U;exact (ao b C).2 U
  have:=hG b U;have:=(ao b C).1;omega
 have bA:=aL.1;rw[yB] at bA;apply cD<;>intro hc
 ·have cc:j<y4.length:=oJ;refine oA ac 3 rfl cl rfl<|oA ac 3 rfl cl rfl ?_;obtain⟨m,U,ab⟩:∃m:Nat,(if (123:Int)<(cl.len:Int) then 123 else (cl.len:Int))=m/\m=Nat.min 123 cl.len:=(by by_cases h:123<cl.len;exact⟨123,by rw[iP];rfl,(xQ oJ).symm⟩;exact⟨cl.len,by rw[iN],(Nat.min_eq_right oJ).symm⟩);rw[U];have bB:m<=123:=(by rw[ab];exact Nat.min_le_left _ _);have bW:m<=cl.len:=(by rw[ab];exact Nat.min_le_right _ _);refine dW.part aL 0 m rfl rfl oJ (by rw[yB];omega) fun cs bX aD _=>?_;rw[xE] at aD;have am:(numbers.drop (123*j)).take m=(numbers.drop (123*j)).take 123:=(by by_cases h:123<cl.len;rw[ab];congr 1;exact xQ oJ;have:m=cl.len:=(by rw[ab];exact Nat.min_eq_right oJ);rw[this,zS (by rw[yB];omega),zS (by rw[yB];omega)]);generalize bC:(numbers.drop (123*j)).take m=chunk at aD am;have a2:chunk.length=m:=(by rw[<- bC,yK,yB];omega);have aJ:cs.len=m:=oJ;refine hy ((j:Int),cs) w7 _ (ac.at (i:=0) rfl) ?_;dsimp only;refine⟨ac.at (i:=0) rfl,?_⟩;have I:=ac.gL (o':=Bz) 0 rfl;have V:=I.uA [];have a3:Rd [] (Pt.gL w7 l Bz) sp y4:=(hp.j6 (fun b C=>by cases C)).q7 I.fr;have aw:ji ([l,Dm,rp,rl,ro,r1]++G) (Pt.gL w7 l Bz) so (gf numbers y4 j) Bo:=av.q8 ((rR (eT (ac.at (i:=0) rfl)) Bz).mono fun b C _=>by simp at C;subst C;simp) al (fun b C=>.inl C);have a4:=av.choose_spec.1.lt;refine gQ (fun x w'=>x=y4.getD (j+1) 0/\w'=Pt.gL w7 l Bz) ?_ ?_;refine oA V 5 rfl sp rfl ?_;rw[gc ((j:Int)+1) oJ];apply cD<;>intro aM;have h2:j+1<y4.length:=oJ;exact oA V 5 rfl sp rfl<|Rd.at a3 (j+1) oJ (getD_some h2)<|⟨rfl,rfl⟩;have h2:¬j+1<y4.length:=oJ;exact⟨by rw[yQ,yR oJ];rfl,rfl⟩;rintro x w8 ⟨rfl,rfl⟩;generalize bD:y4.getD (j+1) 0=next
  have hW:(Pt.gL w7 l Bz).heap.size=w7.heap.size:=ug _ _ _;generalize ce:Pt.gL w7 l Bz=w8 at I V a3 hW aw;have bY:Rd [] w8 cs chunk:=aD.q7 I.fr;have an:∀p∈[l,Dm,rp,rl,ro,r1],p<w8.heap.size:=fun p hp=>by have ap:=fun (k:Nat) (q:Nat×Obj) (hq:_[k]?=some q)=>eT (I.at (i:=k) hq);simp only[zG,xW,or_false] at hp;rcases hp with rfl|rfl|rfl|rfl|rfl|rfl;exact ap 0 _ rfl;exact ap 1 _ rfl;exact ap 2 _ rfl;exact ap 3 _ rfl;exact ap 4 _ rfl;exact ap 5 _ rfl
  obtain⟨i5,bE,bF,a5,a6⟩:=uL;refine qtg (s:=dC) (l:=[]) (B:=[]) (.nil _ _ _) oL fun s9 B9 w9 b9 f9 n9=>?_;rw[xH] at b9;have V:=V.q7 f9;refine oB V fun r2 ch ci a7 V=>?_;have aO:∀b∈B9,w8.heap.size<=b:=fun b C=>by rcases n9 b C with h|h;cases h;exact h
  refine eO.j1 (ys:=[wrap .u8 (Int.fdiv chunk.length (2^8)),wrap .u8 chunk.length]) (e:=5) (b9.q7 a7) k8 oK bE bF a5 rfl (.ofSlice _ (e':=5) oK _ 2 2 _ (by rw[qI];rfl) (fun q u hq=>?_) (fun u hu=>?_)) rfl (by rw[a6,jQ];decide) (by rw[jQ];decide) fun cj a8 ck bH bI bJ _=>?_;rw[Addr.q9,je (V.at (i:=0) rfl),xR,aJ,<- a2];rw[qI] at hq;rw[List.getElem?_toArray];exact hq;rw[qI] at hu;obtain⟨x,_,rfl⟩:=mem_map.1 hu;rfl;have cm:=f9.size;have b1:=a7.size;have bK:=b9.lt;have V:=(V.sub (sublist_cons_self _ _)).q8 bI (fun b C=>.inr (aO b C)) (fun p hp C=>by have h1:=an p.1 (zY (f:=(·.1)) hp);have h2:=aO _ C;omega);have a9:∀b∈a8,w8.heap.size<=b:=fun b C=>by rcases bJ b C with h|h;exact aO b h;omega
  refine iV (fun x w'=>∃(q:Nat) (Bq:List Nat),x.2=q/\q<=m/\fO w' x.1 (be next 4++[wrap .u8 (Int.fdiv chunk.length (2^8)),wrap .u8 chunk.length]++(chunk.take q).flatMap (be · 4)) Bq/\(∀b∈Bq,w8.heap.size<=b)/\
    dM ([l,Dm,rp,rl,ro,r1]++[]) w8 w' [(l,Bz),(Dm,.deferred (some [])),(rp,.cells #[.i sp.len] 3 (0,0)),(rl,.cells #[cl.v] 172 (0,0)),(ro,.cells #[so.v] 171 (0,0)),(r1,.cells #[sp.v] 172 (0,0))]) (fun x _=>((m:Int)-x.2).toNat)
   ⟨0,a8,rfl,oJ,by simpa using bH,a9,V⟩ ?_
  rintro⟨bM,qq⟩ aP ⟨q,Bq,a',cn,bq,nq,hq⟩ Y hY;simp only at a' bq;subst a';dsimp only;rw[aJ];apply cD<;>intro aQ
  ·have ax:q<chunk.length:=oJ;have aR:Rd [] aP cs chunk:=aD.q7 (I.vg (T:=[]) oL hq.fr);refine Rd.at aR q rfl (zA ax) ?_;have aT:(be next 4++[wrap .u8 (Int.fdiv chunk.length (2^8)),wrap .u8 chunk.length]++(chunk.take q).flatMap (be · 4)).length<=1000000:=(by rw[zF,zF,jQ,Ab,yK,qzf];omega);refine qtg bq aT fun ba aE aF aU aV aW=>?_;rw[gc _ oJ];refine hY _ _ ⟨q+1,aE,oL,oJ,?_,fun b C=>?_,hq.q8 aV (fun b C=>.inr (nq b C)) (fun p hp C=>?_)⟩ oN;rw[yF ax,yP,flatMap_singleton,<- zV];exact aU;rcases aW b C with h|h;exact nq b h;exact zL hq.fr.size h;have h1:=an p.1 (zY (f:=(·.1)) hp);have h2:=nq _ C;omega
  ·have bN:q=m:=oJ;subst bN;rw[zS oJ] at bq;refine oA hq 4 rfl so rfl ?_;have bb:eE (([l,Dm,rp,rl,ro,r1]++G)++Bo) aP bM (iA next chunk):=bq.jq k8 fun b C U=>by
    have h2:=nq _ C;rcases zD.1 U with U|U;rcases zD.1 U with U|U
    have:=an b U;omega
    have:=hG b U;have:=I.fr.size;omega
    have:=a4 b U;omega
   have aG:ji ([l,Dm,rp,rl,ro,r1]++G) aP so (gf numbers y4 j) Bo:=aw.q8 (hq.fr.mono fun b C _=>by rw[xG] at C;exact zH _ C) al (fun b C=>.inl C);refine ji.push aG bb (by rw[gf,zK,length_range];omega) fun ba aE aF aU aV aW=>?_;have ay:=(I.vq (T:=[]) oL hq).q8 aV (fun b C=>.inr (ao b C).1) (fun p hp C=>(ao _ C).2 (zY (f:=(·.1)) hp));refine oD ay 4 rfl _ fun cp ay bO=>⟨ay.at (i:=0) rfl,?_⟩;have ax:=ay.gL (o':=R) 0 rfl;refine cond_false rfl<|oA ax 3 rfl cl rfl<|dW.part aL q (numbers.drop (123*j)).length rfl (by rw[yB];show (cl.len:Int)=_;omega) (by rw[yB];omega) (zM _) fun cr b3 bc _=>oD ax 3 rfl _ fun bP bQ bR=>?_;rw[gc _ oJ];have az:∀b∈aE,w.heap.size<=b/\b∉[l,Dm,rp,rl,ro,r1]:=fun b C=>by
    rcases aW b C with h|h;exact ao b h;have h1:=hq.fr.size;refine⟨?_,fun U=>?_⟩
    have:=I.fr.size;omega
    have:=an b U;omega
   have ff:Fr [l,Dm,rp,rl,ro,r1] aF bP:=
    (bO.mono fun b C _=>by simp at C;subst C;simp).j8 ((rR (eT (ay.at (i:=0) rfl)) R).mono (T:=[l,Dm,rp,rl,ro,r1]) fun b C _=>by simp at C;subst C;simp) (fun b C=>.inl C) |>.j8 (bR.mono (T:=[l,Dm,rp,rl,ro,r1]) fun b C _=>by simp at C;subst C;simp) (fun b C=>.inl C)
   have aH:=aU.q8 (ff.mono fun b C _=>zH _ C) (fun b C U=>by
    rcases zD.1 U with U|U;exact (az b C).2 U
    have:=hG b U;have:=(az b C).1;omega) (fun b C=>.inl C)
   have bd:((numbers.drop (123*j)).take (numbers.drop (123*j)).length).drop q=numbers.drop (123*(j+1)):=(by rw[xY,xC];by_cases h:123<cl.len;rw[show q=123 by rw[ab];exact xQ oJ,Nat.mul_add];have:q=cl.len:=(by rw[ab];exact Nat.min_eq_right oJ);rw[vD oJ,vD oJ]);rw[bd] at bc;have aT:gf numbers y4 (j+1)=gf numbers y4 j++[iA next chunk]:=(by rw[gf,range_succ,xM,map_singleton,bD,<- am];rfl);refine hX _ _ ⟨j+1,cr,ba,aE,oL,oJ,bc,by rw[aT];exact aH,az,bQ⟩ oJ
 have bS:j=y4.length:=oJ;subst bS;refine .inl ⟨ac.at (i:=0) rfl,?_⟩;have I:=ac.gL (o':=E0) 0 rfl;refine oA I 4 rfl so rfl<|dM.eI I.kZ 1 rfl fun aF hd=>?_;have bT:ji ([l,Dm,rp,rl,ro,r1]++G) (Pt.gL w7 l E0) so (gf numbers y4 y4.length) Bo:=av.q8 ((rR (eT (ac.at (i:=0) rfl)) E0).mono fun b C _=>by simp at C;subst C;simp) al (fun b C=>.inl C);exact hk so Bo aF (bT.q8 (S':=G) (hd.fr.mono fun b C _=>zH _ C) al (fun b C=>.inl (zI _ C))) (I.back hd.fr) (fun b C=>(ao b C).1)
def eN (q:Int) (t:List Int):List Value:=.int .u64 q::t.map (Value.int .u32)
def gi (q:Int) (t:List Int):List Int:=be (wrap .u32 (Int.fdiv q (2^32))) 4++be (wrap .u32 q) 4++t.flatMap (be · 4)
def xz(h:t.length=27):(gi q t).length=116:=by rw[gi,zF,zF,jQ,jQ,Ab,h]
def pw(h:t.length=27):(eN q t).length=28:=by simp[eN,h]
def A2(n:Nat)(h:n<t.length):(eN q t).toArray[n+1]?=some (.u (t.getD n 0)):=by simp[eN,yQ,zA h]
def CP(q:Int)(t:List Int):((eN q t).all Value.oneCell')=true:=by rw[all_eq_true];intro v h;rcases zG.1 h with rfl|h;rfl;obtain⟨x,_,rfl⟩:=mem_map.1 h;rfl
def qqM{α:Type}{enc:α->List Value}{k:Nat}{l:List α}(h:eO enc k w s l B):eO enc k w.drew s l B:=h
def mV (w0:World) (L:List (Nat×Obj)) (B:List Nat):Prop:=∀b∈B,w0.heap.size<=b/\b∉L.map (·.1)
def mV.cons{o:Obj}(h:mV w0 L B)(E:r∉B):mV w0 ((r,o)::L) B:=fun b u=>⟨(h b u).1,fun C=>by rcases zG.1 C with rfl|C;exact E u;exact (h b u).2 C⟩
def mV.tail{p:Nat×Obj}(h:mV w0 (p::L) B):mV w0 L B:=fun b u=>⟨(h b u).1,fun C=>(h b u).2 (zN _ C)⟩
def FH{j:Nat}(h:j+3<=l.length):l.drop j=l.getD j 0::l.getD (j+1) 0::l.getD (j+2) 0::l.drop (j+3):=by rw[zX oJ,zX (i:=j+1) oJ,zX (i:=j+1+1) oJ];simp only[yQ];rw[zA (show j<l.length by omega),zA (show j+1<l.length by omega),zA (show j+2<l.length by omega)];rfl
def qg{j:Nat}(h:j+3<=l.length):l.take (j+3)=l.take j++[l.getD j 0,l.getD (j+1) 0,l.getD (j+2) 0]:=by rw[take_add,FH h];rfl
def qAb{j:Nat}(h:j+3<=l.length):(l.map (Value.int .u32)).extract j (j+3)=[.u (l.getD j 0),.u (l.getD (j+1) 0),.u (l.getD (j+2) 0)]:=by rw[extract_eq_take_drop,<- xP,FH h,show j+3-j=3 by omega];rfl
def vd{K:Sl->WP}(G:dM [] w0 w L)(h:fO w s l B)(I:mV w0 L B)(U:l.length<=1000000)(V:∀E B' w',dM [] w0 w' L->fO w' E (l++be n 4) B'->mV w0 L B'->K E w'): cW 209 [s.v,.u n] de w K:=by
 refine qr0<|qpH h U fun E B' w' b' f' n'=>V E B' w' (G.q8 f' (fun b C=>.inr (I b C).1) (fun p J C=>(I _ C).2 (zY J))) b' fun b C=>?_;rcases n' b C with R|R;exact I b R;refine⟨zL G.fr.size R,fun hm=>?_⟩;obtain⟨p,J,rfl⟩:=mem_map.1 hm
 have:=eT (G.eA p J)
 omega
def qvp{K:Sl->WP}(hv:Hv w)(J:t.length=27)(hk:∀b T w',w'.heap[b]?=some (.cells (fM (eh (wrap .u32 (Int.tmod q 2)) 1 (gi q t))) T (0,0))->Fr [] w w'->w.heap.size<=b->K ⟨pW b,512,512⟩ w'): cW 173 [.agg (eN q t).toArray] de w K:=by
 refine qoE<|oB (oE [] w) fun r1 w1 e1 f1 C=>?_;have c0:(eN q t).toArray[0]?=some (.int .u64 q):=rfl;have I:=fun n (h:n<27)=>A2 (q:=q) (t:=t) n oJ;refine oA C.drew 0 rfl q c0<|oA C.drew 0 rfl q c0<|vd (s:=dC) (l:=[]) (B:=[]) C.drew (.nil _ _ _) (fun b E=>by cases E) oL fun s5 B5 w6 C b5 R=>ia (C.cell (off:=0) 0 rfl c0)<|vd C b5 R (by simp[jQ]) fun s8 B8 w9 C b8 n8=>oA C.drew 0 rfl (t.getD 0 0) (I 0 oM)<|oA C.drew 0 rfl (t.getD 1 0) (I 1 oM)<|oA C.drew 0 rfl (t.getD 2 0) (I 2 oM)<|vd C.drew (qqM b8) n8 (by simp[jQ]) fun aC aD aE C ad ae=>jX (C.cell (off:=3) 0 rfl (I 2 oM)) (C.cell (off:=2) 0 rfl (I 1 oM))<|vd C ad ae (by simp[jQ]) fun aF aG aH C af ag=>ia (C.cell (off:=3) 0 rfl (I 2 oM))<|vd C af ag (by simp[jQ]) fun aI ah aJ C U ai=>?_;have hr:((eN q t).toArray.toList.drop 4).take 24=(t.drop 3).map (Value.int .u32):=by show (List.drop 3 (t.map (Value.int .u32))).take 24=_;rw[xP,zS (by rw[yB,zK,J];decide)]
 refine qA (C.at (i:=0) rfl) ((t.drop 3).map (Value.int .u32)) (by rw[zK,yB,J]) hr ?_;have aj:(t.drop 3).length=24:=(by rw[yB,J]);have ak:t=[t.getD 0 0,t.getD 1 0,t.getD 2 0]++t.drop 3:=by
  have:=FH (l:=t) (j:=0) oJ
  rw[xE] at this;exact this
 have base:[]++be (wrap .u32 (Int.fdiv q (2^32))) 4++be (wrap .u32 q) 4++be (t.getD 0 0) 4++be (t.getD 1 0) 4++be (t.getD 2 0) 4=be (wrap .u32 (Int.fdiv q (2^32))) 4++be (wrap .u32 q) 4++[t.getD 0 0,t.getD 1 0,t.getD 2 0].flatMap (be · 4):=oL;rw[base] at U;refine iV (fun x w'=>∃(i:Nat) (B:List Nat),x.2=i/\i<=8/\fO w' x.1 (be (wrap .u32 (Int.fdiv q (2^32))) 4++be (wrap .u32 q) 4++[t.getD 0 0,t.getD 1 0,t.getD 2 0].flatMap (be · 4)++((t.drop 3).take (3*i)).flatMap (be · 4)) B/\dM [] w w' [(r1,.cells (eN q t).toArray 185 (0,0))]/\mV w [(r1,.cells (eN q t).toArray 185 (0,0))] B) (fun x _=>(8-x.2).toNat)
  ⟨0,ah,rfl,oJ,by simpa using U,C,ai⟩ ?_
 rintro⟨s,ii⟩ w2 ⟨i,B,V,aL,G,C,nb⟩ X hX;simp only at V G;subst V;dsimp only;have ao:(be (wrap .u32 (Int.fdiv q (2^32))) 4++be (wrap .u32 q) 4++[t.getD 0 0,t.getD 1 0,t.getD 2 0].flatMap (be · 4)++((t.drop 3).take (3*i)).flatMap (be · 4)).length<=200:=by rw[zF,zF,zF,jQ,jQ,Ab,Ab,yK,aj];show 4+4+3*4+_<=200;omega
 apply cD<;>intro hc;have hi:i<8:=oJ;refine pc ⟨oJ,oJ⟩ ?_;have h3:3*i+3<=(t.drop 3).length:=oJ;refine qyC ((t.drop 3).getD (3*i) 0,(t.drop 3).getD (3*i+1) 0,(t.drop 3).getD (3*i+2) 0) ?_ ?_
 have:=qAb h3
 rw[show Int.toNat (i:Int)*3=3*i by simp;omega];exact this;refine oB C fun r2 w3 e3 f3 u=>oD u 0 rfl _ fun w4 u f4=>?_;have am:=G.lt;have aa:r2∉B:=fun E=>by have:=am _ E;omega
 have G:=(G.q7 f3).q8 f4 (fun b E hm=>by simp only[zE] at hm;subst hm;exact aa E);refine oA u.drew 0 rfl ((t.drop 3).getD (3*i) 0) rfl<|oA u.drew 0 rfl ((t.drop 3).getD (3*i+1) 0) rfl<|oA u.drew 0 rfl ((t.drop 3).getD (3*i+2) 0) rfl<|vd u.drew (qqM G) (nb.cons aa) oJ fun s5 B5 w5 u b5 R=>jX (u.cell (off:=2) 0 rfl rfl) (u.cell (off:=1) 0 rfl rfl)<|vd u b5 R (by rw[zF,jQ];omega) fun s6 B6 w6 u b6 n6=>ia (u.cell (off:=2) 0 rfl rfl)<|vd u b6 n6 (by rw[zF,zF,jQ,jQ];omega) fun s7 B7 w7 u b7 n7=>?_;rw[gc _ oJ];refine hX _ _ ⟨i+1,B7,oL,oJ,?_,u.sub (sublist_cons_self _ _),n7.tail⟩ oN;rw[show 3*(i+1)=3*i+3 by omega,qg h3,yP];have e:([(t.drop 3).getD (3*i) 0,(t.drop 3).getD (3*i+1) 0,(t.drop 3).getD (3*i+2) 0]:List Int).flatMap (be · 4)=be ((t.drop 3).getD (3*i) 0) 4++be ((t.drop 3).getD (3*i+1) 0) 4++be ((t.drop 3).getD (3*i+2) 0) 4:=oL;rw[e];simpa only[zV] using b7;obtain rfl:i=8:=by omega
 rw[zS oJ,zV,<- yP,<- ak] at G;refine oA C 0 rfl q c0 ?_;have E:=G.jq (S:=[]) k8 oL;refine Dz E (hv.q7 C.fr) (by show (gi q t).length<=_;rw[xz J];decide) (fun h=>?_) fun _ b T w5 h5 f5 R=>?_;have h':500<(gi q t).length:=h;rw[xz J] at h';exact absurd h' oM;exact hk b T w5 h5 (C.fr.j8 f5 oL) (zL C.fr.size R)
def uH(J:dM [] w0 w L)(i:Nat)(hi:L[i]?=some (r,.cells #[s.v] 101 (0,0)))(h:eE [] w0 s l)(R:4<=l.length)(U:∀E w',eE [] w0 E (l.drop 4)->dM [] w0 w' (L.set i (r,.cells #[E.v] 101 (0,0)))->K (fg l) w'): dV prog (.func (.func 259) #[] #[dB r]) [] dm w K:=by refine sA (lb:=[dB r]) rfl oK<|qlb ?_;have C:=J.drew;have G:eE [] w.drew s l:=h.q7 C.fr;exact oA C i hi s rfl<|eE.at G 0 rfl (getD_some oJ)<|oA C i hi s rfl<|eE.at G 1 rfl (getD_some oJ)<|oA C i hi s rfl<|eE.at G 2 rfl (getD_some oJ)<|oA C i hi s rfl<|eE.at G 3 rfl (getD_some oJ)<|oA C i hi s rfl<|dW.drop h 4 rfl R oJ fun E V=>oH C i hi _ rfl rfl rfl fun w' I _=>U E w' V I
def ig (l:List Int):Int:=bits .or .u64 (wrap .u64 (wrap .u64 (fg l)*2^32)) (wrap .u64 (fg (l.drop 4)))
def lg (l:List Int):List Int:=(List.range 27).map fun i=>fg (l.drop (8+4*i))
def ss(l:List Int):(lg l).length=27:=by simp[lg]
def kM (q:Int) (f:Nat->Int) (n:Nat):Array Value:=(eN q ((List.range n).map f++zs (27-n))).toArray
def qnS{x y:Int}{A Z:List Int}:dN (eN q (A++x::Z)).toArray (A.length+1) [.u y]=(eN q (A++y::Z)).toArray:=by
 apply Array.ext'
 have:=DG (.int .u64 q::A.map (Value.int .u32)) [Value.int .u32 x] [Value.int .u32 y] (Z.map (Value.int .u32)) rfl
 rw[px _ _ _ (by simp[eN])];simpa[eN] using this
def wP{f:Nat->Int}{n:Nat}(h:n<27):dN (kM q f n) (n+1) [.u (f n)]=kM q f (n+1):=by
 have C:zs (27-n)=0::zs (27-(n+1)):=by rw[show 27-n=(27-(n+1))+1 by omega];rfl
 have:=qnS (q:=q) (x:=0) (y:=f n) (A:=(List.range n).map f) (Z:=zs (27-(n+1)))
 rw[zK,length_range] at this;rw[kM,C,this,kM,range_succ,xM,zV];rfl
def qwL{h:Int}{f:Nat->Int}{n:Nat}:dN (kM q f n) 0 [.int .u64 h]=kM h f n:=by apply Array.ext';rw[px _ _ _ (by simp[kM,eN])];simp[kM,eN]
def wF{f:Nat->Int}{n:Nat}(h:n<=27):(kM q f n).size=28:=by simp[kM,eN,oT];omega
def qwK{f:Nat->Int}:kM q f 27=(eN q ((List.range 27).map f)).toArray:=by show (eN q ((List.range 27).map f++[])).toArray=_;rw[xG]
def qvo{K:List Value->WP}(h:eE S w s l)(hl:l.length=116)(hk:∀w',Fr [] w w'->K (eN (ig l) (lg l)) w'): cW 241 [s.v] [.kN] w K:=by
 refine qoF ?_;have h0:eE [] w s l:=h.j6 oL;have R:((prog.info? 185).bind (·.zero)).map (fun z=>z.cells.toList)=some (eN 0 (zs 27)):=oK;refine oB (oE [] w) fun r1 w1 e1 f1 u=>oI u R fun r3 w2 e3 u=>oI u R fun E w3 e5 u=>uH u 2 rfl h0 oJ fun s1 w4 h1 u=>?_;have G:∀(q:Int),(eN q (zs 27)).toArray=kM q (fun i=>fg (l.drop (8+4*i))) 0:=fun q=>rfl;refine oG u 0 rfl (kM (wrap .u64 (wrap .u64 (fg l)*2^32)) (fun i=>fg (l.drop (8+4*i))) 0) ?_ rfl ?_ fun w5 u _=>?_;rw[G 0];exact qwL;exact zO rfl;refine oA u.drew 0 rfl (wrap .u64 (wrap .u64 (fg l)*2^32)) rfl<|uH u.drew 2 rfl h1 (by rw[yB];omega) fun s2 w6 U u=>ia (u.cell (off:=0) 0 rfl rfl)<|oG u 0 rfl (kM (ig l) (fun i=>fg (l.drop (8+4*i))) 0) qwL rfl (zO rfl) fun w7 u _=>?_;rw[xC] at U;refine uH u 2 rfl U (by rw[yB];omega) fun s3 w8 V u=>oG u 0 rfl (kM (ig l) (fun i=>fg (l.drop (8+4*i))) 1) (wP oM) rfl (by show 1+1<=_;rw[wF oM];decide) fun w9 u _=>?_;rw[xC] at V;refine uH u 2 rfl V (by rw[yB];omega) fun s4 ak h4 u=>oG u 0 rfl (kM (ig l) (fun i=>fg (l.drop (8+4*i))) 2) (wP oM) rfl (by show 2+1<=_;rw[wF oM];decide) fun al u _=>?_;rw[xC] at h4;refine uH u 2 rfl h4 (by rw[yB];omega) fun s5 an h5 u=>oG u 0 rfl (kM (ig l) (fun i=>fg (l.drop (8+4*i))) 3) (wP oM) rfl (by show 3+1<=_;rw[wF oM];decide) fun ao u _=>?_;rw[xC] at h5;refine iV (fun x w'=>∃(i:Nat) (I:Sl),x=i/\i<=8/\eE [] w I (l.drop (20+12*i))/\
   dM [] w w' [(E,.cells (kM (ig l) (fun i=>fg (l.drop (8+4*i))) (3+3*i)) 185 (0,0)),(r3,.cells (eN 0 (zs 27)).toArray 185 (0,0)),(r1,.cells #[I.v] 101 (0,0))]) (fun x _=>(8-x).toNat)
  ⟨0,s5,rfl,oJ,h5,u⟩ ?_
 rintro x ap ⟨i,I,rfl,aq,hx,u⟩ X hX;apply cD<;>intro J;have hi:i<8:=oJ;refine pc ⟨oJ,oJ⟩ ?_;simp only[Addr.q9];have av:Int.toNat (i:Int)=i:=oJ;refine uH u 2 rfl hx (by rw[yB];omega) fun s6 C h6 u=>?_;show Pt.st ⟨E,4+Int.toNat (i:Int)*3+0,none⟩ _ _ _;refine oG u 0 rfl (kM (ig l) (fun i=>fg (l.drop (8+4*i))) (3+3*i+1)) ?_ rfl ?_ fun aw u _=>?_;rw[show 20+12*i=8+4*(3+3*i) by omega,show 4+Int.toNat (i:Int)*3+0=(3+3*i)+1 by omega];exact wP (f:=fun i=>fg (l.drop (8+4*i))) oJ;rw[wF oJ];show _+1<=28;omega;rw[xC] at h6;refine uH u 2 rfl h6 (by rw[yB];omega) fun s7 ax h7 u=>?_;show Pt.st ⟨E,0+4+Int.toNat (i:Int)*3+1,none⟩ _ _ _;refine oG u 0 rfl (kM (ig l) (fun i=>fg (l.drop (8+4*i))) (3+3*i+2)) ?_ rfl ?_ fun ay u _=>?_;rw[show 20+12*i+4=8+4*(3+3*i+1) by omega];show dN _ (0+4+Int.toNat (i:Int)*3+1) _=_;rw[show 0+4+Int.toNat (i:Int)*3+1=(3+3*i+1)+1 by omega];exact wP (f:=fun i=>fg (l.drop (8+4*i))) oJ;rw[wF oJ];show 0+4+Int.toNat (i:Int)*3+1+1<=28;omega;rw[xC] at h7;refine uH u 2 rfl h7 (by rw[yB];omega) fun s8 aA h8 u=>?_;show Pt.st ⟨E,0+4+Int.toNat (i:Int)*3+2,none⟩ _ _ _;refine oG u 0 rfl (kM (ig l) (fun i=>fg (l.drop (8+4*i))) (3+3*i+3)) ?_ rfl ?_ fun aB u _=>?_;rw[show 20+12*i+4+4=8+4*(3+3*i+2) by omega];show dN _ (0+4+Int.toNat (i:Int)*3+2) _=_;rw[show 0+4+Int.toNat (i:Int)*3+2=(3+3*i+2)+1 by omega];exact wP (f:=fun i=>fg (l.drop (8+4*i))) oJ;rw[wF oJ];show 0+4+Int.toNat (i:Int)*3+2+1<=28;omega;rw[xC] at h8;rw[gc _ oJ];refine hX _ _ ⟨i+1,s8,oL,oJ,?_,?_⟩ oJ;rw[show 20+12*(i+1)=20+12*i+4+4+4 by omega];exact h8;rw[show 3+3*(i+1)=3+3*i+3 by omega];exact u;obtain rfl:i=8:=by omega
 rw[show 3+3*8=27 from rfl,qwK] at u;refine qA (u.at (i:=0) rfl) (eN (ig l) (lg l)) (pw (ss l)) (by rw[xE];exact zS (Nat.le_of_eq (pw (ss l))))<|pc (pw (ss l))<|oG u 1 rfl (eN (ig l) (lg l)).toArray ?_ (CP _ _) ?_ fun C u _=>?_;apply Array.ext';rw[px _ _ _ (by rw[pw (ss l)];decide),pw (ss l),take_zero,xH,drop_of_length_le oM,xG];rw[pw (ss l)];decide;exact qA (u.at (i:=1) rfl) (eN (ig l) (lg l)) (pw (ss l)) (by rw[xE];exact zS (Nat.le_of_eq (pw (ss l))))<|hk C u.fr
def sL:((prog.info? 185).bind (·.zero)).map (fun z=>z.cells.toList)=some (eN 0 (zs 27)):=by kernel_rfl
def quZ{P:Program}{t:TypeId}{z:Value}{offs:Array (Nat×Nat)}(u:(P.info? t).bind (·.zero)=some z)(C:P.underlying t=some (.struct (fieldsOf P t)))(h:∀w,((fieldsOf P t).mapM fun f=>do pure (f.offset,<- sizeOf f.type):Sem (Array (Nat×Nat))).run P w=.ok offs w)(w:World): (Instr.build t #[]).run P w=.ok (.agg z.cells) w:=by simp only[Instr.build,Sem.run_bind,ui u,Result.andThen_ok,run_underlying C,h,Instr.fill,Sem.run_pure]
def yg{K:List Value->Prop}(k:K (eN 0 (zs 27))):fc [gO.kN] (fun w'=>(Instr.build 185 #[]).run prog w') w K:=by
 obtain⟨z,u,h⟩:=yS.1 sL;refine qJ (ts:=[gO.kN]) (eN 0 (zs 27)) ?_ k
 have:=quZ (P:=prog) (t:=185) (offs:=#[(0,1),(1,1),(2,1),(3,1),(4,24)]) u oK (fun w=>oK) w
 rw[this];show Result.ok (Value.agg z.cells) w=.ok (Value.agg (eN 0 (zs 27)).toArray) w;rw[<- h]
def oc{vs:List Value}(h:vs.length=cs.size):dN cs 0 vs=vs.toArray:=by apply Array.ext';rw[px _ _ _ oJ,take_zero,xH,drop_of_length_le (by rw[Array.length_toList];omega),xG]
def CA(h:t.length=27):(eN q t).toArray.size=28:=by rw[size_toArray];exact pw h
def uh{u:Nat×Nat}{K:List Value->Prop}(C:w.heap[r]?=some (.cells (eN q t).toArray T u))(h:t.length=27)(k:K (eN q t)):iH 28 (dd r) w K:=
 qA C (eN q t) (pw h) (by rw[xE,zS (Nat.le_of_eq (pw h))]) k
def yk{G:Int}{C:List Int}{K:WP}(I:dM [] w0 w L)(i:Nat)(hi:L[i]?=some (r,.cells (eN G C).toArray T (0,0)))(E:C.length=27)(h:t.length=27)(J:∀w',dM [] w0 w' (L.set i (r,.cells (eN q t).toArray T (0,0)))->K w'):gT ((eN q t).length=28) (st (dd r) (eN q t) w K):=by refine pc (pw h)<|oG I i hi (eN q t).toArray (oc (by rw[CA E,pw h])) (CP _ _) (by rw[CA E,pw h];decide) fun w' u _=>J w' u
def tu{I:Int}{E:List Int}{K:List Value->WP}(J:dM [] w0 w L)(i:Nat)(hi:L[i]?=some (r,.cells (eN I E).toArray T (0,0)))(R:E.length=27)(G:t.length=27)(U:∀w',Fr [] w0 w'->K (eN q t) w'):gT ((eN q t).length=28) (st (dd r) (eN q t) w fun w'=>iH 28 (dd r) w' fun vs=>K vs w'):=by
 refine yk J i hi R G fun w' u=>?_;have C:i<L.length:=by rcases Nat.lt_or_ge i L.length with h|h;exact h;rw[yR h] at hi;cases hi
 exact uh (u.at (i:=i) (by rw[List.getElem?_set_self C])) G (U w' u.fr)
abbrev m7:=Int×List Int
def gq:m7:=(0,zs 27)
def eS (place:Int) (l:List Int):m7×Int:=
 if (eP place l).2.2≠0 then (gq,(eP place l).2.2)
 else if (eP place l).1≠1\/(eP place l).2.1.length≠116 then (gq,2)
 else if Int.tmod (ig (eP place l).2.1) 2≠place then (gq,2)
 else ((ig (eP place l).2.1,lg (eP place l).2.1),0)
def vt(place:Int)(l:List Int):(eS place l).1.2.length=27:=by unfold eS;split<;>(try rfl);split<;>(try rfl);split<;>rfl
def gI (a b:List Int):m7×Int:=
 if (eS 0 a).2≠0/\(eS 1 b).2≠0 then (gq,5)
 else if (eS 0 a).2≠0\/((eS 1 b).2=0/\(eS 1 b).1.1>(eS 0 a).1.1) then ((eS 1 b).1,0)
 else ((eS 0 a).1,0)
def qlC(a b:List Int):(gI a b).1.2.length=27:=by unfold gI;split<;>(try rfl);split<;>exact vt _ _
def qqD{place:Int}{K:List Value×Int->WP}(h:eE S w s l)(hv:Hv w)(hB:eB l)(hl:l.length<=100000)(U:place=0\/place=1)(hk:∀w',Fr [] w w'->K (eN (eS place l).1.1 (eS place l).1.2,(eS place l).2) w'): cW 210 [.i place,s.v] dw w K:=by
 refine qqg<|oI (oE [] w) sL fun r1 w1 e1 u=>?_;have V:wrap .u32 place=place:=by rcases U with rfl|rfl<;>kernel_rfl
 have aa:wrap .u64 place=place:=by rcases U with rfl|rfl<;>kernel_rfl
 rw[V,aa];refine gQ (fun b w'=>b=false/\w'=w1) ?_ ?_;rcases U with rfl|rfl;exact cond_false rfl ⟨rfl,rfl⟩;exact cond_true rfl ⟨rfl,rfl⟩;rintro b w2 ⟨rfl,rfl⟩;refine cond_false rfl ?_;have E:∀ {e:Int} {w':World},eS place l=(gq,e)->Fr [] w w'->K (eN 0 (zs 27),e) w':=by
  intro e w' G hf
  have:=hk w' hf
  rw[G] at this;exact this
 refine Ek (h.q7 u.fr) (hv.q7 u.fr) hB hl fun s3 B3 w3 b3 f3 n3=>?_;have u:=u.q7 f3;apply dR<;>intro C;have G:(eP place l).2.2≠0:=(oP C);exact yg<|tu u 0 rfl rfl rfl fun w4 f4=>E (by rw[eS,if_pos G]) f4;have G:¬(eP place l).2.2≠0:=(oP C);refine gQ (fun b w'=>b=decide ((eP place l).1≠1\/(eP place l).2.1.length≠116)/\w'=w3) ?_ ?_;apply dR<;>intro C;have R:(eP place l).1≠1:=(oP C);exact⟨by simp[R],rfl⟩;have R:(eP place l).1=1:=(oP C);have ab:s3.len=(eP place l).2.1.length:=b3.len;refine⟨?_,rfl⟩;dsimp only;rw[ab];by_cases hx:(eP place l).2.1.length=116;rw[hx];simp[R];have:¬(((eP place l).2.1.length:Int)=116):=oJ;simp[R,hx,this];rintro b w4 ⟨rfl,rfl⟩;apply dR<;>intro C;exact yg<|tu u 0 rfl rfl rfl fun w5 f5=>E (by rw[eS,if_neg G,if_pos (zC C)]) f5;have I:=zB C;have J:(eP place l).2.1.length=116:=by rcases Nat.decEq (eP place l).2.1.length 116 with h|h;exact absurd (Or.inr h) I;exact h
 have ad:=b3.jq (S:=[]) k8 oL;refine qvo ad J fun w5 f5=>?_;have u:=u.q7 f5;refine oI u sL fun r6 w6 e6 u=>yk u 0 rfl rfl (ss _) fun w7 u=>oA u 0 rfl (ig (eP place l).2.1) rfl ?_;apply dR<;>intro C;have hq:Int.tmod (ig (eP place l).2.1) 2≠place:=(oP C);exact yg<|tu u 1 rfl rfl rfl fun w8 f8=>E (by rw[eS,if_neg G,if_neg I,if_pos hq]) f8;have hq:¬Int.tmod (ig (eP place l).2.1) 2≠place:=(oP C);refine uh (u.at (i:=0) rfl) (ss _)<|tu u 1 rfl rfl (ss _) fun w8 f8=>?_
 have:=hk w8 f8
 rw[eS,if_neg G,if_neg I,if_neg hq] at this;exact this
def qt6{sa sb:Sl}{a b:List Int}{K:List Value×Int->WP}(ha:eE S w sa a)(hb:eE S w sb b)(hv:Hv w)(J:eB a)(R:eB b)(U:a.length<=100000)(V:b.length<=100000)(hk:∀w',Fr [] w w'->K (eN (gI a b).1.1 (gI a b).1.2,(gI a b).2) w'): cW 174 [sa.v,sb.v] dw w K:=by
 refine qnU<|oI (oE [] w) sL fun r1 w1 e1 h=>qqD (ha.q7 h.fr) (hv.q7 h.fr) J U (.inl rfl) fun w2 f2=>?_;have h:=h.q7 f2;refine oI h sL fun r3 w3 e3 h=>yk h 0 rfl rfl (vt _ _) fun w4 h=>qqD (hb.q7 h.fr) (hv.q7 h.fr) R V (.inr rfl) fun w5 f5=>?_;have h:=h.q7 f5;refine oI h sL fun r6 w6 e6 h=>yk h 0 rfl rfl (vt _ _) fun w7 h=>gQ (fun c w'=>c=decide ((eS 0 a).2≠0/\(eS 1 b).2≠0)/\w'=w7) ?_ ?_;apply dR<;>intro u;have C:(eS 0 a).2≠0:=(oP u);refine⟨?_,rfl⟩;by_cases I:(eS 1 b).2=0<;>simp[C,I];have C:(eS 0 a).2=0:=(oP u);exact⟨by simp[C],rfl⟩;rintro c w8 ⟨rfl,rfl⟩;apply dR<;>intro u;refine yg<|tu h 2 rfl rfl rfl fun w9 f9=>?_
 have:=hk w9 f9
 rw[gI,if_pos (zC u)] at this;exact this;have hn:=zB u;refine gQ (fun c w'=>c=decide ((eS 0 a).2≠0\/((eS 1 b).2=0/\(eS 1 b).1.1>(eS 0 a).1.1))/\w'=w8) ?_ ?_;apply dR<;>intro u;have C:(eS 0 a).2≠0:=(oP u);exact⟨by simp[C],rfl⟩;have C:(eS 0 a).2=0:=(oP u);apply dR<;>intro u;have I:(eS 1 b).2=0:=(oP u);refine oA h 0 rfl (eS 1 b).1.1 rfl<|oA h 1 rfl (eS 0 a).1.1 rfl<|⟨?_,rfl⟩;by_cases h3:(eS 1 b).1.1>(eS 0 a).1.1<;>simp[C,I,h3];have I:(eS 1 b).2≠0:=(oP u);exact⟨by simp[C,I],rfl⟩;rintro c w9 ⟨rfl,rfl⟩;apply cD<;>intro u;refine uh (h.at (i:=0) rfl) (vt _ _)<|tu h 2 rfl rfl (vt _ _) fun E G=>?_
 have:=hk E G
 rw[gI,if_neg hn,if_pos (u)] at this;exact this;refine uh (h.at (i:=1) rfl) (vt _ _)<|tu h 2 rfl rfl (vt _ _) fun E G=>?_
 have:=hk E G
 rw[gI,if_neg hn,if_neg (u)] at this;exact this
abbrev re:TypeId:=191
abbrev AW:TypeId:=187
def look {β:Type} (n:Int):List (Int×β)->Option (Nat×β)
 | []=>none
 | p::r=>if n=p.1 then some (0,p.2) else (look n r).map fun q=>(q.1+1,q.2)
def gG {β:Type} (n:Int) (v:β) (l:List (Int×β)):List (Int×β):=match look n l with|some q=>l.set q.1 (n,v)|none=>l++[(n,v)]
def jf {β:Type} (n:Int) (l:List (Int×β)):List (Int×β):=match look n l with|some q=>l.eraseIdx q.1|none=>l
def u9{β γ:Type}(g:β->γ)(n:Int):∀l:List (Int×β),look n (l.map fun e=>(e.1,g e.2))=(look n l).map fun q=>(q.1,g q.2)
 | []=>rfl
 | p::r=>by simp only[xN,look];by_cases h:n=p.1;simp[h];rw[if_neg h,if_neg h,u9 g n r];cases look n r<;>rfl
def wh(n:Int):∀l:List (Int×Value),posOf n l=look n l
 | []=>rfl
 | p::r=>by simp only[posOf,look,wh n r]
def si{β:Type}{n:Int}:∀ {l:List (Int×β)} {q:Nat×β},look n l=some q->l[q.1]?=some (n,q.2)/\(n,q.2)∈l
 | p::r,q,h=>by simp only[look] at h;by_cases hp:n=p.1;rw[if_pos hp] at h;cases h;subst hp;exact⟨rfl,oL⟩;rw[if_neg hp] at h;obtain⟨x,u,rfl⟩:=yS.1 h;obtain⟨C,E⟩:=si u;exact⟨by simpa using C,zN _ E⟩
def tD{β:Type}{n:Int}:∀ {l:List (Int×β)},look n l=none↔n∉l.map (·.1)
 | []=>by simp[look]
 | p::r=>by simp only[look,xN,zG,not_or];by_cases hp:n=p.1;simp[hp];rw[if_neg hp,Option.map_eq_none_iff,tD (l:=r)];simp[hp]
def BY{β γ:Type}(g:β->γ)(n:Int)(v:β)(l:List (Int×β)):(gG n v l).map (fun e=>(e.1,g e.2))=gG n (g v) (l.map fun e=>(e.1,g e.2)):=by
 unfold gG;rw[u9];cases look n l with
 | none=>simp
 | some q=>simp[map_set]
def qqS{β γ:Type}(g:β->γ)(n:Int)(l:List (Int×β)):(jf n l).map (fun e=>(e.1,g e.2))=jf n (l.map fun e=>(e.1,g e.2)):=by
 unfold jf;rw[u9];cases look n l with
 | none=>rfl
 | some q=>simp only[Option.map_some];exact tU _ l q.1
def Cm{β:Type}{v:β}{l:List (Int×β)}{e:Int×β}(h:e∈gG n v l):e∈l\/e=(n,v):=by unfold gG at h;split at h;exact mem_or_eq_of_mem_set h;rcases zD.1 h with h|h;exact .inl h;exact .inr (oP h)
def qrp{β:Type}{l:List (Int×β)}{e:Int×β}(h:e∈jf n l):e∈l:=by unfold jf at h;split at h;exact mem_of_mem_eraseIdx h;exact h
def ER{t et:TypeId}{v:Value}(ht:prog.underlying t=some (.map 63 et)){b:Nat}(h:iR jd w b f)(x:Int): ∃o,(Instr.mapUpdate t (.map (some b)) (jd x) v).run prog w=.ok () (gL w b o)/\iR jd (gL w b o) b (gG x v f):=by
 have K:=tQ;cases I:posOf x f with
 | none=>
  obtain⟨o,J,h2⟩:=iR.new ht K h x (v:=v) I;refine⟨o,J,?_⟩;rw[wh] at I;rw[gG,I];exact h2
 | some q=>
  obtain⟨C,c,U,he,hs,hc⟩:=h;have V:=I;rw[wh] at V;obtain⟨J,_⟩:=si V;have G:=he;simp only[mg] at G;have hi:C[q.1]?.map (·.key)=some (jd x):=by
   have:=congrArg (·[q.1]?) G
   simp only[zQ,J,Option.map_some] at this;rw[<- xK];cases E:C.toList[q.1]? with
   | none=>rw[E] at this;cases this
   | some e=>rw[E] at this;simp at this;simp[this.1]
  refine⟨.map (C.modify q.1 fun e=>{ e with key:=jd x,val:=v }) c,?_,C.modify q.1 fun e=>{ e with key:=jd x,val:=v },c,?_,?_,?_,?_⟩;simp[Instr.mapUpdate,run_underlying ht,Go.MapKept.run_getObj_map U,K.check,sZ K he,I,hi,Instr.keyThatStays,Instr.sameBits,Go.MapKept.run_setObj_map _ U];rfl;rw[nW _ _ _ _ (eT U),if_pos rfl];rw[gG,V];show ((C.modify q.1 _).toList).map _=(f.set q.1 (x,v)).map _;rw[Array.toList_modify];apply ext_getElem?;intro j;have u:=congrArg (·[j]?) G;simp only[zQ] at u;rw[zQ,zQ,List.getElem?_modify,List.getElem?_set];by_cases hqj:q.1=j;subst hqj;have aa:=(zP.1 J).1;rw[J] at u;cases E:C.toList[q.1]? with
  | none=>rw[E] at u;cases u
  | some e=>simp[aa]
  simp only[hqj,if_false];rw[<- u];cases C.toList[j]?<;>rfl;have e:(C.modify q.1 fun e=>{ e with key:=jd x,val:=v }).toList.map (·.born)=C.toList.map (·.born):=by rw[Array.toList_modify];apply ext_getElem?;intro j;rw[zQ,zQ,List.getElem?_modify];by_cases hqj:q.1=j;subst hqj;cases C.toList[q.1]?<;>simp;simp[hqj]
  rw[e];exact hs;intro e R;rw[Array.toList_modify] at R;obtain⟨j,u⟩:=mem_iff_getElem?.1 R;rw[List.getElem?_modify] at u;by_cases hqj:q.1=j;subst hqj;cases E:C.toList[q.1]? with
  | none=>rw[E] at u;simp at u
  | some e0=>
   rw[E] at u;simp at u;subst u;exact hc e0 (yE E)
  simp[hqj] at u;exact hc e (yE (by rw[xK];exact u))
section
structure dU where
 j9:m7
 Q5:List Int
 Q9:List Int
 x6:Int
 Q3:Bool
 Q1:List Int
 J7:List Int
 J8:List (Int×Int×List Int)
 Q2:List Int
abbrev kK:=Int×Sl×List Int
def kT (x:kK):Value:=.agg #[.b x.1,x.2.1.v]
def mD (sl sn:Sl) (x6:Int) (Q3:Bool) (fb defb mb:Nat):List Value:=
 [sl.v,sn.v,.i x6,.bool Q3,dB fb,dB defb,.map (some mb)]
def fH (db:Option Addr) (j9:m7) (sl sn:Sl) (x6:Int) (Q3:Bool) (fb defb mb:Nat) (Q2:List Int):Array Value:=
 ((.pointer db::eN j9.1 j9.2)++mD sl sn x6 Q3 fb defb mb++Q2.map (Value.int .u32)).toArray
section
variable {db:Option Addr} {j9:m7} {sl sn:Sl} {x6:Int} {Q3:Bool} {fb defb mb:Nat} {Q2:List Int}
def rH(h:j9.2.length=27):(Value.pointer db::eN j9.1 j9.2).length=29:=by rw[yH,pw h]
def qtB(h:j9.2.length=27):(fH db j9 sl sn x6 Q3 fb defb mb Q2).size=36+Q2.length:=by rw[fH,size_toArray,zF,zF,rH h,zK];rfl
def Cr:(fH db j9 sl sn x6 Q3 fb defb mb Q2)[0]?=some (.pointer db):=rfl
def qwl:(fH db j9 sl sn x6 Q3 fb defb mb Q2)[1]?=some (.int .u64 j9.1):=rfl
def EB(C:j9.2.length=27)(n:Nat)(h:n<27):(fH db j9 sl sn x6 Q3 fb defb mb Q2)[n+2]?=some (.u (j9.2.getD n 0)):=by
 rw[fH,List.getElem?_toArray,zV,yY (by rw[rH C];omega),List.getElem?_cons_succ]
 have:=A2 (q:=j9.1) (t:=j9.2) n oJ
 rw[List.getElem?_toArray] at this;exact this
def yv(u:j9.2.length=27)(j:Nat)(h:j<7):(fH db j9 sl sn x6 Q3 fb defb mb Q2)[29+j]?=(mD sl sn x6 Q3 fb defb mb)[j]?:=by rw[fH,List.getElem?_toArray,zV,yX (by rw[rH u];omega),rH u,vC,yY (by exact h)]
def Dl(h:j9.2.length=27):(fH db j9 sl sn x6 Q3 fb defb mb Q2)[29]?=some sl.v:=yv h 0 oM
def qxK(h:j9.2.length=27):(fH db j9 sl sn x6 Q3 fb defb mb Q2)[30]?=some sn.v:=yv h 1 oM
def xd(h:j9.2.length=27):(fH db j9 sl sn x6 Q3 fb defb mb Q2)[32]?=some (.bool Q3):=yv h 3 oM
def wX(h:j9.2.length=27):(fH db j9 sl sn x6 Q3 fb defb mb Q2)[33]?=some (dB fb):=yv h 4 oM
def Bs(h:j9.2.length=27):(fH db j9 sl sn x6 Q3 fb defb mb Q2)[34]?=some (dB defb):=yv h 5 oM
def rK(h:j9.2.length=27):(fH db j9 sl sn x6 Q3 fb defb mb Q2)[35]?=some (.map (some mb)):=yv h 6 oM
end
structure Rows (F:List Nat) (w:World) (sl sn:Sl) (Q5 Q9:List Int) (fs:List (Int×kK)):Prop where
 Q5:Rd F w sl Q5
 Q9:Rd F w sn Q9
 y7:∀ e∈fs,eE F w e.2.2.1 e.2.2.2
def Rows.q8{F F':List Nat}{w w':World}{sl sn:Sl}{Q5 Q9:List Int}{C:List (Int×kK)}(h:Rows F w sl sn Q5 Q9 C)(f:Fr F w w')(u:∀b∈F',b∈F\/w.heap.size<=b):Rows F' w' sl sn Q5 Q9 C:=
 ⟨h.Q5.q8 f u,h.Q9.q8 f u,fun e E=>(h.y7 e E).q8 f u⟩
structure nh (w:World) (X:List Nat) (pb:Nat) (db:Option Addr) (M:dU) (fb defb mb:Nat) (sl sn:Sl) (F1 F2:List Nat) (fs:List (Int×kK)):Prop where
 cell:w.heap[pb]?=some (.cells (fH db M.j9 sl sn M.x6 M.Q3 fb defb mb M.Q2) re (0,0))
 Q1:gE w fb F1 M.Q1
 J7:gE w defb F2 M.J7
 map:iR jd w mb (fs.map fun e=>(e.1,kT e.2))
 J8:M.J8=fs.map fun e=>(e.1,e.2.1,e.2.2.2)
 rows:Rows (X++pb::mb::(F1++F2)) w sl sn M.Q5 M.Q9 fs
 nQ:∀ b∈X,b<w.heap.size
 l9:∀ b∈X,b∉pb::mb::(F1++F2)
 sep:pb≠mb/\(∀ b∈F1,b≠pb/\b≠mb/\b∉F2)/\(∀ b∈F2,b≠pb/\b≠mb)
 Q8:M.j9.2.length=27
 x7:M.Q2.length=24
def en (w:World) (X:List Nat) (pb:Nat) (db:Option Addr) (F:List Nat) (M:dU):Prop:=
 ∃fb defb mb sl sn h F2 u,F=pb::mb::(h++F2)/\nh w X pb db M fb defb mb sl sn h F2 u
def nh.cV{M:dU}{u:List (Int×kK)}(h:nh w X pb db M fb defb mb sl sn F1 F2 u):mb<w.heap.size:=by exact h.map.lt
def nh.lt{w:World}{X:List Nat}{pb:Nat}{db:Option Addr}{M:dU}{fb defb mb:Nat}{sl sn:Sl}{F1 F2:List Nat}{C:List (Int×kK)}(h:nh w X pb db M fb defb mb sl sn F1 F2 C):∀b∈pb::mb::(F1++F2),b<w.heap.size:=by intro b u;rcases zG.1 u with rfl|u;exact eT h.cell;rcases zG.1 u with rfl|u;exact h.cV;rcases zD.1 u with u|u;exact h.Q1.lt b u;exact h.J7.lt b u
def en.lt{w:World}{X:List Nat}{pb:Nat}{db:Option Addr}{F:List Nat}{M:dU}(h:en w X pb db F M):∀b∈F,b<w.heap.size:=by obtain⟨fb,defb,mb,sl,sn,C,F2,E,rfl,u⟩:=h;exact u.lt
def nh.q8{w w':World}{S X:List Nat}{pb:Nat}{db:Option Addr}{M:dU}{fb defb mb:Nat}{sl sn:Sl}{F1 F2:List Nat}{E:List (Int×kK)}(h:nh w X pb db M fb defb mb sl sn F1 F2 E)(f:Fr S w w')(C:∀b∈pb::mb::(F1++F2),b∉S)(G:Rows (X++pb::mb::(F1++F2)) w' sl sn M.Q5 M.Q9 E):nh w' X pb db M fb defb mb sl sn F1 F2 E where
 cell:=by rw[f.block pb (eT h.cell) (C pb oL)];exact h.cell
 Q1:=h.Q1.q8 f fun b u=>C b (by simp[u])
 J7:=h.J7.q8 f fun b u=>C b (by simp[u])
 map:=h.map.q8 f (C mb oL)
 J8:=h.J8
 rows:=G
 nQ:=fun b u=>yC (h.nQ b u) f.size
 l9:=h.l9
 sep:=h.sep
 Q8:=h.Q8
 x7:=h.x7
def nh.q7{M:dU}{C:List (Int×kK)}(h:nh w X pb db M fb defb mb sl sn F1 F2 C)(f:Fr [] w w'):nh w' X pb db M fb defb mb sl sn F1 F2 C:=
 h.q8 f oL (h.rows.q8 (f.mono (fun b u=>by cases u)) (fun b u=>.inl u))
def en.q7{w w':World}{X:List Nat}{pb:Nat}{db:Option Addr}{F:List Nat}{M:dU}(h:en w X pb db F M)(f:Fr [] w w'):en w' X pb db F M:=by obtain⟨fb,defb,mb,sl,sn,u,F2,C,rfl,E⟩:=h;exact⟨fb,defb,mb,sl,sn,u,F2,C,rfl,E.q7 f⟩
def CE{u:List Nat}(n1:∀b∈u,b∈F1\/w.heap.size<=b):∀b∈pb::mb::(u++F2),b∈pb::mb::(F1++F2)\/w.heap.size<=b:=fun b h=>by simp only[zG,zD] at h⊢;rcases h with h|h|h|h;exact .inl (.inl h);exact .inl (.inr (.inl h));rcases n1 b h with C|C;exact .inl (.inr (.inr (.inl C)));exact .inr C;exact .inl (.inr (.inr (.inr h)))
def Dc{u:List Nat}(n1:∀b∈u,b∈F2\/w.heap.size<=b):∀b∈pb::mb::(F1++u),b∈pb::mb::(F1++F2)\/w.heap.size<=b:=fun b h=>by simp only[zG,zD] at h⊢;rcases h with h|h|h|h;exact .inl (.inl h);exact .inl (.inr (.inl h));exact .inl (.inr (.inr (.inl h)));rcases n1 b h with C|C;exact .inl (.inr (.inr (.inr C)));exact .inr C
def wR{F':List Nat}(n:∀b∈F',b∈F\/w.heap.size<=b):∀b∈X++F',b∈X++F\/w.heap.size<=b:=fun b u=>by rcases zD.1 u with h|h;exact .inl (zH _ h);rcases n b h with h|h;exact .inl (zI _ h);exact .inr h
def ES{F':List Nat}(C:∀b∈X,b<w.heap.size)(E:∀b∈X,b∉F)(n:∀b∈F',b∈F\/w.heap.size<=b):∀b∈X,b∉F':=fun b u h=>by
 rcases n b h with h|h;exact E b u h
 have:=C b u;omega
def nh.pC{M:dU}{C:List Nat}{I:List (Int×kK)}(h:nh w X pb db M fb defb mb sl sn F1 F2 I)(f:Fr F1 w w')(R:gE w' fb C l)(E:∀b∈C,b∈F1\/w.heap.size<=b): nh w' X pb db { M with Q1:=l } fb defb mb sl sn C F2 I where
 cell:=by rw[f.block pb (eT h.cell) (fun u=>(h.sep.2.1 pb u).1 rfl)];exact h.cell
 Q1:=R
 J7:=h.J7.q8 f fun b u G=>(h.sep.2.1 b G).2.2 u
 map:=h.map.q8 f (fun u=>(h.sep.2.1 mb u).2.1 rfl)
 J8:=h.J8
 rows:=h.rows.q8 (f.mono fun b u _=>by simp[u]) (wR (CE E))
 nQ:=fun b u=>yC (h.nQ b u) f.size
 l9:=ES h.nQ h.l9 (CE E)
 sep:=⟨h.sep.1,fun b u=>by rcases E b u with J|J;exact h.sep.2.1 b J;have V:=eT h.cell;have l2:=h.cV;exact⟨oJ,oJ,fun U=>by have:=h.J7.lt b U;omega⟩,h.sep.2.2⟩
 Q8:=h.Q8
 x7:=h.x7
def nh.vE{M:dU}{C:List Nat}{J:List (Int×kK)}(h:nh w X pb db M fb defb mb sl sn F1 F2 J)(f:Fr F2 w w')(R:gE w' defb C l)(G:∀b∈C,b∈F2\/w.heap.size<=b): nh w' X pb db { M with J7:=l } fb defb mb sl sn F1 C J where
 cell:=by rw[f.block pb (eT h.cell) (fun u=>(h.sep.2.2 pb u).1 rfl)];exact h.cell
 Q1:=h.Q1.q8 f fun b u I=>(h.sep.2.1 b u).2.2 I
 J7:=R
 map:=h.map.q8 f (fun u=>(h.sep.2.2 mb u).2 rfl)
 J8:=h.J8
 rows:=h.rows.q8 (f.mono fun b u _=>by simp[u]) (wR (Dc G))
 nQ:=fun b u=>yC (h.nQ b u) f.size
 l9:=ES h.nQ h.l9 (Dc G)
 sep:=⟨h.sep.1,fun b u=>⟨(h.sep.2.1 b u).1,(h.sep.2.1 b u).2.1,fun U=>by
  rcases G b U with E|E;exact (h.sep.2.1 b u).2.2 E
  have:=h.Q1.lt b u;omega⟩,fun b u=>by
  rcases G b u with E|E;exact h.sep.2.2 b E;have V:=eT h.cell;have l2:=h.cV;exact⟨oJ,oJ⟩⟩
 Q8:=h.Q8
 x7:=h.x7
def nh.qV{o:Obj}{M:dU}{I C:List (Int×kK)}(h:nh w X pb db M fb defb mb sl sn F1 F2 I)(R:iR jd (gL w mb o) mb (C.map fun e=>(e.1,kT e.2)))(u:∀e∈C,e∈I\/eE (X++pb::mb::(F1++F2)) w e.2.2.1 e.2.2.2): nh (gL w mb o) X pb db { M with J8:=C.map fun e=>(e.1,e.2.1,e.2.2.2) } fb defb mb sl sn F1 F2 C:=by
 have f:Fr [mb] w (gL w mb o):=vW h.cV o;have J:Fr (X++pb::mb::(F1++F2)) w (gL w mb o):=f.mono fun b u _=>by simp only[zE] at u;subst u;simp
 have E:=h.rows.q8 J (F':=X++pb::mb::(F1++F2)) (fun b u=>.inl u);exact {
  cell:=by rw[f.block pb (eT h.cell) (oP h.sep.1)];exact h.cell
  Q1:=h.Q1.q8 f fun b u=>by simpa using (h.sep.2.1 b u).2.1
  J7:=h.J7.q8 f fun b u=>by simpa using (h.sep.2.2 b u).2
  map:=R
  J8:=rfl
  rows:=⟨E.Q5,E.Q9,fun e U=>by rcases u e U with G|G;exact E.y7 e G;exact G.q8 J (fun b u=>.inl u)⟩
  nQ:=fun b u=>yC (h.nQ b u) f.size
  l9:=h.l9
  sep:=h.sep
  Q8:=h.Q8
  x7:=h.x7 }
def en.og{X':List Nat}{M:dU}(h:en w X pb db F M)(f:Fr X w w')(C:∀b∈X',b<w'.heap.size)(G:∀b∈X',b∈X\/w.heap.size<=b):en w' X' pb db F M:=by
 obtain⟨fb,defb,mb,sl,sn,I,F2,R,rfl,h⟩:=h;have U:∀b∈pb::mb::(I++F2),b∉X:=fun b u C=>h.l9 b C u;have E:=h.q8 (w':=w') f U (h.rows.q8 (f.mono fun b u _=>zH _ u) (fun b u=>.inl u));refine⟨fb,defb,mb,sl,sn,I,F2,R,rfl,{ E with rows:=h.rows.q8 (f.mono fun b u _=>zH _ u) (fun b u=>?_),nQ:=C,l9:=fun b u J=>?_ }⟩;rcases zD.1 u with u|u;rcases G b u with u|u;exact .inl (zH _ u);exact .inr u;exact .inl (zI _ u);rcases G b u with u|u;exact h.l9 b u J
 have:=h.lt b J;omega
def en.sep{M:dU}(h:en w X pb db F M):∀b∈X,b∉F:=by obtain⟨fb,defb,mb,sl,sn,u,F2,C,rfl,h⟩:=h;exact h.l9
end
section
def qwU(h:Rd S w s l)(U:l.length<=1000000)(I:∀x:Int,(decide (x>=0)=decide (n∈l))->K x w): cW 227 [s.v,.u n] df w K:=by refine qnQ ?_;have J:=h.1;refine iV (fun x w'=>w'=w/\∃i:Nat,x=i/\i<=l.length/\n∉l.take i) (fun x _=>((l.length:Int)-x).toNat) ⟨rfl,0,rfl,oJ,oL⟩ ?_;rintro x w' ⟨rfl,i,rfl,V,C⟩ X R;apply dR<;>intro E;have G:i<l.length:=(by have:=zC E;omega);refine Rd.at h i rfl (zA G) ?_;apply dR<;>intro E;have e:n=l[i]:=(oP E);refine I _ ?_;rw[zZ (show (i:Int)>=0 by omega),zZ (by rw[e];exact zW G)];have e:n≠l[i]:=(oP E);rw[gc _ oJ];refine R _ _ ⟨rfl,i+1,oL,oJ,?_⟩ oJ;rw[yF G];simp only[zD,zE,not_or];exact⟨C,e⟩;have:i=l.length:=(by have:=zB E;omega);subst this;rw[xY] at C;refine I _ ?_;rw[zU oM,zU C]
def qsc{K:Bool->WP}(h:Rd S w s l)(C:l.length<=1000000)(E:K (decide (n∈l)) w): cW 186 [s.v,.u n] dg w K:=by refine qkg<|qwU h C fun x G=>?_;rw[G];exact E
def qzG:∀w,(zeroValue 247).run prog w=.ok (.agg #[.b 0,.slice none 0 0]) w:=fun w=>by kernel_rfl
def wu:prog.underlying AW=some (.map 63 247):=by kernel_rfl
def Bg{C:List (Int×kK)}{K:((Int×Sl)×Bool)->Prop}(h:ko jd w mb (C.map fun e=>(e.1,kT e.2)))(G:∀q,look n C=some q->K ((q.2.1,q.2.2.1),true))(I:look n C=none->K ((0,dC),false)): fc [gO.agg [Cell.int .u8,Cell.slice],gO.one Cell.bool] (fun w'=>(Instr.lookup AW (.map (some mb)) (.u n) true).run prog w') w K:=by
 have:=qrR (P:=prog) wu qzG tQ h n
 rw[wh,u9] at this;cases E:look n C with
 | none=>
  rw[E] at this;exact qJ (ts:=[gO.agg [Cell.int .u8,Cell.slice],gO.one Cell.bool]) ((0,dC),false) this (I E)
 | some q=>
  rw[E] at this;exact qJ (ts:=[gO.agg [Cell.int .u8,Cell.slice],gO.one Cell.bool]) ((q.2.1,q.2.2.1),true) this (G q E)
section
variable {w:World} {X:List Nat} {pb:Nat} {db:Option Addr} {F:List Nat} {M:dU}
def qw0(h:en w X pb db F M)(C:K M.Q1.length w):cW 129 [dB pb] df w K:=by obtain⟨fb,defb,mb,sl,sn,E,F2,G,rfl,u⟩:=h;refine qjg<|fq (iG u.cell (pW fb) (wX u.Q8) ?_);exact qsT u.Q1 C
def fY (M:dU) (n:Int):Bool:=!(decide (n<2)||decide (n>=M.j9.2.getD 0 0)||decide (n∈M.Q5)||decide (n∈M.Q1)||decide (n∈M.J7))&&(look n M.J8).isNone
def qqz{K:Bool->WP}(h:en w X pb db F M)(hl:M.Q5.length<=1000000)(V:∀w',Fr [] w w'->K (fY M n) w'):cW 155 [dB pb,.u n] dg w K:=by
 obtain⟨fb,defb,mb,sl,sn,F1,F2,fs,rfl,C⟩:=h;refine qjk<|gQ (fun b w'=>b=(decide (n<2)||decide (n>=M.j9.2.getD 0 0)||decide (n∈M.Q5)||decide (n∈M.Q1)||decide (n∈M.J7))/\w'=w) ?_ ?_;refine dR (fun E=>⟨by rw[E];rfl,rfl⟩) fun E=>fq ?_;simp only[Addr.q9];refine iG C.cell (M.j9.2.getD 0 0) (EB C.Q8 0 oM)<|dR (fun G=>⟨by rw[E,G];rfl,by trivial⟩) fun G=>fq (iG C.cell sl (Dl C.Q8) ?_);refine qsc C.rows.Q5 hl<|dR (fun I=>⟨by rw[E,G,I];rfl,by trivial⟩) fun I=>fq (iG C.cell (pW fb) (wX C.Q8) ?_);refine Fs C.Q1<|dR (fun J=>⟨by rw[E,G,I,J];rfl,by trivial⟩) fun J=>fq<|iG C.cell (pW defb) (Bs C.Q8)<|Fs C.J7 ⟨by rw[E,G,I,J];rfl,by trivial⟩;rintro b w' ⟨rfl,rfl⟩;have U:(look n M.J8).isNone=(look n fs).isNone:=by rw[C.J8,u9 (fun x:kK=>(x.1,x.2.2))];cases look n fs<;>rfl
 apply dR<;>intro E
 have:=V w' (.refl _ _)
 rw[fY,E] at this;exact this;refine fq ?_;simp only[Addr.q9];refine iG C.cell (some mb) (rK C.Q8)<|Bg C.map.at (fun q hq=>?_) (fun hq=>?_);refine oB (oE [] w') fun r w1 e1 f1 R=>oH R 0 rfl _ rfl rfl rfl fun w2 R _=>?_
 have:=V w2 R.fr
 rw[fY,E,U,hq] at this;exact this;refine oB (oE [] w') fun r w1 e1 f1 R=>oH R 0 rfl _ rfl rfl rfl fun w2 R _=>?_
 have:=V w2 R.fr
 rw[fY,E,U,hq] at this;exact this
def fU (M:dU) (kind:Int) (body:List Int):(Int×Int)×dU:=
 if M.Q3 then ((0,7),M) else if body.length>500 then ((0,3),M) else
 match M.Q1 with
 | []=>((0,6),M)
 | n::r=>((n,0),{ M with Q1:=r,J8:=gG n (kind,body) M.J8 })
def qwY{kind:Int}{K:Int×Int->WP}(h:en w X pb db F M)(hb:eE (X++F) w s body)(hl:body.length<=100000)(hf:M.Q1.length<=1000000)(hk:∀F' w',en w' X pb db F' (fU M kind body).2->Fr F w w'->(∀b∈F',b∈F\/w.heap.size<=b)->K (fU M kind body).1 w'): cW 164 [dB pb,.b kind,s.v] dl w K:=by
 have h0:=h;obtain⟨fb,defb,mb,sl,sn,F1,F2,fs,rfl,hx⟩:=h;have hlen:=hb.1;refine qje (p:=pW pb) (body:=s) ?_;have same:∀ {e:Int},fU M kind body=((0,e),M)->K (0,e) w:=by
  intro e he
  have:=hk _ w (by rw[he];exact h0) (.refl _ _) (fun b hb=>.inl hb)
  rw[he] at this;exact this
 refine fq (iG (c:=.bool) hx.cell M.Q3 (xd hx.Q8) ?_);refine dR (fun hc=>same (by rw[fU,if_pos hc])) (fun hc=>?_);have ho:¬M.Q3=true:=(by rw[hc];decide);apply cD<;>intro hc
 have:=hc
 exact same (by rw[fU,if_neg ho,iP]);have hb5:¬body.length>500:=oJ;refine fq (iG (c:=.ptr) hx.cell (pW fb) (wX hx.Q8) ?_);refine qys hx.Q1 hf fun F1' w1 hp1 f1 n1=>?_;have hx1:=hx.pC f1 hp1 n1;have fF:Fr (pb::mb::(F1++F2)) w w1:=f1.mono fun b hb _=>by simp[hb]
 have nF:=CE (w:=w) (pb:=pb) (mb:=mb) (F2:=F2) n1;cases hfr:M.Q1 with
 | nil=>
  have hmv:fU M kind body=((0,6),M):=(by rw[fU,if_neg ho,if_neg hb5,hfr]);rw[hfr] at hp1 hx1;refine cond_true rfl ?_;have hM:{ M with Q1:=(sU []).2 }=M:=(by show { M with Q1:=[] }=M;rw[<- hfr]);rw[hM] at hx1
  have:=hk _ w1 (by rw[hmv];exact⟨fb,defb,mb,sl,sn,F1',F2,fs,rfl,hx1⟩) fF nF
  rw[hmv] at this;exact this
 | cons n r=>
  have hmv:fU M kind body=((n,0),{ M with Q1:=r,J8:=gG n (kind,body) M.J8 }):=(by rw[fU,if_neg ho,if_neg hb5,hfr]);rw[hfr] at hp1 hx1;refine cond_false rfl<|fq ?_;simp only[Addr.q9];have c1:w1.heap[pb]?=_:=hx1.cell;refine iG (w:=w1.drew) (c:=.map) c1 (some mb) (rK hx.Q8) ?_;have hb1:eE (X++pb::mb::(F1'++F2)) w1.drew s body:=hb.q8 (fF.drew.mono fun b hb _=>zI _ hb) (wR nF);refine wZ hb1 oJ fun s2 B2 w2 b2 f2 n2 _ _=>?_;have f12:Fr [] w1 w2:=((Fr.refl [] w1).drew).trans f2;have hx2:=hx1.q7 f12;refine ia (by show _=_;rw[je hx2.cell];exact rK hx.Q8) ?_;obtain⟨o,hr,hm⟩:=ER (v:=kT (kind,s2,body)) wu hx2.map n;refine Be _ hr ?_;have hm':iR jd (gL w2 mb o) mb ((gG n (kind,s2,body) fs).map fun e=>(e.1,kT e.2)):=(by rw[BY kT];exact hm);have hx3:=hx2.qV hm' fun e he=>by
   rcases Cm he with h1|h1;exact .inl h1;subst h1;refine .inr (b2.jq k8 fun b hb hb2=>?_);have l2:w1.heap.size<=b:=n2 b hb;rcases zD.1 hb2 with hb2|hb2
   have:=hx1.nQ b hb2;omega
   have:=hx1.lt b hb2;omega
  have hM:(gG n (kind,s2,body) fs).map (fun e=>(e.1,e.2.1,e.2.2.2))=gG n (kind,body) M.J8:=(by rw[hx.J8];exact BY (fun x:kK=>(x.1,x.2.2)) n (kind,s2,body) fs);rw[hM] at hx3;have f3:Fr (pb::mb::(F1++F2)) w (gL w2 mb o):=(fF.j8 f12 oL).j8 (vW hx2.cV o) fun b hb=>by simp only[zE] at hb;subst hb;exact .inl oL
  have:=hk _ (gL w2 mb o) (by rw[hmv];exact⟨fb,defb,mb,sl,sn,F1',F2,_,rfl,hx3⟩) f3 nF
  rw[hmv] at this;exact this
end
end
section
def nh.cJ{M:dU}{u:List (Int×kK)}(h:nh w X pb db M fb defb mb sl sn F1 F2 u)(n:Int):look n M.J8=(look n u).map fun q=>(q.1,q.2.1,q.2.2.2):=by rw[h.J8,u9 (fun x:kK=>(x.1,x.2.2))]
section
variable {w:World} {X:List Nat} {pb:Nat} {db:Option Addr} {F:List Nat} {M:dU}
def i6 (M:dU) (n kind:Int) (body:List Int):Int×dU:=
 if M.Q3 then (7,M) else match look n M.J8 with
 | none=>(10,M)
 | some _=>if body.length>500 then (3,M) else (0,{ M with J8:=gG n (kind,body) M.J8 })
def qyo{kind:Int}(h:en w X pb db F M)(E:eE (X++F) w s body)(hl:body.length<=100000)(hk:∀w',en w' X pb db F (i6 M n kind body).2->Fr F w w'->K (i6 M n kind body).1 w'): cW 163 [dB pb,.u n,.b kind,s.v] df w K:=by
 have h0:=h;obtain⟨fb,defb,mb,sl,sn,F1,F2,fs,rfl,G⟩:=h;have ap:=E.1;refine qj5 ?_;have I:∀ {e:Int} {w':World},i6 M n kind body=(e,M)->Fr [] w w'->K e w':=by
  intro e w' he hf
  have:=hk w' (by rw[he];exact h0.q7 hf) (hf.mono (fun b E=>by cases E))
  rw[he] at this;exact this
 have J:=G.cJ n;refine fq (iG G.cell M.Q3 (xd G.Q8) ?_);refine dR (fun V=>I (by rw[i6,if_pos V]) (.refl _ _)) (fun V=>?_);have ho:¬M.Q3=true:=(by rw[V];decide);refine fq ?_;simp only[Addr.q9];refine iG G.cell (some mb) (rK G.Q8)<|Bg G.map.at (fun q hq=>?_) (fun hq=>?_);rw[hq] at J;refine oB (oE [] w) fun r w1 e1 f1 C=>oH C 0 rfl _ rfl rfl rfl fun w2 C _=>cond_false rfl ?_;apply cD<;>intro V
 have:=V
 exact I (by rw[i6,if_neg ho,J];dsimp only [Option.map_some];rw[iP]) C.fr;have al:¬body.length>500:=oJ;have ab:i6 M n kind body=(0,{ M with J8:=gG n (kind,body) M.J8 }):=(by rw[i6,if_neg ho,J];dsimp only [Option.map_some];rw[if_neg al]);have aa:=G.q7 C.drew.fr;refine fq<|iG (w:=w2.drew) (c:=.map) aa.cell (some mb) (rK G.Q8)<|wZ (E.q7 C.drew.fr) oJ fun s2 B2 w3 b2 f2 n2 _ _=>?_;have ac:Fr [] w w3:=C.drew.fr.trans f2;have U:=G.q7 ac;refine ia (by show _=_;simp only[Addr.q9];rw[je U.cell];exact rK G.Q8) ?_;obtain⟨o,hr,hm⟩:=ER (v:=kT (kind,s2,body)) wu U.map n;refine Be _ hr ?_;have am:iR jd (gL w3 mb o) mb ((gG n (kind,s2,body) fs).map fun e=>(e.1,kT e.2)):=(by rw[BY kT];exact hm);have ad:=U.qV am fun e he=>by rcases Cm he with h1|h1;exact .inl h1;subst h1;refine .inr (b2.jq k8 fun b E R=>?_);have l2:w2.drew.heap.size<=b:=n2 b E;rcases zD.1 R with R|R;have:b<w2.heap.size:=aa.nQ b R;have:w2.drew.heap.size=w2.heap.size:=rfl;omega;have:b<w2.heap.size:=aa.lt b R;have:w2.drew.heap.size=w2.heap.size:=rfl;omega
 have hM:(gG n (kind,s2,body) fs).map (fun e=>(e.1,e.2.1,e.2.2.2))=gG n (kind,body) M.J8:=(by rw[G.J8];exact BY (fun x:kK=>(x.1,x.2.2)) n (kind,s2,body) fs);rw[hM] at ad;have f4:Fr (pb::mb::(F1++F2)) w (gL w3 mb o):=(ac.mono (T:=pb::mb::(F1++F2)) (fun b E=>by cases E)).j8 (vW U.cV o) fun b E=>by simp only[zE] at E;subst E;exact .inl oL
 have:=hk (gL w3 mb o) (by rw[ab];exact⟨fb,defb,mb,sl,sn,F1,F2,_,rfl,ad⟩) f4
 rw[ab] at this;exact this;rw[hq] at J;exact oB (oE [] w) fun r w1 e1 f1 C=>oH C 0 rfl _ rfl rfl rfl fun w2 C _=>cond_true rfl<|I (by rw[i6,if_neg ho,J];rfl) C.fr
def e9 (M:dU) (n:Int):Int×dU:=
 if M.Q3 then (7,M) else match look n M.J8 with
 | some _=>(0,{ M with J8:=jf n M.J8,Q1:=ins n M.Q1 })
 | none=>if fY M n then (0,{ M with J7:=ins n M.J7 }) else (10,M)
def qwW(h:en w X pb db F M)(hl:M.Q5.length<=1000000)(hf:M.Q1.length<=1000000)(hd:M.J7.length<=1000000)(hk:∀F' w',en w' X pb db F' (e9 M n).2->Fr F w w'->(∀b∈F',b∈F\/w.heap.size<=b)->K (e9 M n).1 w'): cW 137 [dB pb,.u n] df w K:=by
 have h0:=h;obtain⟨fb,defb,mb,sl,sn,F1,F2,fs,rfl,I⟩:=h;refine qjd ?_;have aa:∀ {e:Int} {w':World},e9 M n=(e,M)->Fr [] w w'->K e w':=by
  intro e w' he hf
  have:=hk _ w' (by rw[he];exact h0.q7 hf) (hf.mono (fun b E=>by cases E)) (fun b E=>.inl E)
  rw[he] at this;exact this
 have J:=I.cJ n;refine fq (iG I.cell M.Q3 (xd I.Q8) ?_);refine dR (fun hc=>aa (by rw[e9,if_pos hc]) (.refl _ _)) (fun hc=>?_);have ho:¬M.Q3=true:=(by rw[hc];decide);refine fq ?_;simp only[Addr.q9];refine iG I.cell (some mb) (rK I.Q8)<|Bg I.map.at (fun q hq=>?_) (fun hq=>?_);rw[hq] at J;refine oB (oE [] w) fun r w1 e1 f1 C=>oH C 0 rfl _ rfl rfl rfl fun w2 C _=>cond_true rfl ?_;have R:e9 M n=(0,{ M with J8:=jf n M.J8,Q1:=ins n M.Q1 }):=(by rw[e9,if_neg ho,J];rfl);have U:=I.q7 C.fr;refine fq<|iG U.cell (some mb) (rK I.Q8) ?_;obtain⟨o,hr,hm⟩:=iR.del (ty:=0) wu tQ U.map n;refine Gf (ts:=[]) () _ hr ?_;have aq:iR jd (gL w2 mb o) mb ((jf n fs).map fun e=>(e.1,kT e.2)):=by
  rw[qqS kT];rw[wh] at hm;unfold jf;cases hl:look n (fs.map fun e=>(e.1,kT e.2)) with
  | none=>rw[hl] at hm;exact hm
  | some q=>rw[hl] at hm;exact hm
 have G:=U.qV aq fun e he=>.inl (qrp he);have hM:(jf n fs).map (fun e=>(e.1,e.2.1,e.2.2.2))=jf n M.J8:=by rw[I.J8];exact qqS (fun x:kK=>(x.1,x.2.2)) n fs
 rw[hM] at G;have f3:Fr (pb::mb::(F1++F2)) w (gL w2 mb o):=(C.fr.mono (T:=pb::mb::(F1++F2)) (fun b E=>by cases E)).j8 (vW U.cV o) fun b E=>by simp only[zE] at E;subst E;exact .inl oL
 refine fq (iG G.cell (pW fb) (wX I.Q8) ?_);refine Es G.Q1 hf fun au w4 ac f4 n4=>?_;have ad:=G.pC f4 ac n4;have hs:w.heap.size<=(gL w2 mb o).heap.size:=by rw[ug];exact C.fr.size
 have:=hk _ w4 (by rw[R];exact⟨fb,defb,mb,sl,sn,au,F2,_,rfl,ad⟩) (f3.j8 f4 fun b E=>.inl (by simp[E])) fun b E=>by rcases CE n4 b E with h1|h1;exact .inl h1;exact .inr (zL hs h1)
 rw[R] at this;exact this;rw[hq] at J;refine oB (oE [] w) fun r w1 e1 f1 C=>oH C 0 rfl _ rfl rfl rfl fun w2 C _=>cond_false rfl<|qqz (h0.q7 C.fr) hl fun w3 f3=>?_;have V:=C.fr.trans f3;apply dR<;>intro hc;have hu:fY M n=false:=(oP hc);exact aa (by rw[e9,if_neg ho,J];show (if fY M n then _ else _)=_;rw[hu];rfl) V;have hu:fY M n=true:=(oP hc);have R:e9 M n=(0,{ M with J7:=ins n M.J7 }):=by rw[e9,if_neg ho,J];show (if fY M n then _ else _)=_;rw[hu];rfl
 have G:=I.q7 V;refine fq (iG G.cell (pW defb) (Bs I.Q8) ?_);refine Es G.J7 hd fun ax w4 ac f4 n4=>?_;have ad:=G.vE f4 ac n4
 have:=hk _ w4 (by rw[R];exact⟨fb,defb,mb,sl,sn,F1,ax,_,rfl,ad⟩) ((V.mono (T:=pb::mb::(F1++F2)) (fun b E=>by cases E)).j8 f4 fun b E=>.inl (by simp[E])) fun b E=>by rcases Dc n4 b E with h1|h1;exact .inl h1;exact .inr (zL V.size h1)
 rw[R] at this;exact this
end
end
def qm (e:MapEntry):Int:=match e.key with | .int _ n=>n|_=>0
def qxC{es:List MapEntry}(h:mg jd es f):es.map qm=f.map (·.1)/\∀e∈es,e.key=jd (qm e):=by
 induction es generalizing f with
 | nil=>cases f with
  | nil=>exact⟨rfl,oL⟩
  | cons p f=>simp[mg] at h
 | cons e es ih=>cases f with
  | nil=>simp[mg] at h
  | cons p f=>
   simp only[mg,xN,List.cons.injEq,Prod.mk.injEq] at h;obtain⟨⟨C,U⟩,G⟩:=h;obtain⟨I,J⟩:=ih G;have E:qm e=p.1:=(by unfold qm;rw[C]);refine⟨by rw[xN,xN,E,I],fun R u=>?_⟩;rcases zG.1 u with rfl|u;rw[E];exact C;exact J R u
def qpD{β:Type}{g:β->Nat}:∀ {l:List β} {e:β},(l.map g).Pairwise (· < ·)->e∈l->l.Perm (e::l.filter fun x=>!(g x==g e))
 | x::l,e,u,C=>by
  rw[xN,yI] at u;rcases zG.1 C with rfl|C;have:(e::l).filter (fun x=>!(g x==g e))=l:=by
   rw[filter_cons_of_neg oL];exact filter_eq_self.2 fun y E=>by
    have:=u.1 (g y) (zY E)
    have h:g y≠g e:=oJ;simp[h]
  rw[this];have G:=u.1 (g e) (zY C);have h:g x≠g e:=oJ;rw[filter_cons_of_pos (by simp[h])];exact ((qpD u.2 C).cons x).trans (List.Perm.swap e x _)
def left (es:Array MapEntry) (seen:Array Nat):List MapEntry:=es.toList.filter fun e=>!seen.toList.contains e.born
def qv9{es:Array MapEntry}{seen:Array Nat}{e:MapEntry}(hs:(es.toList.map (·.born)).Pairwise (· < ·))(he:e∈es.toList)(hn:e.born∉seen.toList):(left es seen).Perm (e::left es (seen.push e.born)):=by have h1:left es (seen.push e.born)=(left es seen).filter fun x=>!(x.born==e.born):=(by rw[left,left,filter_filter];congr 1;funext x;rw[Array.toList_push];by_cases h:x.born=e.born<;>simp[h]);rw[h1];refine qpD (g:=fun x:MapEntry=>x.born) ?_ (mem_filter.2 ⟨he,by simpa using hn⟩);exact hs.sublist (filter_sublist.map _)
def seenAt (w:World) (u:Nat):Nat:=match w.heap[u]? with|some (.mapIter _ _ h _)=>h.size|_=>0
def qpP{C:Nat}{a:Option Nat}{b c:Nat}{u:Array Nat}(h:w.heap[C]?=some (.mapIter a b u c)):seenAt w C=u.size:=by unfold seenAt;rw[h]
def qp1{rk:Nat}{K:Sl->WP}(hm:iR jd w mb f)(hrk:w.heap[rk]?=some (.cells #[.map (some mb)] T (0,0)))(hf:f.length<=100000)(hk:∀s' B l' w',kQ w' s' l' B->l'.Perm (f.map (·.1))->Fr [] w w'->(∀b∈B,w.heap.size<=b)->K s' w'): cW 248 [.slice none 0 0,.func (.func 224) #[] #[dB rk]] de w K:=by
 refine qjl (s:=dC) ?_;obtain⟨es,c,hb,he,hs,hc⟩:=hm;obtain⟨hkm,hkey⟩:=qxC he;have hesl:es.toList.length=f.length:=(by have:=congrArg List.length hkm;simpa using this);have hbW:∀ {w':World},Fr [] w w'->w'.heap[mb]?=some (.map es c):=fun f=>by rw[f.block mb (eT hb) oL];exact hb
 have hrW:∀ {w':World},Fr [] w w'->w'.heap[rk]?=some (.cells #[.map (some mb)] T (0,0)):=fun f=>by rw[f.block rk (eT hrk) oL];exact hrk
 refine oB (oE [] w) fun r1 w1 e1 f1 ho=>dM.jR (lb:=[dB rk]) ho rfl oK fun Dm l R Bz J E E0 w6 el eD f56 ho6 hy=>qnn<|iG (c:=.map) (hrW ho6.fr) (some mb) rfl<|Gf (ts:=dq) _ _ (qwD wu (hbW ho6.fr)) ?_;have ho7:=ho6.alloc (.mapIter (some mb) c #[] c);generalize hit:w6.heap.size=it at ho7;refine iV (fun _ w'=>∃(seen:Array Nat) (so:Sl) (xs:List Int) (Bo:List Nat),
   dM [] w w' [(it,.mapIter (some mb) c seen c),(l,R),(Dm,.deferred (some [])),(r1,.cells #[so.v] 172 (0,0))]/\(xs++(left es seen).map qm).Perm (f.map (·.1))/\xs.length=seen.size/\kQ w' so xs Bo/\
   ∀b∈Bo,w.heap.size<=b/\b∉[it,l,Dm,r1]) (fun _ w'=>f.length-seenAt w' it)
  ⟨#[],dC,[],[],ho7,?_,rfl,.nil _ _ _,oL⟩ ?_
 have:left es #[]=es.toList:=(by unfold left;exact filter_eq_self.2 oL);rw[this,hkm];exact .refl _;rintro _ w8 ⟨seen,so,xs,Bo,ho8,hperm,hxl,hbu,hBo⟩ X hX;have hxs:xs.length+(left es seen).length=f.length:=(by have:=hperm.length_eq;simpa using this);refine qzI (hbW ho8.fr) (ho8.at (i:=0) rfl) hc (fun hall=>?_) (fun e hem hne w9 hsame=>?_);have hl0:left es seen=[]:=filter_eq_nil_iff.2 fun e he=>by simpa using hall e he
 rw[hl0,map_nil,xG] at hperm;refine .inl ⟨ho8.at (i:=1) rfl,?_⟩;have ho9:=ho8.gL (o':=E0) 1 rfl;have hbu9:=hbu.q8 (rR (eT (ho8.at (i:=1) rfl)) E0) (fun b hb hm=>by simp only[zE] at hm;subst hm;exact (hBo _ hb).2 oL);exact oA (c:=.slice) ho9 3 rfl so rfl<|dM.eI ho9.kZ 2 rfl fun w10 hd=>hk so Bo xs w10 (hbu9.q8 hd.fr (fun b hb=>(hBo b hb).2)) hperm (ho9.back hd.fr) (fun b hb=>(hBo b hb).1);have ho9:=(ho8.q7 (.of_same hsame)).gL (o':=.mapIter (some mb) c (seen.push e.born) c) 0 rfl;have hbu9:kQ (Pt.gL w9 it (.mapIter (some mb) c (seen.push e.born) c)) so xs Bo:=(hbu.q7 (.of_same hsame)).q8 (rR (eT ((ho8.q7 (.of_same hsame)).at (i:=0) rfl)) _) (fun b hb hm=>by simp only[zE] at hm;subst hm;exact (hBo _ hb).2 oL);generalize hw10:Pt.gL w9 it (.mapIter (some mb) c (seen.push e.born) c)=w10 at ho9 hbu9;refine qzr (hbW ho9.fr) (ho9.at (i:=0) rfl) hem hs ?_;rw[hkey e hem];refine hy (qm e) w10 _ (ho9.at (i:=1) rfl) ?_;dsimp only;refine⟨ho9.at (i:=1) rfl,?_⟩;have hoA:=ho9.gL (o':=Bz) 1 rfl;have hbuA:=hbu9.q8 (rR (eT (ho9.at (i:=1) rfl)) Bz) (fun b hb hm=>by simp only[zE] at hm;subst hm;exact (hBo _ hb).2 oL);refine oA (c:=.slice) hoA 3 rfl so rfl<|DC hbuA oJ fun s11 B11 w11 b11 f11 n11=>?_;have hLlt:∀p∈[it,l,Dm,r1],p<(Pt.gL w10 l Bz).heap.size:=fun p hp=>by have hlt:=fun (k:Nat) (q:Nat×Obj) (hq:_[k]?=some q)=>eT (hoA.at (i:=k) hq);simp only[zG,xW,or_false] at hp;rcases hp with rfl|rfl|rfl|rfl;exact hlt 0 _ rfl;exact hlt 1 _ rfl;exact hlt 2 _ rfl;exact hlt 3 _ rfl
 have hB11:∀b∈B11,w.heap.size<=b/\b∉[it,l,Dm,r1]:=fun b hb=>by rcases n11 b hb with h|h;exact hBo b h;refine⟨zL hoA.fr.size h,fun hm=>?_⟩;exact Nat.lt_irrefl _ (yC (hLlt b hm) h)
 have hoB:=hoA.q8 f11 (fun b hb=>.inr (hBo b hb).1) (fun p hp hb=>(hBo _ hb).2 (zY (f:=(·.1)) hp));refine oD hoB 3 rfl _ fun w12 hoC f12=>⟨hoC.at (i:=1) rfl,?_⟩;have hoD:=hoC.gL (o':=R) 1 rfl;have b12:=(b11.q8 f12 (fun b hb hm=>by simp only[zE] at hm;subst hm;exact (hB11 _ hb).2 oL)).q8 (rR (eT (hoC.at (i:=1) rfl)) R) (fun b hb hm=>by simp only[zE] at hm;subst hm;exact (hB11 _ hb).2 oL);refine cond_false rfl ?_;have hpk:=qv9 hs hem hne;refine hX _ _ ⟨seen.push e.born,s11,xs++[qm e],B11,hoD,?_,by simp[hxl],b12,hB11⟩ ?_;refine List.Perm.trans ?_ hperm;rw[zV];exact (hpk.symm.map qm).append_left xs;have h1:=qpP (ho8.at (i:=0) rfl);have h2:seenAt (Pt.gL w12 l R) it=(seen.push e.born).size:=qpP (hoD.at (i:=0) rfl);have h3:=hpk.length_eq;rw[yH] at h3;show f.length-seenAt (Pt.gL w12 l R) it<f.length-seenAt w8 it;rw[h1,h2,Array.size_push];omega
abbrev lC:={l:List Int // l.length=512}
def iT (b:lC):List Value:=b.1.map (Value.int .u8)
def rT(b:lC):(iT b).length=512:=by rw[iT,zK,b.2]
def lE (x:Int×lC):List Value:=Value.int .i64 x.1::iT x.2
def um(x:Int×lC):(lE x).length=513:=by rw[lE,yH,rT]
def lC.zero:lC:=⟨zs 512,oT 512⟩
structure dE where
 Q6:List lC
 Q7:List (Int×lC)
 y5:Int
 down:Bool
 writes:Int
variable {D:dE}
structure dE.Ok (D:dE):Prop where
 at_:∀ x∈D.Q7,0<=x.1/\x.1<D.Q6.length
 y5:-1<=D.y5/\D.y5<=1000000000
 Q6:D.Q6.length<=4096
 Q7:D.Q7.length<=1000000
 writes:0<=D.writes/\D.writes<=1000000000
 nm:∀ b∈D.Q6,eB b.1
 ng:∀ x∈D.Q7,eB x.2.1
abbrev DT:TypeId:=263
def jk (D:dE) (sb:Nat) (h:Sl):Array Value:=#[.slice (pW sb) D.Q6.length D.Q6.length,h.v,.i D.y5,.bool D.down,.i D.writes]
def eK (w:World) (db:Nat) (F:List Nat) (D:dE):Prop:=
 ∃(sb:Nat) (T:TypeId) (h:Sl) (B:List Nat),F=db::sb::B/\(db::sb::B).Nodup/\w.heap[db]?=some (.cells (jk D sb h) DT (0,0))/\w.heap[sb]?=some (.cells (D.Q6.flatMap iT).toArray T (0,0))/\eO lE 513 w h D.Q7 B
def eK.q8{w w':World}{db:Nat}{F S:List Nat}{D:dE}(h:eK w db F D)(f:Fr S w w')(u:∀b∈F,b∉S):eK w' db F D:=by obtain⟨sb,T,C,B,rfl,I,E,G,J⟩:=h;exact⟨sb,T,C,B,rfl,I,by rw[f.block db (eT E) (u _ oL)];exact E,by rw[f.block sb (eT G) (u _ oL)];exact G,J.q8 f (fun b R=>u b (by simp[R]))⟩
def eK.q7{db:Nat}(h:eK w db F D)(f:Fr [] w w'):eK w' db F D:=h.q8 f (fun _ _ h=>by cases h)
def eK.lt{w:World}{db:Nat}{F:List Nat}{D:dE}(h:eK w db F D):∀b∈F,b<w.heap.size:=by obtain⟨sb,T,C,B,rfl,J,E,G,I⟩:=h;intro b u;simp only[zG] at u;rcases u with rfl|rfl|u;exact eT E;exact eT G;exact I.lt b u
def eK.cell{db:Nat}(h:eK w db F D):∃sb u,w.heap[db]?=some (.cells (jk D sb u) DT (0,0)):=by obtain⟨sb,T,u,B,rfl,E,C,G,I⟩:=h;exact⟨sb,u,C⟩
def eK.mem{db:Nat}(h:eK w db F D):db∈F:=by obtain⟨sb,T,u,B,rfl,_⟩:=h;simp
def rB (D:dE) (sb c:Nat) (h:Sl):Array Value:=#[.slice (pW sb) D.Q6.length c,h.v,.i D.y5,.bool D.down,.i D.writes]
def vi (w:World) (db:Nat) (F:List Nat) (D:dE) (c:Nat) (Z:List Value):Prop:=
 ∃(sb:Nat) (T:TypeId) (h:Sl) (B:List Nat),F=db::sb::B/\(db::sb::B).Nodup/\w.heap[db]?=some (.cells (rB D sb c h) DT (0,0))/\w.heap[sb]?=some (.cells (D.Q6.flatMap iT++Z).toArray T (0,0))/\eO lE 513 w h D.Q7 B
def eK.z{db:Nat}(h:eK w db F D):vi w db F D D.Q6.length []:=by obtain⟨sb,T,u,B,rfl,C,E,G,I⟩:=h;exact⟨sb,T,u,B,rfl,C,E,by rw[xG];exact G,I⟩
def eK.x6{db:Nat}{D':dE}{sb:Nat}{C:Sl}(h:eK w db F D)(hc:w.heap[db]?=some (.cells (jk D sb C) DT (0,0)))(f:Fr [db] w w')(hs:D'.Q6=D.Q6)(hw:D'.Q7=D.Q7)(J:w'.heap[db]?=some (.cells (jk D' sb C) DT (0,0))):eK w' db F D':=by
 obtain⟨E,T,u,B,rfl,G,h1,V,h3⟩:=h;have I:E=sb/\u=C:=by have q:=h1.symm.trans hc;have q0:=congrArg (fun o=>match o with|some (Obj.cells R _ _)=>(match R[0]? with|some (Value.slice (some a) _ _)=>a.block|_=>0)|_=>0) q;have q1:=congrArg (fun o=>match o with|some (Obj.cells R _ _)=>R[1]? | _=>none) q;refine⟨q0,?_⟩;have q2:Value.slice u.a u.len u.cap=Value.slice C.a C.len C.cap:=yN q1;cases C;cases u;simp only[Value.slice.injEq] at q2;obtain⟨rfl,rfl,rfl⟩:=q2;rfl
 obtain⟨rfl,rfl⟩:=I;have U:E≠db:=fun e=>by rw[e] at G;simp at G
 have hB:∀b∈B,b∉[db]:=fun b hb I=>by simp at I;subst I;simp at G;exact G.1.2 hb
 exact⟨E,T,u,B,rfl,G,J,by rw[hs,f.block E (eT V) (oP U)];exact V,by rw[hw];exact h3.q8 f hB⟩
def DW{db:Nat}(h:eK w db F D)(u:K D.Q6.length w):cW 140 [dB db] df w K:=by refine qjb ?_;obtain⟨sb,C,E⟩:=h.cell;refine fq (iG E ⟨pW sb,D.Q6.length,D.Q6.length⟩ rfl ?_);exact u
def mC (h:Nat):dE:=⟨List.replicate h .zero,[],-1,false,0⟩
def qyY{n:Nat}(h:n<=4096):(mC n).Ok:=
 ⟨fun _ h=>(by cases h),⟨by show (-1:Int)<=-1;decide,by show (-1:Int)<=1000000000;decide⟩,by rw[mC];simpa using h,by simp[mC],by simp[mC],fun b u=>by rw[eq_of_mem_replicate u];exact eB.zs 512,fun _ h=>(by cases h)⟩
def qst(n:Nat)(b:lC):(List.replicate n (iT b)).flatten=(List.replicate n b).flatMap iT:=by rw[flatMap_def,map_replicate]
set_option maxRecDepth 100000 in
def qyg{h:Int}{K:Option Addr×Int->WP}(E:(h<8\/h>4096)->K (none,1) w)(J:8<=h->h<=4096->∀db F w',eK w' db F (mC h.toNat)->Fr [] w w'->(∀b∈F,w.heap.size<=b)->K (pW db,0) w'): cW 106 [.i h] dy w K:=by
 refine qsp<|gQ (fun b w'=>b=decide (h<8\/h>4096)/\w'=w) ?_ ?_;apply dR<;>intro C;exact⟨by rw[zZ (Or.inl (zC C))],rfl⟩
 have:=zB C
 exact⟨by simp[this],rfl⟩;rintro b w1 ⟨rfl,rfl⟩;refine dR (fun C=>E (zC C)) (fun C=>?_);have hr:=zB C;have R:8<=h:=oJ;have U:h<=4096:=oJ;obtain⟨n,rfl⟩:∃n:Nat,h=n:=⟨h.toNat,oJ⟩;refine dM.mkN (zero:=iT lC.zero) (oE [] w1) (rT _) oJ oJ oJ oJ fun sb w2 e2 u=>dM.new u fun db V e3 s3 u=>?_;have G:(List.replicate (n:Int).toNat (iT lC.zero)).flatten=((mC n).Q6).flatMap iT:=(by rw[zJ];exact qst n _);refine J R U db [db,sb] V ⟨sb,296,dC,[],rfl,?_,?_,?_,.nil _ _ _⟩ u.fr (fun b I=>?_)
 have:=u.nodup;simpa using this
 have:=u.at (i:=0) rfl
 rw[this];simp[jk,mC]
 have:=u.at (i:=1) rfl
 rw[this,zJ,<- G,zJ];simp at I
 have:=u.own
 rcases I with rfl|rfl
 have:=u.own (b,_) (yE (i:=0) rfl)
 simpa using this
 have:=u.own (b,_) (yE (i:=1) rfl)
 simpa using this
def gK (D:dE):dE×Bool:=if D.y5=0 then ({ D with down:=true },true) else if D.y5>0 then ({ D with y5:=D.y5-1 },false) else (D,false)
def qvr{db:Nat}{K:Bool->WP}(h:eK w db F D)(hD:D.y5<=1000000000)(U:∀w',eK w' db F (gK D).1->Fr [db] w w'->K (gK D).2 w'): cW 171 [dB db] dg w K:=by
 refine ql7 ?_;obtain⟨sb,G,I⟩:=h.cell;have u:dM [db] w w [(db,.cells (jk D sb G) DT (0,0))]:=⟨by simpa using I,oL,.refl _ _,oL⟩;refine fq (oA u 0 rfl D.y5 rfl ?_);apply dR<;>intro J;have C:D.y5=0:=(oP J);refine fq<|oH u 0 rfl _ rfl rfl rfl fun w1 u _=>?_
 have:=U w1 (by rw[gK,if_pos C];exact h.x6 I u.fr rfl rfl (u.at (i:=0) rfl)) u.fr
 rw[gK,if_pos C] at this;exact this;have C:¬D.y5=0:=(oP J);refine gQ (fun _ w'=>eK w' db F (gK D).1/\Fr [db] w w') ?_ ?_;refine fq (oA u 0 rfl D.y5 rfl ?_);apply cD<;>intro R;have E:D.y5>0:=R;refine fq (oA u 0 rfl D.y5 rfl ?_);refine fq ?_;rw[gc _ oJ];refine oH u 0 rfl _ rfl rfl rfl fun w1 u _=>⟨?_,u.fr⟩;rw[gK,if_neg C,if_pos E];exact h.x6 I u.fr rfl rfl (u.at (i:=0) rfl);have E:¬D.y5>0:=R;refine⟨?_,.refl _ _⟩;rw[gK,if_neg C,if_neg E];exact h;rintro _ w1 ⟨V,h2⟩
 have:=U w1 V h2
 have e:(gK D).2=false:=(by rw[gK,if_neg C];split<;>rfl);rw[e] at this;exact this
def qyb:∃i,prog.info? 298=some i/\(∃z,i.zero=some z/\z.cells.size=513)/\i.size=513/\i.bytes=520:=by have h:(prog.info? 298).map (fun i=>(i.zero.map (fun z=>z.cells.size),i.size,i.bytes))=some (some 513,513,520):=oK;obtain⟨i,E,u⟩:=yS.1 h;simp only[Prod.mk.injEq] at u;obtain⟨z,G,C⟩:=yS.1 u.1;exact⟨i,E,⟨z,G,C⟩,u.2.1,u.2.2⟩
def lh (D:dE) (n:Int) (b:lC):dE:={ D with Q7:=D.Q7++[(n,b)],writes:=D.writes+1 }
def ed (D:dE) (n:Int) (l:List Int):dE×Int:=
 if D.down then (D,7) else if n<0\/n>=D.Q6.length then (D,4) else
 if h:l.length=512 then ((gK (lh D n ⟨l,h⟩)).1,if (gK (lh D n ⟨l,h⟩)).2 then 7 else 0) else (D,1)
def qsj(n:Int)(b:lC)(w:World):(Instr.build 298 #[(0,.i n),(1,.agg (iT b).toArray)]).run prog w=.ok (.agg (lE (n,b)).toArray) w:=by
 obtain⟨z,hz,hzs⟩:∃z,(prog.info? 298).bind (·.zero)=some z/\z.cells.size=513:=by obtain⟨i,hi,⟨z,hz,hzs⟩,_⟩:=qyb;exact⟨z,by rw[hi];exact hz,hzs⟩
 have:=qu0 (P:=prog) (a:=.i n) (b:=.agg (iT b).toArray) (o1:=1) (s0:=1) (s1:=512) hz oK (fun w=>oK) rfl (by show (iT b).toArray.size=512;rw[size_toArray,rT]) rfl hzs w
 exact this
def qkV(l:List Int):((l.map (Value.int .u8)).all Value.oneCell')=true:=by rw[all_eq_true];intro v h;obtain⟨x,_,rfl⟩:=mem_map.1 h;rfl
def qqU(b:lC):((iT b).all Value.oneCell')=true:=qkV _
def Ds(x:Int×lC):((lE x).all Value.oneCell')=true:=by rw[lE,all_cons,qqU];rfl
def qwu(h:eE S w s l)(E:l≠[]):∃b o u T C,s.a=some (dd b o)/\w.heap[b]?=some (.cells u T C)/\b∉S/\(u.toList.drop o).take l.length=l.map (Value.int .u8):=by
 rcases h.2.2 with G|⟨b,o,u,T,C,I,J,R,U⟩;exact absurd G E;refine⟨b,o,u,T,C,I,J,R,?_⟩;apply ext_getElem?;intro i;rw[xA,zQ];by_cases hi:i<l.length;rw[if_pos hi,yZ,zA hi]
 have:=U i l[i] (zA hi)
 rw[xS] at this
 have:=congrArg (·[0]?) this
 simpa using this;rw[if_neg hi,yR oJ];rfl
def qoP{db:Nat}(h:eK w db F D)(hD:D.Ok)(hs:eE S w s l)(hk:∀F' w',eK w' db F' (ed D n l).1->Fr F w w'->(∀b∈F',b∈F\/w.heap.size<=b)->K (ed D n l).2 w'): cW 138 [dB db,.i n,s.v] df w K:=by
 refine qjD (d:=pW db) (b:=s) ?_;have hlen:=hs.1;have hdb:=h.mem;obtain⟨sb,T,wsl,B,hF,hn,hc,hsb,hbuf⟩:=h;have h:eK w db F D:=⟨sb,T,wsl,B,hF,hn,hc,hsb,hbuf⟩;have ho:dM F w w [(db,.cells (jk D sb wsl) DT (0,0))]:=⟨by simpa using hc,oL,.refl _ _,by simp[hdb]⟩;refine fq (oA (c:=.bool) ho 0 rfl D.down rfl ?_);have same:∀ {e:Int},ed D n l=(D,e)->∀ {w'},w'=w->K e w':=by
  rintro e he w' rfl
  have:=hk F w' (by rw[he];exact h) (.refl _ _) (fun b hb=>.inl hb)
  rw[he] at this;exact this
 refine dR (fun hd=>same (by rw[ed,if_pos hd]) rfl) fun hd=>gQ (fun b w'=>b=decide (n<0\/n>=D.Q6.length)/\w'=w) ?_ ?_;apply dR<;>intro hc;exact⟨by rw[zZ (Or.inl (zC hc))],rfl⟩;refine fq (oA (c:=.slice) ho 0 rfl ⟨pW sb,D.Q6.length,D.Q6.length⟩ rfl ⟨?_,rfl⟩)
 have:=zB hc
 by_cases h2:n>=D.Q6.length<;>simp[this,h2];rintro b w1 ⟨rfl,rfl⟩;refine dR (fun hr=>same (by rw[ed,if_neg (oP hd),if_pos (zC hr)]) rfl) (fun hr=>?_);have hr':=zB hr;refine dR (fun hq=>same ?_ rfl) (fun hq=>?_);have:¬l.length=512:=(by simp at hq;omega);rw[ed,if_neg (oP hd),if_neg hr',dif_neg this];have h512:l.length=512:=(by simp at hq;omega);obtain⟨eA,hblk⟩:∃eA:lC,eA.1=l:=⟨⟨l,h512⟩,rfl⟩;have hw:ed D n l=((gK (lh D n eA)).1,if (gK (lh D n eA)).2 then 7 else 0):=by rw[ed,if_neg (oP hd),if_neg hr',dif_pos h512];have:eA=⟨l,h512⟩:=Subtype.ext hblk;rw[this]
 rw[hw] at hk;have hd1:=ho.drew;refine fq (oA (c:=.slice) hd1 0 rfl wsl rfl ?_);obtain⟨sbk,so,scs,sT,sfr,hsa,hsbk,hsS,hscs⟩:=qwu hs (by rw[<- length_pos_iff];omega);obtain⟨sa,slen,scap⟩:=s;simp only at hsa hlen;subst hsa;refine qzO oJ<|qA (n:=512) (w:=w1.drew) hsbk (iT eA) (rT _) (by rw[<- h512,hscs,iT,hblk])<|qJ (ts:=[.kN]) (lE (n,eA)) (qsj n eA _)<|pc (um _)<|oB hd1 fun r w2 er fr2 ho2=>ia (ho2.cell (off:=1) 1 rfl rfl) ?_;obtain⟨iW,hi,⟨z,hz,hzs⟩,hsz,hby⟩:=qyb;have hwl:=hD.Q7;have hwr:=hD.writes;have hfz:=hD.y5;have fr2':Fr [] w1 w2:=(Fr.refl [] w1).drew.trans fr2;have hbuf2:eO lE 513 w2 wsl D.Q7 B:=hbuf.q7 fr2';have hsb2:w2.heap[sb]?=some (.cells (D.Q6.flatMap iT).toArray T (0,0)):=(by rw[fr2'.block sb (eT hsb) oL];exact hsb);have hBF:∀b∈B,b∈F:=fun b hb=>by rw[hF];simp[hb]
 have hdbB:∀b∈B,b≠db:=fun b hb e=>by subst e;simp at hn;exact hn.1.2 hb
 have hsbB:∀b∈B,b≠sb:=fun b hb e=>by subst e;simp at hn;exact hn.2.1 hb
 have hrB:∀b∈B,b≠r:=fun b hb e=>by have:=hbuf.lt b hb;have e1:w1.drew.heap.size=w1.heap.size:=rfl;omega
 refine eO.j1 (ys:=[(n,eA)]) (e:=298) hbuf2 um oK hi hz hsz hzs (.ofSlice _ (e':=298) oK _ 1 1 _ ?_ ?_ ?_) rfl (by rw[hby];omega) oJ fun s' B' w3 g1 g2 g3 _=>?_;simp[um];intro j u hj;rw[Addr.q9,je (ho2.at (i:=0) rfl),xR];have:(lE (n,eA))[j]?=some u:=(oP hj);simpa using this;intro u hu;have:u∈lE (n,eA):=(oP hu);exact all_eq_true.1 (Ds (n,eA)) u this;have ho3:dM F w1 w3 [(r,.cells (lE (n,eA)).toArray 298 (0,0)),(db,.cells (jk D sb wsl) DT (0,0))]:=
  ho2.q8 g2 (fun b hb=>.inl (hBF b hb)) (fun p hp=>by simp at hp;rcases hp with rfl|rfl;exact fun hb=>hrB _ hb rfl;exact fun hb=>hdbB _ hb rfl)
 have hsb3:w3.heap[sb]?=some (.cells (D.Q6.flatMap iT).toArray T (0,0)):=(by rw[g2.block sb (eT hsb2) (fun hb=>hsbB _ hb rfl)];exact hsb2);have hc3:=ho3.at (i:=1) rfl;refine fq<|qD hc3 (jk { D with Q7:=D.Q7++[(n,eA)] } sb s') rfl rfl (zO rfl) fun w4 hc4 f4=>fq (iG (c:=.i) hc4 D.writes rfl ?_);refine fq ?_;rw[gc (D.writes+1) oJ];refine qD hc4 (jk (lh D n eA) sb s') rfl rfl (zO rfl) fun w5 hc5 f5=>?_;have hs2:=fr2'.size;have hs3:=g2.size;have hne:sb≠db:=fun e=>by rw[e] at hn;simp at hn
 have f35:Fr [db] w3 w5:=f4.trans f5;have hB'db:∀b∈B',b≠db:=fun b hb e=>by
  rcases g3 b hb with h'|h';exact hdbB b h' e
  have:=eT hc;omega
 have hB'sb:∀b∈B',b≠sb:=fun b hb e=>by
  rcases g3 b hb with h'|h';exact hsbB b h' e
  have:=eT hsb;omega
 have hB'n:B'.Nodup:=by rcases g1 with ⟨_,_,rfl⟩|⟨b',o',cs',T',rfl,_⟩;simp;simp
 have h5:eK w5 db (db::sb::B') (lh D n eA):=(by refine⟨sb,T,s',B',rfl,?_,hc5,?_,?_⟩;simp only[nodup_cons,zG,not_or];exact⟨⟨fun e=>hne e.symm,fun hb=>hB'db _ hb rfl⟩,fun hb=>hB'sb _ hb rfl,hB'n⟩;rw[f35.block sb (eT hsb3) (oP hne)];exact hsb3;exact g1.q8 f35 (fun b hb=>by simpa using hB'db b hb));have hF':∀b∈db::sb::B',b∈F\/w1.heap.size<=b:=fun b hb=>by simp only[zG] at hb;rcases hb with rfl|rfl|hb;exact .inl hdb;exact .inl (by rw[hF];simp);rcases g3 b hb with h'|h';exact .inl (hBF b h');exact .inr oJ
 have f15:Fr F w1 w5:=((fr2'.mono (fun i hi _=>by cases hi)).j8 g2 (fun b hb=>.inl (hBF b hb))).j8 f35 (fun b hb=>by simp at hb;subst hb;exact .inl hdb);refine qvr h5 (by show D.y5<=_;omega) fun w6 h6 f6=>?_
 have:=hk (db::sb::B') w6 h6 (f15.j8 f6 (fun b hb=>by simp at hb;subst hb;exact .inl hdb)) hF'
 apply dR<;>intro ha;rw[ha] at this;exact this;rw[ha] at this;exact this
def fR (s:List lC) (x:Int×lC):List lC:=s.set x.1.toNat x.2
def zn(l:List (Int×lC)):∀s:List lC,(l.foldl fR s).length=s.length:=by
 induction l with
 | nil=>intro s;rfl
 | cons x l ih=>intro s;rw[foldl_cons,ih,fR,xF]
def fQ (D:dE):dE×Int:=
 if D.down then (D,7) else if (gK D).2 then ((gK D).1,7) else ({ (gK D).1 with Q6:=D.Q7.foldl fR D.Q6,Q7:=[] },0)
def wE(D:dE):(gK D).1.Q6=D.Q6/\(gK D).1.Q7=D.Q7:=by unfold gK;split;exact⟨rfl,rfl⟩;split<;>exact⟨rfl,rfl⟩
def qqt{db:Nat}(h:eK w db F D)(hD:D.Ok)(hk:∀F' w',eK w' db F' (fQ D).1->Fr F w w'->(∀b∈F',b∈F)->K (fQ D).2 w'): cW 139 [dB db] df w K:=by
 refine qkX ?_;have ah:=h.mem;have aJ:=hD.y5;refine gQ (fun b w'=>(D.down=true/\b=true/\w'=w)\/(D.down=false/\b=(gK D).2/\eK w' db F (gK D).1/\Fr [db] w w')) ?_ ?_;obtain⟨sb,C,hc⟩:=h.cell;refine fq (iG hc D.down rfl ?_);exact dR (fun U=>.inl ⟨U,rfl,rfl⟩) fun U=>qvr h oJ fun w1 h1 f1=>.inr ⟨U,rfl,h1,f1⟩;rintro b w1 (⟨U,rfl,rfl⟩|⟨U,rfl,h1,f1⟩);refine cond_true rfl ?_
 have:=hk F w1 (by rw[fQ,if_pos U];exact h) (.refl _ _) (fun b hb=>hb)
 rw[fQ,if_pos U] at this;exact this;have fF:Fr F w w1:=f1.mono (fun i E _=>by simp at E;subst E;exact ah);apply dR<;>intro ha
 have:=hk F w1 (by rw[fQ,if_neg (by simp[U]),if_pos ha];exact h1) fF (fun b hb=>hb)
 rw[fQ,if_neg (by simp[U]),if_pos ha] at this;exact this;have ax:fQ D=({ (gK D).1 with Q6:=D.Q7.foldl fR D.Q6,Q7:=[] },0):=(by rw[fQ,if_neg (by simp[U]),if_neg (by simp[ha])]);rw[ax] at hk;obtain⟨aa,ak⟩:=wE D;generalize (gK D).1=D1 at h1 aa ak hk;obtain⟨sb,T,C,B,hF,hn,hc,am,G⟩:=h1;rw[aa] at am;rw[ak] at G;have ad:sb≠db:=fun e=>by rw[e] at hn;simp at hn
 have hB:∀b∈B,b∉[sb]:=fun b hb he=>by simp at he;subst he;simp at hn;exact hn.2.1 hb
 have aL:=G.len;have ay:=hD.Q7;have az:=hD.Q6;refine fq (iG hc C rfl ?_);refine iV (fun x w'=>∃i:Nat,x=i/\i<=D.Q7.length/\w'.heap[sb]?=some (.cells (((D.Q7.take i).foldl fR D.Q6).flatMap iT).toArray T (0,0))/\Fr [sb] w1 w') (fun x _=>((D.Q7.length:Int)-x).toNat)
  ⟨0,rfl,oJ,am,.refl _ _⟩ ?_
 rintro x w2 ⟨i,rfl,E,I,f2⟩ X hX;have ae:w2.heap[db]?=some (.cells (jk D1 sb C) DT (0,0)):=(by rw[f2.block db (eT hc) (by simpa using fun e=>ad e.symm)];exact hc);apply cD<;>intro J;have R:i<D.Q7.length:=oJ;have aA:dW lE 513 [] w2 C D.Q7:=(G.q8 f2 hB).jq um oL;have an:=zA R;have aN:=hD.at_ D.Q7[i] (zW R);refine aA.gR um i rfl an<|dM.ry (oE [] w2) oK (um _) (Ds _) fun r V er ho=>?_;have aB:V.heap[sb]?=some (.cells (((D.Q7.take i).foldl fR D.Q6).flatMap iT).toArray T (0,0)):=(by rw[ho.fr.block sb (eT I) oL];exact I);have af:V.heap[db]?=some (.cells (jk D1 sb C) DT (0,0)):=(by rw[ho.fr.block db (eT ae) oL];exact ae);refine fq (iG (w:=V.drew) af ⟨pW sb,D1.Q6.length,D1.Q6.length⟩ rfl ?_);have ao:=ho.at (i:=0) rfl;refine iG (w:=V.drew) ao D.Q7[i].1 rfl<|qA (n:=512) (w:=V.drew) ao (iT D.Q7[i].2) (rT _) (by rw[show (lE D.Q7[i]).toArray.toList.drop 1=iT D.Q7[i].2 from rfl,zS (by rw[rT];exact zM _)]) ?_;have u:=zn (D.Q7.take i) D.Q6;refine tY oJ (by rw[aa];omega)<|pc (rT _) ?_;have ab:0+Int.toNat D.Q7[i].1*512+(iT D.Q7[i].2).length<=(((D.Q7.take i).foldl fR D.Q6).flatMap iT).toArray.size:=by rw[size_toArray,qi rT,rT,u];omega
 refine qD (w:=V.drew) aB (((((D.Q7.take i).foldl fR D.Q6).set D.Q7[i].1.toNat D.Q7[i].2).flatMap iT).toArray) (by rw[xR];exact qsN rT ((D.Q7.take i).foldl fR D.Q6) D.Q7[i].1.toNat D.Q7[i].2 (by rw[u];omega)) (qqU _) ab fun w4 aC f4=>?_;rw[gc _ oJ];refine hX _ _ ⟨i+1,oL,oJ,?_,?_⟩ oJ;rw[yF R,foldl_append];exact aC;have aD:Fr [sb] w2 V.drew:=ho.fr.drew.mono (fun i E _=>by cases E);exact f2.trans (aD.trans f4);have R:i=D.Q7.length:=oJ;subst R;rw[xY] at I;refine fq ?_;have u:=zn D.Q7 D.Q6;refine qD ae (jk { D1 with Q6:=D.Q7.foldl fR D.Q6,Q7:=[] } sb dC) (by simp[dN,jk,u,aa]) rfl (zO rfl) fun V af f3=>?_;have aE:Fr F w V:=(fF.trans (f2.mono (fun i E _=>by simp at E;subst E;rw[hF];simp))).trans (f3.mono (fun i E _=>by simp at E;subst E;exact ah));refine hk [db,sb] V ⟨sb,T,dC,[],rfl,by simpa using fun e=>ad e.symm,af,?_,.nil _ _ _⟩ aE (fun b hb=>by rw[hF];simp at hb;rcases hb with rfl|rfl<;>simp);rw[f3.block sb (eT I) (oP ad)];exact I
def iw (n:Int):List (Int×lC)->Option lC
 | []=>none
 | x::r=>match iw n r with|some b=>some b|none=>if x.1=n then some x.2 else none
def qpp{n:Int}:∀(l:List (Int×lC)) (i:Nat) (h:i<l.length),iw n (l.drop (i+1))=none->l[i].1=n->iw n l=some l[i].2
 | x::l,0,h,u,C=>by simp only[xR,drop_succ_cons,xE] at u;simp only[getElem_cons_zero] at C⊢;simp[iw,u,C]
 | x::l,i+1,h,u,C=>by
  have:=qpp l i (oP h) (oP u) (oP C)
  simp only[iw,this,getElem_cons_succ]
def quA:∀(l:List (Int×lC)) (i:Nat) (h:i<l.length),iw n (l.drop (i+1))=none->l[i].1≠n->iw n (l.drop i)=none:=by intro l i h C u;rw[zX h,iw,C];simp[u]
def ee (D:dE) (n:Int):List Int×Int:=
 if D.down then ([],7) else if n<0\/n>=D.Q6.length then ([],4) else
 match iw n D.Q7 with|some b=>(b.1,0)|none=>((D.Q6.getD n.toNat .zero).1,0)
def qrV{b o n:Nat}{h:Nat}{K:Sl->Prop}(u:0<n)(k:K ⟨some (dd b o),n,n⟩):iY (dd b o) n none none none h K:=by unfold iY;refine⟨oL,?_⟩;simp only[xV,zJ,Int.toNat_zero,Nat.sub_zero,Nat.zero_mul];rw[iN,DK];exact k
def qqV{b o:Nat}{h:Nat×Nat}{x:lC}(G:w.heap[b]?=some (.cells cs T h))(I:(cs.toList.drop o).take 512=iT x)(J:b∉S):eE S w ⟨some (dd b o),512,512⟩ x.1:=by
 refine⟨x.2.symm,zM _,.inr ⟨b,o,cs,T,h,rfl,G,J,fun i v u=>?_⟩⟩;have C:=(zP.1 u).1;rw[x.2] at C;rw[xS];have E:(iT x)[i]?=some (.b v):=(by rw[iT,zQ,u];rfl);rw[<- I,xA,if_pos C,yZ] at E;apply ext_getElem?;intro j;rw[xA,yZ];match j with
 | 0=>simpa using E
 | j+1=>simp
def qsb{K:Value->WP}(u:∀rb w',(∀S w0 L,dM S w0 w L->dM S w0 w' ((rb,.cells #[s.v] 261 (0,0))::L))->K (.func (.func 228) #[] #[dB rb]) w'): cW 187 [s.v] dq w K:=by exact qkf<|Pt.CO (u _ _ fun S w0 L h=>h.alloc _)
def qss(l:List lC)(i:Nat)(x:lC)(h:l[i]?=some x):((l.flatMap iT++Z).drop (i*512)).take 512=iT x:=by have C:=(zP.1 h).1;have u:(l.flatMap iT).length=l.length*512:=qi rT l;rw[drop_append_of_le_length (by rw[u];omega),take_append_of_le_length (by rw[yB,u];omega)];exact EM rT l i x h
def qvd{db c:Nat}{K:Sl×Int->WP}(h:vi w db F D c Z)(hD:D.Ok)(hk:∀s' B w',fO w' s' (ee D n).1 B->Fr [] w w'->(∀b∈B,w.heap.size<=b)->K (s',(ee D n).2) w'): cW 156 [dB db,.i n] dh w K:=by
 refine qkW<|oB (oE [] w) fun r1 w1 e1 f1 G=>oB G fun r3 w2 e2 f2 G=>oB G fun r5 w3 e3 f3 G=>?_;obtain⟨sb,T,ac,B,hF,hn,hc,aA,al⟩:=h;have ai:∀ {w':World},Fr [] w w'->w'.heap[db]?=some (.cells (rB D sb c ac) DT (0,0)):=fun f=>by rw[f.block db (eT hc) oL];exact hc
 have aB:∀ {w':World},Fr [] w w'->w'.heap[sb]?=some (.cells (D.Q6.flatMap iT++Z).toArray T (0,0)):=fun f=>by rw[f.block sb (eT aA) oL];exact aA
 have aC:∀ {e:Int} {w':World} {L'},ee D n=([],e)->dM [] w w' L'->L'[1]?=some (r3,.cells #[.slice none 0 0] 101 (0,0))->L'[0]?=some (r5,.cells #[.i e] 69 (0,0))->ld Cell.slice (dd r3) w' fun s=>ld .i (dd r5) w' fun x=>K (s,x) w':=by
  intro e w' L' he G h1 h0;refine oA G 1 h1 dC rfl<|oA G 0 h0 e rfl ?_
  have:=hk dC [] w' (by rw[he];exact .nil _ _ _) G.fr oL
  rw[he] at this;exact this
 refine fq (iG (ai G.fr) D.down rfl ?_);apply dR<;>intro hd;exact oH G 1 rfl _ rfl rfl rfl fun w4 G _=>oH G 0 rfl _ rfl rfl rfl fun w5 G _=>aC (by rw[ee,if_pos hd]) G rfl rfl;refine gQ (fun b w'=>b=decide (n<0\/n>=D.Q6.length)/\w'=w3.drew) ?_ ?_;refine oA G.drew 2 rfl n rfl<|dR (fun hc=>?_) (fun aT=>?_);exact⟨by rw[zZ (Or.inl (zC hc))],rfl⟩;refine oA G.drew 2 rfl n rfl<|fq (iG (ai G.drew.fr) ⟨pW sb,D.Q6.length,c⟩ rfl ⟨?_,rfl⟩)
 have:=zB aT
 by_cases h2:n>=D.Q6.length<;>simp[this,h2];rintro b w4 ⟨rfl,rfl⟩;apply cD<;>intro hr;exact oH G.drew 1 rfl _ rfl rfl rfl fun w4 G _=>oH G 0 rfl _ rfl rfl rfl fun w5 G _=>aC (by rw[ee,if_neg (oP hd),if_pos (hr)]) G rfl rfl;have aV:=hr;have aW:0<=n:=oJ;have aX:n<D.Q6.length:=oJ;have aY:=hD.Q7;have aZ:=hD.Q6;have a0:=al.len;have aG:ee D n=match iw n D.Q7 with|some b=>(b.1,0)|none=>((D.Q6.getD n.toNat .zero).1,0):=by rw[ee,if_neg (oP hd),if_neg aV]
 refine fq (iG (ai G.drew.fr) ac rfl ?_);refine qsb fun rb w5 a1=>?_;have a2:=a1 _ _ _ G.drew;refine dM.jR (lb:=[dB rb]) a2 rfl oK fun Dm l R Bz J E E0 w6 el eD bk aK hy=>qhN<|oA aK 2 rfl ac rfl ?_;rw[gc _ oJ];have aL:∀ {bl:lC} {s7:Sl} {Bf:List Nat} {ad wz:World} {aj:List (Nat×Obj)},ee D n=(bl.1,0)->dM [] w ad aj->fO ad s7 bl.1 Bf->(∀b∈Bf,w.heap.size<=b)->(∀b∈Bf,b∉aj.map (·.1))->Fr (aj.map (·.1)) ad wz->K (s7,0) wz:=by
  intro bl s7 Bf ad wz aj he a4 af U V fz
  have:=hk s7 Bf wz (by rw[he];exact af.q8 fz V) (a4.back fz) U
  rw[he] at this;exact this
 refine iV (fun x w'=>∃i:Nat,x=(i:Int)-1/\i<=D.Q7.length/\iw n (D.Q7.drop i)=none/\dM [] w w' [(l,R),(Dm,.deferred (some [])),(rb,.cells #[ac.v] 261 (0,0)),(r5,.cells #[.i 0] 69 (0,0)),(r3,.cells #[.slice none 0 0] 101 (0,0)),(r1,.cells #[.i n] 3 (0,0))]) (fun x _=>(x+1).toNat)
  ⟨D.Q7.length,by rw[a0],zM _,by rw[drop_length];rfl,aK⟩ ?_
 rintro x w7 ⟨i,rfl,hi,ak,ae⟩ X hX;apply cD<;>intro ap;have bo:=ap;obtain⟨i,rfl⟩:∃k,i=k+1:=⟨i-1,oJ⟩;have aq:i<D.Q7.length:=oJ;refine oA ae 2 rfl ac rfl ?_;have a5:dW lE 513 [] w7 ac D.Q7:=(al.q7 ae.fr).jq um oL;refine a5.gR um i oJ (zA aq)<|hy ((((i+1:Nat):Int)-1),lE D.Q7[i]) w7 _ (ae.at (i:=0) rfl) ?_;dsimp only;refine dM.ry ae oK (um _) (Ds _) fun r w8 er I=>⟨I.at (i:=1) rfl,?_⟩;have aa:=I.gL (o':=Bz) 1 rfl;refine oA aa 0 rfl D.Q7[i].1 rfl<|oA aa 6 rfl n rfl ?_;apply dR<;>intro hm;have au:D.Q7[i].1=n:=(oP hm);have av:=qpp D.Q7 i aq ak au;have ag:ee D n=(D.Q7[i].2.1,0):=(by rw[aG,av]);refine qrV oM ?_;have aw:eE [] (Pt.gL w8 l Bz) ⟨some (dd r 1),512,512⟩ D.Q7[i].2.1:=
  qqV (x:=D.Q7[i].2) (aa.at (i:=0) rfl) (by rw[show (lE D.Q7[i]).toArray.toList.drop 1=iT D.Q7[i].2 from rfl,zS (by rw[rT];exact zM _)]) oL
 refine wZ (s:=⟨some (dd r 1),512,512⟩) aw (by rw[D.Q7[i].2.2];decide) fun s7 Bf ad af ax ah _ _=>?_;have ab:=aa.q7 ax;have u:=ab.kZ;have U:∀b∈Bf,w.heap.size<=b:=fun b hb=>by have h1:(Pt.gL w8 l Bz).heap.size<=b:=ah b hb;have:=aa.fr.size;omega
 have V:∀b∈Bf,b∉[r,l,Dm,rb,r5,r3,r1]:=fun b hb hm=>by
  have h1:(Pt.gL w8 l Bz).heap.size<=b:=ah b hb;have h2:∀p∈[r,l,Dm,rb,r5,r3,r1],p<(Pt.gL w8 l Bz).heap.size:=fun p hp=>by have C:=fun (k:Nat) (q:Nat×Obj) (hq:_[k]?=some q)=>eT (aa.at (i:=k) hq);simp only[zG,xW,or_false] at hp;rcases hp with rfl|rfl|rfl|rfl|rfl|rfl|rfl;exact C 0 _ rfl;exact C 1 _ rfl;exact C 2 _ rfl;exact C 3 _ rfl;exact C 4 _ rfl;exact C 5 _ rfl;exact C 6 _ rfl
  have:=h2 b hm
  omega
 refine oH u 5 rfl _ rfl rfl rfl fun a7 u _=>oH u 4 rfl _ rfl rfl rfl fun a8 u _=>⟨u.at (i:=1) rfl,?_⟩;have u:=u.gL (o':=J 0) 1 rfl;refine cond_true rfl<|.inr ⟨0,_,rfl,u.at (i:=1) rfl,?_⟩;have u:=u.gL (o':=E 0) 1 rfl;exact dM.eI u 2 rfl fun a9 u=>oA u 5 rfl s7 rfl<|oA u 4 rfl 0 rfl<|aL ag ab af U V u.fr;have au:D.Q7[i].1≠n:=(oP hm);refine⟨aa.at (i:=1) rfl,?_⟩;have a':=aa.gL (o':=R) 1 rfl;refine cond_false rfl ?_;rw[gc _ oJ];refine hX _ _ ⟨i,oJ,oJ,quA D.Q7 i aq ak au,a'.sub (sublist_cons_self _ _)⟩ oJ;have C:=ap;obtain rfl:i=0:=by omega
 rw[xE] at ak;refine .inl ⟨ae.at (i:=0) rfl,?_⟩;have I:=(ae.gL (o':=E0) 0 rfl).drew;have ag:ee D n=((D.Q6.getD n.toNat .zero).1,0):=(by rw[aG,ak]);have aN:n.toNat<D.Q6.length:=oJ;have ba:D.Q6[n.toNat]?=some (D.Q6.getD n.toNat .zero):=(by rw[yQ,zA aN];rfl);refine fq (iG (ai I.fr) ⟨pW sb,D.Q6.length,c⟩ rfl ?_);refine oA I 5 rfl n rfl<|tY aW aX<|qrV oM ?_;have aw:eE [] (Pt.gL w7 l E0).drew ⟨some ⟨sb,0+n.toNat*512,none⟩,512,512⟩ (D.Q6.getD n.toNat .zero).1:=
  qqV (aB I.fr) (by rw[xR];exact qss D.Q6 n.toNat _ ba) oL
 refine wZ (s:=⟨some ⟨sb,0+n.toNat*512,none⟩,512,512⟩) aw (by rw[(D.Q6.getD n.toNat .zero).2];decide) fun s7 Bf ad af ax ah _ _=>?_;have ab:=I.q7 ax;have u:=ab.kZ;have U:∀b∈Bf,w.heap.size<=b:=fun b hb=>by have h1:(Pt.gL w7 l E0).drew.heap.size<=b:=ah b hb;have:=I.fr.size;omega
 have V:∀b∈Bf,b∉[l,Dm,rb,r5,r3,r1]:=fun b hb hm=>by
  have h1:(Pt.gL w7 l E0).drew.heap.size<=b:=ah b hb;have h2:∀p∈[l,Dm,rb,r5,r3,r1],p<(Pt.gL w7 l E0).drew.heap.size:=fun p hp=>by have C:=fun (k:Nat) (q:Nat×Obj) (hq:_[k]?=some q)=>eT (I.at (i:=k) hq);simp only[zG,xW,or_false] at hp;rcases hp with rfl|rfl|rfl|rfl|rfl|rfl;exact C 0 _ rfl;exact C 1 _ rfl;exact C 2 _ rfl;exact C 3 _ rfl;exact C 4 _ rfl;exact C 5 _ rfl
  have:=h2 b hm
  omega
 exact oH u 4 rfl _ rfl rfl rfl fun a7 u _=>oH u 3 rfl _ rfl rfl rfl fun a8 u _=>dM.eI u 1 rfl fun a9 u=>oA u 4 rfl s7 rfl<|oA u 3 rfl 0 rfl<|aL ag ab af U V u.fr
def BL{db:Nat}{K:Sl×Int->WP}(h:eK w db F D)(C:D.Ok)(E:∀u B w',fO w' u (ee D n).1 B->Fr [] w w'->(∀b∈B,w.heap.size<=b)->K (u,(ee D n).2) w'): cW 156 [dB db,.i n] dh w K:=qvd h.z C E
abbrev gy (n:Int):Prop:=0<=n/\n<4294967296
def CF(h:gy n)(r:List Int):fg (be n 4++r)=n:=by rw[AM h.1];exact qxc h
def qpc:∀(c:List Int) (i:Nat),(c.flatMap (be · 4)).drop (4*i)=(c.drop i).flatMap (be · 4)
 | [],i=>by simp
 | a::c,0=>by simp
 | a::c,i+1=>by rw[yG,drop_succ_cons,<- qpc c i,drop_append,jQ,vD (by rw[jQ];omega),xH];congr 1
def qxs(c:List Int):(c.flatMap (be · 4)).length=4*c.length:=by
 induction c with
 | nil=>rfl
 | cons a c ih=>rw[yG,zF,jQ,ih,yH];omega
def qlr{i:Nat}(h:i<c.length)(u:∀x∈c,gy x):fg ((c.flatMap (be · 4)).drop (4*i))=c[i]:=by rw[qpc,zX h,yG];exact CF (u _ (zW h)) _
def B0(next:Int)(c:List Int):(iA next c).length=6+4*c.length:=by rw[iA,zF,zF,jQ,qxs];rfl
def qq3(c:List Int):eB (c.flatMap (be · 4)):=by
 induction c with
 | nil=>exact fun x h=>by cases h
 | cons a c ih=>rw[yG];exact (rY _ _).append ih
def qzj(x:Int):0<=wrap .u8 x/\wrap .u8 x<256:=by rw[yy];omega
def qoU(next:Int)(c:List Int):eB (iA next c):=by refine ((rY _ _).append fun x h=>?_).append (qq3 c);simp only[zG,xW,or_false] at h;rcases h with rfl|rfl<;>exact qzj _
def qrB{next:Int}(C:gy next)(I:next≠1)(J:∀x∈c,gy x)(R:iu 1 c=true)(hl:c.length<=123):gW (iA next c)=(next,c,0):=by
 have E:=B0 next c
 have e:iA next c=be next 4++([wrap .u8 (Int.fdiv c.length (2^8)),wrap .u8 c.length]++c.flatMap (be · 4)):=by rw[iA,zV]
 have G:fg (iA next c)=next:=by rw[e];exact CF C _
 have h:kc (iA next c)=c.length:=(by have U:(iA next c).getD 4 0=wrap .u8 (Int.fdiv c.length (2^8)):=(by rw[e,AM C.1];rfl);have V:(iA next c).getD 5 0=wrap .u8 c.length:=(by rw[e,AM C.1];rfl);have hd:Int.fdiv (c.length:Int) (2^8)=0:=(by rw[Int.fdiv_eq_ediv_of_nonneg _ oM];omega);rw[kc,U,V,yy,yy,hd];omega);have u:jK (iA next c) c.length=c:=by
  apply ext_getElem;simp[jK];intro i I h2;have:(iA next c).drop (6+4*i)=(c.flatMap (be · 4)).drop (4*i):=by have h6:(iA next c).drop 6=c.flatMap (be · 4):=(by rw[e,AM C.1];rfl);rw[<- h6,xC]
  simp only[jK,getElem_map,getElem_range,this];exact qlr h2 J
 rw[gW,iN,if_neg (by rw[G,h];omega),h,zJ,u,if_pos R,G]
def vT(x:Int)(h:0<=x/\x<18446744073709551616):wrap .u64 x=x:=by unfold wrap;have:(IntKind.u64.signed)=false:=rfl;simp only[this,Bool.false_and,Bool.false_eq_true,if_false];exact Int.emod_eq_of_lt h.1 h.2
def qpA{A B:Int}(k:Nat)(G:0<=A)(C:A%2^k=0)(I:0<=B)(h:B<2^k)(J:A+B<18446744073709551616):bits .or .u64 A B=A+B:=by
 obtain⟨a,rfl⟩:∃a:Nat,A=a:=⟨A.toNat,oJ⟩;obtain⟨b,rfl⟩:∃b:Nat,B=b:=⟨B.toNat,oJ⟩;have E:a%2^k=0:=by have:((a:Int)%((2^k:Nat):Int))=0:=(by rw[Int.natCast_pow];exact C);omega
 have u:b<2^k:=(by have:(b:Int)<((2^k:Nat):Int):=(by rw[Int.natCast_pow];exact h);omega);obtain⟨q,rfl⟩:∃q,a=2^k*q:=⟨a / 2^k,by have:=Nat.div_add_mod a (2^k);omega⟩;show wrap .u64 ((BitVec.ofInt 64 ((2^k*q:Nat):Int)||| BitVec.ofInt 64 (b:Int)).toNat:Nat)=_;rw[BitVec.toNat_or,BitVec.ofInt_natCast,BitVec.ofInt_natCast,BitVec.toNat_ofNat,BitVec.toNat_ofNat,Nat.mod_eq_of_lt (show 2^k*q<2^64 by omega),Nat.mod_eq_of_lt (show b<2^64 by omega),<- Nat.two_pow_add_eq_or_of_lt u];rw[vT _ oJ];omega
abbrev nu (n:Int):Prop:=0<=n/\n<18446744073709551616
def Cx:gi q t=be (wrap .u32 (Int.fdiv q (2^32))) 4++(be (wrap .u32 q) 4++t.flatMap (be · 4)):=by rw[gi,zV]
def qi2(I:nu q):ig (gi q t)=q:=by have h:Int.fdiv q (2^32)=q / 4294967296:=(by rw[Int.fdiv_eq_ediv_of_nonneg _ oM];rfl);have u:fg (gi q t)=q / 4294967296:=(by rw[Cx,h,nD _ oJ];exact CF (by constructor<;>omega) _);have C:(gi q t).drop 4=be (wrap .u32 q) 4++t.flatMap (be · 4):=(by rw[Cx,drop_append,jQ,vD (by rw[jQ];exact zM _)];rfl);have E:wrap .u32 q=q%4294967296:=(by unfold wrap;have:(IntKind.u32.signed)=false:=rfl;simp only[this,Bool.false_and,Bool.false_eq_true,if_false];rfl);have G:fg ((gi q t).drop 4)=q%4294967296:=(by rw[C,E];exact CF (by constructor<;>omega) _);rw[ig,u,G,vT (q / 4294967296) oJ,vT (q%4294967296) oJ,vT (q / 4294967296*2^32) oJ];rw[qpA 32 oJ oJ oJ oJ oJ];omega
def qu8(q:Int)(t:List Int):eB (gi q t):=by rw[Cx];exact (rY _ _).append ((rY _ _).append (qq3 t))
def qqd(h:t.length=27)(u:∀x∈t,gy x):lg (gi q t)=t:=by
 apply ext_getElem;rw[ss,h];intro i G C;have E:(gi q t).drop 8=t.flatMap (be · 4):=by rw[Cx,<- zV,drop_append,zF,jQ,jQ,vD (by rw[zF,jQ,jQ];exact zM _)];rfl
 have:(gi q t).drop (8+4*i)=(t.flatMap (be · 4)).drop (4*i):=(by rw[<- E,xC]);simp only[lg,getElem_map,getElem_range,this];exact qlr C u
def qsJ{place:Int}(h:nu q)(u:t.length=27)(G:∀x∈t,gy x)(E:Int.tmod q 2=place):eS place (eh place 1 (gi q t))=((q,t),0):=by have C:gy place:=(by rw[<- E,Int.tmod_eq_emod_of_nonneg h.1];constructor<;>omega);have I:=EP (kind:=1) (body:=gi q t) C (by rw[xz u];decide);rw[eS,I,if_neg oL,if_neg (by simp[xz u]),if_neg (by rw[qi2 h,E];simp),qi2 h,qqd u G]
end
section
open Go Go.Pt List
open Go.IntKind (wrap)
open Classical
variable {k v:Nat}
def qxd{a b:Int}(h:eB [a,b]):be (gR [a,b]) 2=[a,b]/\gR [a,b]=a*256+b:=by
 have u:=h a oL;have C:=h b oL;have e:gR [a,b]=a*256+b:=by rw[Cb h (zO rfl)];show ((0*256+a)*256+b)=_;omega
 refine⟨?_,e⟩;rw[e,be2 oJ];congr 1;omega;congr 1;omega
structure dG where
 Q4:Bool
 J6:List Key
 Q0:List Key
 J9:List Int
variable {n:dG}
def ie:dG:=⟨false,[],[],[]⟩
def dQ (k v:Nat):Nat×Nat:=if k<1\/k>24\/v>108 then (0,0) else (498 / (k+v),(498+k) / (4+k))
def fx (n:dG) (k v:Nat):Prop:=
 (∀a∈n.J6,a.length=k)/\(∀a∈n.Q0,a.length=v)/\fE n.J6/\
 if n.Q4 then n.J9=[]/\1<=n.J6.length/\n.J6.length<=(dQ k v).1/\n.Q0.length=n.J6.length
 else (∀x∈n.J9,2<=x)/\n.Q0=[]/\2<=n.J9.length/\n.J9.length<=(dQ k v).2/\n.J6.length+1=n.J9.length
def jW (J6 Q0:List Key):List Int:=(J6.zip Q0).flatMap fun x=>x.1++x.2
def fZ (n:dG):List Int:=if n.Q4 then be n.J6.length 2++jW n.J6 n.Q0 else be n.J9.length 2++n.J9.flatMap (fun x=>be x 4)++n.J6.flatten
def iv (n:dG):Int:=if n.Q4 then 3 else 4
noncomputable def eH (n:dG) (k v:Nat):Int×List Int×Int:=if fx n k v then (iv n,fZ n,0) else (0,[],1)
def iC (k v:Nat):Nat->List Int->List Key×List Key
 | 0,_=>([],[])
 | c+1,b=>(b.take k::(iC k v c (b.drop (k+v))).1,(b.drop k).take v::(iC k v c (b.drop (k+v))).2)
def y6:Nat->List Int->List Int
 | 0,_=>[]
 | c+1,b=>gR (b.take 4)::y6 c (b.drop 4)
def kI (k:Nat):Nat->List Int->List Key
 | 0,_=>[]
 | c+1,b=>b.take k::kI k c (b.drop k)
def fv (b:List Int):Nat:=(b.getD 0 0*256+b.getD 1 0).toNat
def mj (k v:Nat) (b:List Int):dG:=⟨true,(iC k v (fv b) (b.drop 2)).1,(iC k v (fv b) (b.drop 2)).2,[]⟩
def kL (k:Nat) (b:List Int):dG:=⟨false,kI k (fv b-1) ((b.drop 2).drop (fv b*4)),[],y6 (fv b) (b.drop 2)⟩
noncomputable def io (kind:Int) (b:List Int) (k v:Nat):dG×Int:=
 if (dQ k v).1=0\/b.length<2\/b.length>500 then (ie,2)
 else if kind=3/\(b.drop 2).length=fv b*(k+v)/\fx (mj k v b) k v then (mj k v b,0)
 else if kind=4/\1<=fv b/\(b.drop 2).length=fv b*4+(fv b-1)*k/\fx (kL k b) k v then (kL k b,0)
 else (ie,2)
def qrL{kind:Int}{b:List Int}(h:(io kind b k v).2=0):fx (io kind b k v).1 k v:=by unfold io at h⊢;split at h;cases h;rename_i E;rw[if_neg E];split at h;rename_i u;rw[if_pos u];exact u.2.2;rename_i u;rw[if_neg u];split at h;rename_i C;rw[if_pos C];exact C.2.2.2;cases h
def E6{k v:Nat}:∀ {J6 Q0:List Key},(∀a∈J6,a.length=k)->(∀a∈Q0,a.length=v)->J6.length=Q0.length->(jW J6 Q0).length=J6.length*(k+v)
 | [],[],_,_,_=>by simp[jW]
 | a::r,b::s,C,E,G=>by
  have:=E6 (J6:=r) (Q0:=s) (fun x u=>C x (zN _ u)) (fun x u=>E x (zN _ u)) (oP G)
  unfold jW at this⊢;rw[zip_cons_cons,yG,zF,zF,C a oL,E b oL,this,yH,xT];omega
 | [],_::_,_,_,h=>by simp at h
 | _::_,[],_,_,h=>by simp at h
def qtu{k v:Nat}:∀ {J6 Q0:List Key},(∀a∈J6,a.length=k)->(∀a∈Q0,a.length=v)->J6.length=Q0.length->iC k v J6.length (jW J6 Q0)=(J6,Q0)
 | [],[],_,_,_=>rfl
 | a::r,b::s,C,E,R=>by have ih:=qtu (k:=k) (v:=v) (J6:=r) (Q0:=s) (fun x u=>C x (zN _ u)) (fun x u=>E x (zN _ u)) (oP R);have G:=C a oL;have I:=E b oL;have e:jW (a::r) (b::s)=a++(b++jW r s):=(by unfold jW;rw[zip_cons_cons,yG,zV]);rw[yH,iC,e];have e1:(a++(b++jW r s)).take k=a:=(by rw[<- G,take_left'];rfl);have J:(a++(b++jW r s)).drop k=b++jW r s:=(by rw[<- G,drop_left'];rfl);have U:(a++(b++jW r s)).drop (k+v)=jW r s:=(by rw[<- xC,J,<- I,drop_left'];rfl);have V:(b++jW r s).take v=b:=(by rw[<- I,take_left'];rfl);rw[U,ih,e1,J,V]
 | [],_::_,_,_,h=>by simp at h
 | _::_,[],_,_,h=>by simp at h
def qtq{r:List Int}:∀ {l:List Int},(∀x∈l,0<=x/\x<4294967296)->y6 l.length (l.flatMap (fun x=>be x 4)++r)=l
 | [],_=>rfl
 | a::l,h=>by have ih:=qtq (r:=r) (l:=l) fun x C=>h x (zN _ C);have u:=jQ a 4;rw[yH,y6,yG,zV];generalize l.flatMap (fun x=>be x 4)++r=R at ih⊢;have e1:(be a 4++R).take 4=be a 4:=take_left' u;have E:(be a 4++R).drop 4=R:=drop_left' u;rw[e1,E,ih,Dh (h a oL)]
def qtp{k:Nat}:∀ {l:List Key},(∀a∈l,a.length=k)->kI k l.length l.flatten=l
 | [],_=>rfl
 | a::l,h=>by have ih:=qtp (k:=k) (l:=l) fun x C=>h x (zN _ C);have u:=h a oL;rw[yH,kI,flatten_cons];have e1:(a++l.flatten).take k=a:=(by rw[<- u];exact take_left);have E:(a++l.flatten).drop k=l.flatten:=(by rw[<- u];exact drop_left);rw[e1,E,ih]
def EG(l:List Int):(l.flatMap fun x=>be x 4).length=l.length*4:=by
 induction l with
 | nil=>rfl
 | cons a l ih=>rw[yG,zF,ih,jQ,yH];omega
def Di{k:Nat}:∀ {l:List Key},(∀a∈l,a.length=k)->l.flatten.length=l.length*k
 | [],_=>by simp
 | a::l,h=>by rw[flatten_cons,zF,Di fun x u=>h x (zN _ u),h a oL,yH,xT];omega
def qoW{n:Nat}(h:n<65536)(r:List Int):fv (be (n:Int) 2++r)=n:=by
 have E:=jQ (n:Int) 2;obtain⟨a,b,e⟩:∃a b,be (n:Int) 2=[a,b]:=by
  match be (n:Int) 2,E with
  | [a,b],_=>exact⟨a,b,rfl⟩
 have u:=rY (n:Int) 2;have C:=qra (n:=(n:Int)) ⟨oJ,oJ⟩;rw[e] at u C
 have:=(qxd u).2
 rw[C] at this;unfold fv;rw[e];show (a*256+b).toNat=n;omega
def qtb{n:Int}{r:List Int}:(be n 2++r).drop 2=r:=by
 have:=drop_left (l₁:=be n 2) (l₂:=r)
 rw[jQ] at this;exact this
def qln(a b:Nat):a / b*b<=a:=Nat.div_mul_le_self a b
def qvs{c:Nat}(h:c<=(dQ k v).1):c*(k+v)<=498:=by unfold dQ at h;split at h;rw[show c=0 from Nat.le_zero.1 h];omega;exact zL (Nat.mul_le_mul_right _ h) (qln _ _)
def quk{c:Nat}(h:c<=(dQ k v).2):c*4+(c-1)*k<=498:=by
 unfold dQ at h;split at h;rw[show c=0 from Nat.le_zero.1 h];omega;have u:c*(4+k)<=498+k:=zL (Nat.mul_le_mul_right _ h) (qln _ _);cases c with
 | zero=>omega
 | succ c=>
  rw[Nat.add_sub_cancel];rw[xT,Nat.mul_add] at u;rw[xT];omega
def AF:(dQ k v).1<=498/\(dQ k v).2<=498:=by unfold dQ;split;exact⟨oM,oM⟩;exact⟨Nat.div_le_self _ _,Nat.div_le_of_le_mul (by have:(498+k)<=(4+k)*498:=(by rw[xT];omega);exact this)⟩
def Co(h:fx n k v):2<=(fZ n).length/\(fZ n).length<=500:=by
 obtain⟨C,G,I,u⟩:=h;unfold fZ;cases E:n.Q4 with
 | true=>
  rw[E,if_pos rfl] at u;rw[if_pos rfl,zF,jQ,E6 C G u.2.2.2.symm]
  have:=qvs u.2.2.1
  omega
 | false=>
  rw[E,if_neg oM] at u;rw[if_neg oM,zF,zF,jQ,EG,Di C]
  have:=quk u.2.2.2.1
  have e:n.J6.length=n.J9.length-1:=oJ;rw[e];omega
def qrt:(⟨n.Q4,n.J6,n.Q0,n.J9⟩:dG)=n:=rfl
def quU(h:fx n k v)(hk:∀x∈n.J9,x<4294967296):io (iv n) (fZ n) k v=(n,0):=by
 have V:=Co h;have h0:=h;obtain⟨R,h2,h3,G⟩:=h;have af:=(AF (k:=k) (v:=v));unfold io;cases E:n.Q4 with
 | true=>
  rw[E,if_pos rfl] at G;have u:fv (fZ n)=n.J6.length:=(by unfold fZ;rw[E,if_pos rfl];exact qoW oJ _);have C:(fZ n).drop 2=jW n.J6 n.Q0:=(by unfold fZ;rw[E,if_pos rfl];exact qtb);have I:mj k v (fZ n)=n:=by unfold mj;rw[u,C,qtu R h2 G.2.2.2.symm];rw[<- qrt (n:=n),E,G.1]
  rw[iN,if_pos ⟨by unfold iv;rw[E];rfl,by rw[u,C,E6 R h2 G.2.2.2.symm],by rw[I];exact h0⟩,I]
 | false=>
  rw[E,if_neg oM] at G;have hb:fZ n=be n.J9.length 2++(n.J9.flatMap (fun x=>be x 4)++n.J6.flatten):=(by unfold fZ;rw[E,if_neg oM,zV]);have u:fv (fZ n)=n.J9.length:=(by rw[hb];exact qoW oJ _);have C:(fZ n).drop 2=n.J9.flatMap (fun x=>be x 4)++n.J6.flatten:=(by rw[hb];exact qtb);have J:n.J6.length=n.J9.length-1:=oJ;have I:kL k (fZ n)=n:=by unfold kL;have e:(n.J9.flatMap (fun x=>be x 4)++n.J6.flatten).drop (n.J9.length*4)=n.J6.flatten:=(by rw[<- EG];exact drop_left);rw[u,C,qtq fun x hx=>⟨by have:=G.1 x hx;omega,hk x hx⟩,e,<- J,qtp R];rw[<- qrt (n:=n),E,G.2.1]
  have ag:1<=(dQ k v).1:=(by have U:=G.2.2.2.1;have h6:=G.2.2.1;unfold dQ at U⊢;by_cases hc:k<1\/k>24\/v>108;rw[if_pos hc] at U;have h8:n.J9.length<=0:=U;omega;rw[if_neg hc];have h7:k+v<=498:=oJ;exact (Nat.le_div_iff_mul_le (show 0<k+v by omega)).2 (by rw[Nat.one_mul];exact h7));rw[iN,if_neg (fun h=>by unfold iv at h;rw[E] at h;exact absurd h.1 oM),if_pos ⟨by unfold iv;rw[E];rfl,by rw[u];omega,by rw[u,C,zF,EG,Di R,J],by rw[I];exact h0⟩,I]
def eB.flat{l:List Key}(h:∀a∈l,eB a):eB l.flatten:=fun x u=>by obtain⟨a,C,u⟩:=mem_flatten.1 u;exact h a C x u
def qoT(u:∀a∈n.J6,eB a)(E:∀a∈n.Q0,eB a):eB (fZ n):=by unfold fZ;split;refine (rY _ _).append fun x h=>?_;obtain⟨y,G,h⟩:=yJ.1 h;have C:=of_mem_zip (a:=y.1) (b:=y.2) G;rcases zD.1 h with h|h;exact u _ C.1 x h;exact E _ C.2 x h;refine ((rY _ _).append fun x h=>?_).append (eB.flat u);obtain⟨y,_,h⟩:=yJ.1 h;exact rY _ _ x h
def bw:Nat->Int->List Int
 | 0,_=>[]
 | k+1,n=>bw k (n / 256)++[n%256]
def kY:∀(k:Nat) (n:Int),(bw k n).length=k
 | 0,_=>rfl
 | k+1,n=>by rw[bw,zF,kY k];rfl
def pf:∀(k:Nat) (n:Int),eB (bw k n)
 | 0,_=>fun _ h=>nomatch h
 | k+1,n=>fun x u=>(zD.1 u).elim (pf k _ x) fun h=>by rw[zE.1 h];omega
def qqJ(l:List Int)(x:Int):nV (l++[x])=nV l*256+x:=by unfold nV;rw[foldl_append];rfl
def uZ:∀(k:Nat) {n:Int},0<=n->n<256^k->nV (bw k n)=n
 | 0,n,u,h=>by have:n<1:=h;show (0:Int)=n;omega
 | k+1,n,u,h=>by rw[Int.pow_succ] at h;rw[bw,qqJ,uZ k oJ oJ];omega
def BH{a b:Int}(u:0<=a/\a<256^k)(C:0<=b/\b<256^k)(h:bw k a=bw k b):a=b:=by rw[<- uZ k u.1 u.2,h,uZ k C.1 C.2]
def quq(l:List Int):∀(r:Int),l.foldl (fun r x=>r*256+x) r=r*256^l.length+nV l:=by
 unfold nV;induction l with
 | nil=>intro r;simp
 | cons x l ih=>
  intro r;rw[foldl_cons,foldl_cons,ih,ih (0*256+x),yH,Int.pow_succ];have:(r*256+x)*256^l.length=r*(256^l.length*256)+x*256^l.length:=(by rw[Int.add_mul,Int.mul_assoc,Int.mul_comm 256]);rw[this];simp;omega
def Eb(x:Int)(l:List Int):nV (x::l)=x*256^l.length+nV l:=by
 have:=quq l (0*256+x)
 rw[show (0*256+x)=x by omega] at this;unfold nV;rw[foldl_cons,show (0*256+x:Int)=x by omega,this];rfl
def C6:∀ {l:List Int},eB l->0<=nV l/\nV l<256^l.length
 | [],_=>⟨oM,oM⟩
 | x::l,h=>by have ih:=C6 fun y u=>h y (zN x u);have C:=h x oL;rw[Eb,yH,Int.pow_succ];generalize (256:Int)^l.length=c at ih;have E:x*c<=255*c:=Int.mul_le_mul_of_nonneg_right oJ oJ;have G:0<=x*c:=Int.mul_nonneg oJ oJ;omega
def qs9:∀ {a b:List Int},eB a->eB b->a.length=b.length->(cmpL a b<0↔nV a<nV b)
 | [],[],_,_,_=>by show (0:Int)<0↔_;exact .rfl
 | [],_::_,_,_,h=>by simp at h
 | _::_,[],_,_,h=>by simp at h
 | x::a,y::b,E,G,h=>by have C:a.length=b.length:=(oP h);have ih:=qs9 (fun z u=>E z (zN _ u)) (fun z u=>G z (zN _ u)) C;have pa:=C6 fun z u=>E z (zN _ u);have pb:=C6 fun z u=>G z (zN _ u);rw[Eb,Eb,C];rw[C] at pa;generalize (256:Int)^b.length=c at pa pb;unfold cmpL;by_cases h1:x<y;rw[if_pos h1];have:(x+1)*c<=y*c:=Int.mul_le_mul_of_nonneg_right oJ oJ;rw[Int.add_mul,Int.one_mul] at this;exact⟨fun _=>oJ,fun _=>oM⟩;rw[if_neg h1];by_cases h2:y<x;rw[if_pos h2];have:(y+1)*c<=x*c:=Int.mul_le_mul_of_nonneg_right oJ oJ;rw[Int.add_mul,Int.one_mul] at this;exact⟨fun h=>absurd h oM,fun h=>oJ⟩;rw[if_neg h2,ih];have:x=y:=oJ;subst this;omega
def qs8:∀ {a b c d:List Int},a.length=b.length->cmpL (a++c) (b++d)=if a=b then cmpL c d else cmpL a b
 | [],[],_,_,_=>by rw[if_pos rfl];rfl
 | [],_::_,_,_,h=>by simp at h
 | _::_,[],_,_,h=>by simp at h
 | x::a,y::b,c,d,h=>by have ih:=qs8 (a:=a) (b:=b) (c:=c) (d:=d) (oP h);rw[show cmpL (x::a++c) (y::b++d)=if x<y then -1 else if y<x then 1 else cmpL (a++c) (b++d) from rfl,show cmpL (x::a) (y::b)=if x<y then -1 else if y<x then 1 else cmpL a b from rfl];by_cases h1:x<y;rw[if_pos h1,if_pos h1,if_neg (fun e=>by have:=(vB e).1;omega)];rw[if_neg h1,if_neg h1];by_cases h2:y<x;rw[if_pos h2,if_pos h2,if_neg (fun e=>by have:=(vB e).1;omega)];have:x=y:=oJ;subst this;rw[if_neg h2,if_neg h2,ih];by_cases e:a=b;rw[if_pos e,if_pos (by rw[e])];rw[if_neg e,if_neg (fun h=>e (vB h).2)]
abbrev jc:=Int×Int
def wg (a:jc):Prop:=nu a.1/\nu a.2
def i3 (a:jc):List Int:=bw 8 a.1++bw 8 a.2
def m8(a:jc):(i3 a).length=16:=by rw[i3,zF,kY,kY]
def oz(a:jc):eB (i3 a):=fun x h=>(zD.1 h).elim (pf _ _ x) (pf _ _ x)
def p8:(256:Int)^8=18446744073709551616:=by decide
def DP{a b:jc}(u:wg a)(C:wg b)(h:i3 a=i3 b):a=b:=by obtain⟨E,G⟩:=append_inj h (by rw[kY,kY]);exact Prod.ext (BH (by rw[p8];exact u.1) (by rw[p8];exact C.1) E) (BH (by rw[p8];exact u.2) (by rw[p8];exact C.2) G)
def kF (a:jc) (n:Int):List Int:=i3 a++bw 8 n
def ky (n m:Int):List Int:=bw 8 n++bw 8 m
def Ef(a:jc)(n:Int):(kF a n).length=24:=by rw[kF,zF,m8,kY]
def wn(n m:Int):(ky n m).length=16:=by rw[ky,zF,kY,kY]
def Fq(a:jc)(n:Int):eB (kF a n):=fun x h=>(zD.1 h).elim (oz _ x) (pf _ _ x)
def Df(n m:Int):eB (ky n m):=oz (n,m)
def qwk{a b:jc}{n m:Int}(u:wg a)(C:wg b)(E:nu n)(G:nu m)(h:kF a n=kF b m):a=b/\n=m:=by obtain⟨I,J⟩:=append_inj h (by rw[m8,m8]);exact⟨DP u C I,BH (by rw[p8];exact E) (by rw[p8];exact G) J⟩
def qvu{n m:Int}(h:nu n)(u:nu m):cmpL (bw 8 n) (bw 8 m)<0↔n<m:=by rw[qs9 (pf _ _) (pf _ _) (by rw[kY,kY]),uZ 8 h.1 (by rw[p8];exact h.2),uZ 8 u.1 (by rw[p8];exact u.2)]
end
section
open Go Go.Pt List
open Go.IntKind (wrap)
open Classical
end
section
open Go.ChangeShapes Go.WideShapes Go.ChangeAt Go.RowKit Go.Pt
def qz3:ownKnob prog.godebug=none:=by kernel_rfl
def qv8:laidOutB prog=true:=by kernel_rfl
abbrev qj:List (String×DataW Unit):=[("cashbook/crc.halves",Rows.laid_cashbook_crc_halves)]
def qtj:prog.globalNamed "cashbook/crc.halves"=some HG:=by kernel_rfl
def qyE:(prog.globals[HG]?).map (·.type)=some 373:=by kernel_rfl
def qyF:prog.underlying 373=some (.array 16 63):=by kernel_rfl
def qxv:prog.underlying 63=some (.int .u32):=by kernel_rfl
set_option maxRecDepth 100000 in
def qxn(h:Os)(args:Array Value):laidMetH prog qj ((World.doorLaid prog 4000 h).forCall (fun _ _=>0) ⟨#[],args,[]⟩).memory:=
 laidMetH_of_parts3 (fuel:=8) (laidMet_of_run' 8 oK oK) oK oK
def quu{W:World}(h:laidMetH prog qj W):Hv W:=by
 rw[MakeChecks.laidMetH_plain _ _ _ oK] at h;obtain⟨ps,⟨g0,t0,cs0,f0,p0,q0,hg0,ht0,hv0,hd0,_,_⟩,_,_⟩:=h;obtain rfl:=yN (qtj.symm.trans hg0);obtain rfl:=yN (qyE.symm.trans ht0);obtain⟨xs,m1,rfl,hx1,hlen,hn3,hel⟩:=DataW.trod_array qyF hd0;simp only[Prod.mk.injEq] at hx1;have hx:=hx1.1;unfold Rows.laid_cashbook_crc_halves at hx;rw[DataW.agg.injEq] at hx;have c31:prog.cellsOf 63=1:=oK;have hcl:prog.cellsOf 373=16:=oK;have hb:∃T fr,W.heap[HG]?=some (.cells cs0 T fr):=by unfold World.var? at hv0;rw[qtj,Option.bind_some] at hv0;split at hv0;rename_i cs T fr hb;cases hv0;exact⟨T,fr,hb⟩;cases hv0
 obtain⟨T,fr,hb⟩:=hb;have key:∀(i:Nat) (n:Int),(xs.map (·.1))[i]?=some (DataW.lit (.int .u32 n))->cs0.toList[i]?=some (.int .u32 n):=by
  intro i n hi;rw[zQ] at hi;obtain⟨y,hy,hyn⟩:=yS.1 hi;have hil:i<xs.length:=(zP.1 hy).1;have h1:=hel i oJ;rw[c31] at h1;rw[hy] at h1;obtain⟨k,e1,e2,_⟩:=DataW.trod_int qxv h1;rw[e2] at hyn;have hk:k=n:=(oP hyn);subst hk
  have:=congrArg (·[0]?) e1
  simpa using this
 refine⟨T,fr,?_⟩;rw[hb];refine congrArg (fun c=>some (Obj.cells c T fr)) ?_;apply Array.ext';apply List.ext_getElem?;intro i;have hsz:cs0.toList.length=16:=hlen.trans hcl;have hx':xs.map (·.1)=kB.map (fun n=>DataW.lit (.int .u32 n)):=hx.symm;by_cases hi:i<kB.length;have h1:=key i kB[i] (by rw[hx',zQ,zA hi];rfl);rw[h1];show _=(kB.map (Value.int .u32))[i]?;rw[zQ,zA hi];rfl;have h16:kB.length=16:=rfl;rw[yR oJ];exact (yR (by rw[zK];omega)).symm
def qyd{x:Int}(h:IntKind.u8.has x):0<=x/\x<256:=by have u:(0:Int)<=x/\x<=255:=h;omega
end
section
open Go Go.Pt Go.Sort List
attribute [local irreducible] ld dJ iH mZ i7 fi st new idx i8 jr fB js iY lV gT nn call dV inv run fc iM join loop held ext jR eI mH mz mI IntKind.wrap
def FN(l:List Int):l.flatMap ik=l.map (Value.int .u32):=by
 induction l with
 | nil=>rfl
 | cons a l ih=>rw[yG,ih];rfl
def qqF{w:World}{s:Sl}{l:List Int}{B:List Nat}{K:Unit->WP}(h:kQ w s l B)(hl:l.length<=1000000)(hk:∀I w',kQ w' s I B->I.Perm l->I.Pairwise (·<=·)->Fr B w w'->K () w'): cW 148 [s.v] [] w K:=by
 rcases h with ⟨rfl,rfl,rfl⟩|⟨b,o,C,T,rfl,rfl,ha,hb,h1,h2,h3,J⟩;exact qqG (hk [] w (.nil _ _ _) (.refl _) .nil (.refl _ _));obtain⟨a,len,cap⟩:=s;simp only at ha h1 h2 h3 J;subst ha h1;rw[xE,xS,FN] at J;rw[xR,xS] at h3;have R:C=gY l.toArray++(C.toList.drop l.length).toArray:=by apply Array.ext';rw[Array.toList_append,gY,Array.toList_map,<- J,xD]
 have E:gB b ⟨T,some (C.toList.drop l.length).toArray⟩ w w l.toArray:=⟨.refl _ _,by rw[hb];show _=some (Obj.cells (gY l.toArray++(C.toList.drop l.length).toArray) T (0,0));rw[<- R]⟩;refine qsX (len:=l.length) E ⟨oL,oJ⟩ fun u w' s1 s2 s3=>?_;have G:u.size=l.length:=(by have:=s1.1;simpa using this);have hp:u.toList.Perm l:=by
  have:=AS s1
  rw[zS (by rw[Array.length_toList];omega)] at this;simpa using this
 have U:u.toList.length=l.length:=(by rw[<- G];rfl);have am:C.toList.length=C.size:=rfl;refine hk u.toList w' (.inr ⟨b,0,_,T,rfl,rfl,rfl,s3.eA,?_,?_,?_,?_⟩) hp ?_ s3.fr;show l.length=u.toList.length;exact U.symm;exact h2;show 0+cap*1<=(gY u++(C.toList.drop l.length).toArray).size;have e:(C.toList.drop l.length).toArray.size=C.size-l.length:=oL;rw[Array.size_append,xw,e,G];omega;show ((gY u++(C.toList.drop l.length).toArray).toList.drop 0).take _=_;rw[xE,xS,Array.toList_append,gY,Array.toList_map,take_append_of_le_length (by rw[zK];exact zM _),zS (by rw[zK];exact zM _),FN];rw[pairwise_iff_getElem];intro i j V hj ab;have V:i<u.size:=V;have hj:j<u.size:=hj
 have:=s2 i j (yW _) ab oJ
 rw[getElem!_pos u i V,getElem!_pos u j hj] at this;simp[ltInt] at this;simpa using this
def qqv{w:World}{mb:Nat}{f:List (Int×Value)}{K:Sl->WP}(R:iR jd w mb f)(U:f.length<=100000)(V:∀u B h w',kQ w' u h B->h.Perm (f.map (·.1))->h.Pairwise (·<=·)->Fr [] w w'->(∀b∈B,w.heap.size<=b)->K u w'): cW 180 [.map (some mb)] dq w fun v w'=> cW 179 [v] de w' fun s w'=>K s w':=by refine qro<|oB (oE [] w) fun rk w1 e1 C ho=>qmC<|qk6<|qp1 (R.q8 C oL) (ho.at (i:=0) rfl) U fun u B h w2 b2 G f2 I=>?_;have hl:h.length=f.length:=(by have:=G.length_eq;simpa using this);refine qqF b2 oJ fun l2 w3 b3 p3 s3 f3=>?_;have J:=C.size;exact V u B l2 w3 b3 (p3.trans G) s3 ((C.trans f2).j8 f3 fun b E=>.inr (zL J (I b E))) fun b E=>zL J (I b E)
section
variable {w:World} {X:List Nat} {pb:Nat} {db:Option Addr} {F:List Nat} {M:dU}
def qvg{K:Sl->WP}(h:en w X pb db F M)(E:M.J8.length<=100000)(G:∀s B l w',kQ w' s l B->l.Perm (M.J8.map (·.1))->l.Pairwise (·<=·)->Fr [] w w'->(∀b∈B,w.heap.size<=b)->K s w'): cW 149 [dB pb] de w K:=by obtain⟨fb,defb,mb,sl,sn,J,F2,I,rfl,u⟩:=h;refine qit<|fq ?_;simp only[Addr.q9];refine iG u.cell (some mb) (rK u.Q8) ?_;have C:I.length<=100000:=(by rw[u.J8] at E;simpa using E);refine qqv u.map (oP C) fun s B l w' b p o f n=>G s B l w' b ?_ o f n;rw[u.J8];simpa[Function.comp_def] using p
end
end
section
open Go Go.Pt List
open Go.IntKind (wrap)
attribute [local irreducible] ld dJ iH mZ i7 fi st new idx i8 jr fB js iY lV gT nn call dV inv run fc iM join loop held ext jR eI mH mz mI IntKind.wrap
variable {Q2:List Int} {m:Option Nat} {offs:Array (Nat×Nat)} {parts:List (Nat×Value)}
def sX{A X Y Z:List Value}(h:X.length=Y.length):dN (A++X++Z).toArray A.length Y=(A++Y++Z).toArray:=by apply Array.ext';rw[px _ _ _ (by rw[size_toArray];simp only[zF];omega)];exact DG A X Y Z h
def qT{cells:Array Value}{i o s:Nat}{v:Value}{u:List (Nat×Value)}(h:offs[i]?=some (o,s))(C:v.cells.size=s)(G:o+s<=cells.size): Instr.fill (offs[·]?) cells ((i,v)::u)=Instr.fill (offs[·]?) (dN cells o v.cells.toList) u:=by have E:=CC o v.cells cells;simp only[Instr.fill,h];rw[if_neg (by simp[C];omega),E]
def Aq{P:Program}{t:TypeId}{z:Value}{cs:Array Value}(u:(P.info? t).bind (·.zero)=some z)(C:P.underlying t=some (.struct (fieldsOf P t)))(h:∀w,((fieldsOf P t).mapM fun f=>do pure (f.offset,<- sizeOf f.type):Sem (Array (Nat×Nat))).run P w=.ok offs w)(E:Instr.fill (offs[·]?) z.cells parts=some cs)(w:World):(Instr.build t parts.toArray).run P w=.ok (.agg cs) w:=by simp only[Instr.build,Sem.run_bind,ui u,Result.andThen_ok,run_underlying C,h,E,Sem.run_pure]
abbrev FZ:TypeId:=189
def gP (x y:Option Addr) (m:Option Nat) (Q2:List Int):List Value:=[.pointer x,.pointer y,.map m]++Q2.map (Value.int .u32)
def vR{x y:Option Addr}(h:Q2.length=24):(gP x y m Q2).length=27:=by simp[gP,h]
def qz8:(prog.info? FZ).bind (·.zero)=some (.agg (gP none none none (zs 24)).toArray):=by kernel_rfl
def qui{x y:Option Addr}(h:Q2.length=24)(w:World): (Instr.build FZ #[(0,.pointer x),(1,.pointer y),(2,.map m),(3,.agg (Q2.map (Value.int .u32)).toArray)]).run prog w=.ok (.agg (gP x y m Q2).toArray) w:=by refine Aq (parts:=[(0,.pointer x),(1,.pointer y),(2,.map m),(3,.agg (Q2.map (Value.int .u32)).toArray)]) (offs:=#[(0,1),(1,1),(2,1),(3,24)]) qz8 oK (fun w=>oK) ?_ w;have u:(Value.agg (Q2.map (Value.int .u32)).toArray).cells.size=24:=(by show (Q2.map (Value.int .u32)).toArray.size=24;simp[h]);rw[qT (o:=0) (s:=1) rfl rfl (zO rfl),qT (o:=1) (s:=1) rfl rfl (zO rfl),qT (o:=2) (s:=1) rfl rfl (zO rfl),qT (o:=3) (s:=24) rfl u (zO rfl)];show some _=_;congr 1;exact sX (A:=[.pointer x,.pointer y,.map m]) (X:=(zs 24).map (Value.int .u32)) (Z:=[]) (Y:=Q2.map (Value.int .u32)) (by simp[h,oT]) |>.trans (by rw[xG];rfl)
def eX (db:Option Addr) (j9:m7) (sl sn:Sl) (x6:Int) (Q3:Bool) (wk:List Value):Array Value:=
 ((Value.pointer db::eN j9.1 j9.2)++([sl.v,sn.v,.i x6,.bool Q3]:List Value)++wk).toArray
def EU{db:Option Addr}{j9:m7}{sl sn:Sl}{x6:Int}{Q3:Bool}{fb defb mb:Nat}: eX db j9 sl sn x6 Q3 (gP (pW fb) (pW defb) (some mb) Q2)=fH db j9 sl sn x6 Q3 fb defb mb Q2:=by simp[eX,fH,mD,gP]
section
variable {db:Option Addr} {j9:m7} {sl sn:Sl} {x6:Int} {Q3:Bool} {wk:List Value}
def tH(h:j9.2.length=27):(eX db j9 sl sn x6 Q3 wk).size=33+wk.length:=by rw[eX,size_toArray,zF,zF,rH h];rfl
def uY(u:j9.2.length=27)(j:Nat)(h:j<4):(eX db j9 sl sn x6 Q3 wk)[29+j]?=([sl.v,sn.v,.i x6,.bool Q3]:List Value)[j]?:=by rw[eX,List.getElem?_toArray,zV,yX (by rw[rH u];omega),rH u,vC,yY (by exact h)]
def qz5:(eX db j9 sl sn x6 Q3 wk)[0]?=some (.pointer db):=rfl
def Cq(C:j9.2.length=27)(n:Nat)(h:n<27):(eX db j9 sl sn x6 Q3 wk)[n+2]?=some (.u (j9.2.getD n 0)):=by
 rw[eX,List.getElem?_toArray,zV,yY (by rw[rH C];omega),List.getElem?_cons_succ]
 have:=A2 (q:=j9.1) (t:=j9.2) n oJ
 rw[List.getElem?_toArray] at this;exact this
def EC(h:j9.2.length=27):((eX db j9 sl sn x6 Q3 wk).toList.drop 5).take 24=(j9.2.drop 3).map (Value.int .u32):=by have u:((j9.2.drop 3).map (Value.int .u32)).length=24:=(by rw[zK,yB,h]);have e:(eX db j9 sl sn x6 Q3 wk).toList.drop 5=(j9.2.drop 3).map (Value.int .u32)++([sl.v,sn.v,.i x6,.bool Q3]++wk):=(by show List.drop 3 ((j9.2.map (Value.int .u32))++[_,_,_,_]++wk)=_;rw[zV,drop_append_of_le_length (by rw[zK,h];decide),xP]);rw[e,take_append_of_le_length (Nat.le_of_eq u.symm),zS (Nat.le_of_eq u)]
def qxP(C:j9.2.length=27){u:Int}:dN (eX db j9 sl sn x6 Q3 wk) 31 [.i u]=eX db j9 sl sn u Q3 wk:=by
 have h:((Value.pointer db::eN j9.1 j9.2)++([sl.v,sn.v]:List Value)).length=31:=by rw[zF,rH C];rfl
 have:=sX (A:=(Value.pointer db::eN j9.1 j9.2)++([sl.v,sn.v]:List Value)) (X:=[.i x6]) (Y:=[.i u]) (Z:=.bool Q3::wk) rfl
 rw[h] at this;simpa[eX] using this
def qxQ(C:j9.2.length=27){u:List Value}(E:wk.length=u.length):dN (eX db j9 sl sn x6 Q3 wk) 33 u=eX db j9 sl sn x6 Q3 u:=by
 have h:((Value.pointer db::eN j9.1 j9.2)++([sl.v,sn.v,.i x6,.bool Q3]:List Value)).length=33:=by rw[zF,rH C];rfl
 have:=sX (A:=(Value.pointer db::eN j9.1 j9.2)++([sl.v,sn.v,.i x6,.bool Q3]:List Value)) (X:=wk) (Y:=u) (Z:=[]) E
 rw[h,xG,xG] at this;exact this
end
end
end Go.Proofs.YtpcmehldpoljfaaGreatDoor
