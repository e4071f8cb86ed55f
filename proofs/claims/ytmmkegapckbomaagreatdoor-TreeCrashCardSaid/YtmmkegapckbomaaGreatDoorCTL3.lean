/- Texts SrtC, SrtD, SrtE, SrtF, SrtG, SrtH, PlE, RfA, PlF, PgA, PgB, PgC, PgD, TrA, ReA, FlA, FlB, FlC, SuA, SuB, SuC, PrA, PrB, PrC, PrD, PrE, DkA, DkB, DkC, DkD, FlD, PgE, TrB, LwL, PrF, PrG, PmA, PrH: contracts of the program's functions, one behind the other. Conditions: those that stand in each line. -/
import Derived.Test.YtmmkegapckbomaaGreatDoorCTL2
import Derived.Sort.LotC
import Derived.Sort.LotA
import Derived.Sort.LotD1
import Derived.Laws.Bits64b
import Derived.Laws.Closers25b
import Derived.KernelRfl
import Derived.Sort.LotD2
import Derived.Sort.LotB
import Derived.Sort.LotD3
import Derived.Test.YtmmkegapckbomaaGreatDoorCTL1
import Derived.Shelf.Bytes.SlCountOne
import Derived.Laws.CopyRow
import Derived.Laws.IdiomCopy
import Derived.Test.YtmmkegapckbomaaGreatDoorTie
import Derived.LaidMore
import Derived.MakeChecks
import Derived.OpenShut
import Derived.ProofKit
set_option linter.unusedVariables false
set_option linter.unusedSimpArgs false
namespace Go.Proofs.YtmmkegapckbomaaGreatDoor
open Go.Proofs.Tryz (prog)
section
open Go Go.Pt Go.Sort List
attribute [local irreducible] ld ldA ldV fld fldA newZ st new idx idxS idxA slc slcS slcP mkS chk nn call callV inv run runQ runU join loop held ext rng undefer s2a nxt ent IntKind.wrap
variable {F:List Nat} {K:Int->WP} {a b n:Nat} {d:Array Int} {l:List Int} {p:Int->Bool} {t:Int->World->(Bool->WP)->Prop} {w:World}
section
variable {blk:Nat} {T:ArrT} {w0 w:World} {d:Array Int} {len cap:Nat}
theorem qgC{J i0:Nat}{E:Int->WP}(h:Arr blk T w0 w d)(hJ:J<=1152921504606846976)(hi0:i0<=J+2)(hT:∀(x:Nat) w Y,i0<=x->Arr blk T w0 w d->(∀w',Arr blk T w0 w' d->Y (decide (x<=J)&&p d[x]!) w')->t x w Y)(hE:∀w',Arr blk T w0 w' d->E (scanUp p d J i0:Nat) w'): loop Int (fun X x w=>join Bool (fun Y=>t x w Y) fun b w'=>bif b then X (IntKind.i64.wrap (x+1)) w' else E x w') i0 w:=by refine qah (fun x w'=>∃i:Nat,x=i/\i0<=i/\i<=J+2/\Arr blk T w0 w' d/\scanUp p d J i=scanUp p d J i0) (fun x _=>((J:Int)+2-x).toNat) ⟨i0,rfl,zM _,hi0,h,rfl⟩ ?_;rintro x w1 ⟨i,rfl,hi,hiJ,h,he⟩ X hX;refine qaf (fun c w'=>c=(decide (i<=J)&&p d[i]!)/\Arr blk T w0 w' d) (hT i w1 _ hi h fun w' h=>⟨rfl,h⟩) ?_;rintro c w2 ⟨rfl,h⟩;have hd:=scanUp.eq_1 p d J i;apply qaa<;>intro hc;have hc1:=hc;simp only[yA,decide_eq_true_eq] at hc;rw[if_pos (by simpa using hc1)] at hd;rw[wi _];exact hX _ _ ⟨i+1,by omega,by omega,by omega,h,hd.symm.trans he⟩ (by omega);rw[if_neg (by simpa using hc)] at hd;rw[show (i:Int)=(scanUp p d J i0:Nat) by rw[<- he,hd]];exact hE _ h
theorem qex{i j0:Nat}{E:Int->WP}(h:Arr blk T w0 w d)(hJ:j0<=1152921504606846976)(hi:1<=i)(hT:∀(x:Nat) w Y,x<=j0->Arr blk T w0 w d->(∀w',Arr blk T w0 w' d->Y (decide (i<=x)&&p d[x]!) w')->t x w Y)(hE:∀w',Arr blk T w0 w' d->E (scanDown p d i j0:Nat) w'): loop Int (fun X x w=>join Bool (fun Y=>t x w Y) fun b w'=>bif b then X (IntKind.i64.wrap (x-1)) w' else E x w') j0 w:=by
 refine qah (fun x w'=>∃j:Nat,x=j/\j<=j0/\Arr blk T w0 w' d/\scanDown p d i j=scanDown p d i j0) (fun x _=>x.toNat) ⟨j0,rfl,zM _,h,rfl⟩ ?_;rintro x w1 ⟨j,rfl,hj,h,he⟩ X hX;refine qaf (fun c w'=>c=(decide (i<=j)&&p d[j]!)/\Arr blk T w0 w' d) (hT j w1 _ hj h fun w' h=>⟨rfl,h⟩) ?_;rintro c w2 ⟨rfl,h⟩;apply qaa<;>intro hc;have hc1:=hc;simp only[yA,decide_eq_true_eq] at hc;obtain⟨k,rfl⟩:∃k,j=k+1:=⟨j-1,by omega⟩;rw[wi _];refine hX _ _ ⟨k,by omega,by omega,h,?_⟩ (by omega);rw[<- he,scanDown,if_pos (by simpa using hc1)];rw[show (j:Int)=(scanDown p d i j0:Nat) by
  rw[<- he];cases j with
  | zero=>rfl
  | succ k=>rw[scanDown,if_neg (by simpa using hc)]]
 exact hE _ h
theorem qwp{pivot:Nat}{K:Int×Bool->WP}(h:Arr blk T w0 w d)(hap:a<=pivot)(hpb:pivot<b)(hb:b<=len)(hl:len<=d.size/\len<=1152921504606846976)(hk:∀w',Arr blk T w0 w' (Sort.partition ltInt d a b pivot).2.2->K (((Sort.partition ltInt d a b pivot).1:Nat),(Sort.partition ltInt d a b pivot).2.1) w'): cW 196 [.slice (pW blk) len cap,.i a,.i b,.i pivot] [.one .i,.one .bool] w K:=by
 refine qez (data:=⟨pW blk,len,cap⟩) ?_;unfold qco;revert hk;unfold Sort.partition;dsimp only;intro hk;refine h.drew.swap a pivot rfl rfl (by omega) (by omega) (by omega) fun w1 h=>?_;have hsz:(swp d a pivot).size=d.size:=Sort.size_swp _ _ _;generalize swp d a pivot=d1 at h hk hsz;have eb:IntKind.i64.wrap ((b:Int)-1)=((b-1:Nat):Int):=(by rw[wi _];omega);rw[eb,wi ((a:Int)+1),show (a:Int)+1=((a+1:Nat):Int) by omega];refine qgC (p:=fun x=>ltInt x d1[a]!) (J:=b-1) (i0:=a+1) h (by omega) (by omega) (fun x w Y hx h hY=>?_) fun w2 h=>?_;apply qaa<;>intro hc;have hc':x<=b-1:=(by have:=zC hc;omega);refine h.drew.rd x rfl (by omega) (by omega)<|h.drew.rd a rfl (by omega) (by omega)<|qa9 ?_
 have:=hY _ h.drew
 simpa[hc'] using this;have hc':¬x<=b-1:=by have:=zB hc;omega
 have:=hY _ h.drew
 simpa[hc'] using this;have hu1:=scanUp_ge (fun x=>ltInt x d1[a]!) d1 (b-1) (a+1);generalize scanUp (fun x=>ltInt x d1[a]!) d1 (b-1) (a+1)=i at hk hu1⊢;refine qex (p:=fun x=>!ltInt x d1[a]!) (i:=i) (j0:=b-1) h (by omega) (by omega) (fun x w Y hx h hY=>?_) fun w3 h=>?_;apply qaa<;>intro hc;have hc':i<=x:=(by have:=zC hc;omega);refine h.drew.rd x rfl (by omega) (by omega)<|h.drew.rd a rfl (by omega) (by omega)<|qa9 ?_
 have:=hY _ h.drew
 simpa[hc'] using this;have hc':¬i<=x:=by have:=zB hc;omega
 have:=hY _ h.drew
 simpa[hc'] using this;have hv1:=scanDown_le (fun x=>!ltInt x d1[a]!) d1 i (b-1);generalize scanDown (fun x=>!ltInt x d1[a]!) d1 i (b-1)=j at hk hv1⊢;apply qaa<;>intro hc;have hc':i>j:=(by have:=zC hc;omega);simp only[if_pos hc'] at hk;exact h.drew.swap j a rfl rfl (by omega) (by omega) (by omega) fun w4 h=>hk _ h;have hc':¬i>j:=(by have:=zB hc;omega);simp only[if_neg hc'] at hk;refine h.drew.swap i j rfl rfl (by omega) (by omega) (by omega) fun w4 h=>?_;have hsz2:(swp d1 i j).size=d1.size:=Sort.size_swp _ _ _;generalize swp d1 i j=d2 at h hk hsz2;rw[wi ((i:Int)+1),wi ((j:Int)-1)];refine qah (fun s w'=>∃(i' j':Nat) (d':Array Int),s=((i':Int),(j':Int))/\a+1<=i'/\i'<=b/\j'<=b-1/\i'<=j'+2/\Arr blk T w0 w' d'/\d'.size=d.size/\partLoop ltInt a i' j' d'=partLoop ltInt a (i+1) (j-1) d2) (fun s _=>(s.2+2-s.1).toNat)
  ⟨i+1,j-1,d2,qbs (by omega),by omega,by omega,by omega,by omega,h,by omega,rfl⟩ ?_
 rintro s w5 ⟨i',j',d3,rfl,hi1,hi2,hj1,hij,h,hs3,he⟩ X hX;rw[partLoop_eq ltInt a i' j' d3] at he;dsimp only;refine qgC (p:=fun x=>ltInt x d3[a]!) (J:=j') (i0:=i') h (by omega) (by omega) (fun x w Y hx h hY=>?_) fun w6 h=>?_;apply qaa<;>intro hc;have hc':x<=j':=(by have:=zC hc;omega);refine h.drew.rd x rfl (by omega) (by omega)<|h.drew.rd a rfl (by omega) (by omega)<|qa9 ?_
 have:=hY _ h.drew
 simpa[hc'] using this;have hc':¬x<=j':=by have:=zB hc;omega
 have:=hY _ h.drew
 simpa[hc'] using this;have hu1:=scanUp_ge (fun x=>ltInt x d3[a]!) d3 j' i';generalize scanUp (fun x=>ltInt x d3[a]!) d3 j' i'=i2 at he hu1⊢;refine qex (p:=fun x=>!ltInt x d3[a]!) (i:=i2) (j0:=j') h (by omega) (by omega) (fun x w Y hx h hY=>?_) fun w7 h=>?_;apply qaa<;>intro hc;have hc':i2<=x:=(by have:=zC hc;omega);refine h.drew.rd x rfl (by omega) (by omega)<|h.drew.rd a rfl (by omega) (by omega)<|qa9 ?_
 have:=hY _ h.drew
 simpa[hc'] using this;have hc':¬i2<=x:=by have:=zB hc;omega
 have:=hY _ h.drew
 simpa[hc'] using this;have hv1:=scanDown_le (fun x=>!ltInt x d3[a]!) d3 i2 j';generalize scanDown (fun x=>!ltInt x d3[a]!) d3 i2 j'=j2 at he hv1⊢;apply qaa<;>intro hc;have hc':i2>j2:=(by have:=zC hc;omega);rw[if_pos hc'] at he;rw[<- he] at hk;exact h.drew.swap j2 a rfl rfl (by omega) (by omega) (by omega) fun w4 h=>hk _ h;have hc':¬i2>j2:=(by have:=zB hc;omega);rw[if_neg hc'] at he;refine h.drew.swap i2 j2 rfl rfl (by omega) (by omega) (by omega) fun w4 h=>?_;rw[wi ((i2:Int)+1),wi ((j2:Int)-1)];exact hX _ _ ⟨i2+1,j2-1,_,qbs (by omega),by omega,by omega,by omega,by omega,h,by rw[Sort.size_swp];exact hs3,he⟩ (by dsimp only;omega)
theorem qty{pivot:Nat}(h:Arr blk T w0 w d)(hap:a<=pivot)(hpb:pivot<b)(hb:b<=len)(hl:len<=d.size/\len<=1152921504606846976)(hk:∀w',Arr blk T w0 w' (Sort.partitionEqual ltInt d a b pivot).2->K ((Sort.partitionEqual ltInt d a b pivot).1:Nat) w'): cW 195 [.slice (pW blk) len cap,.i a,.i b,.i pivot] [.one .i] w K:=by
 refine qdk (data:=⟨pW blk,len,cap⟩) ?_;unfold qbK;revert hk;unfold Sort.partitionEqual;intro hk;refine h.drew.swap a pivot rfl rfl (by omega) (by omega) (by omega) fun w1 h=>?_;have hsz:(swp d a pivot).size=d.size:=Sort.size_swp _ _ _;generalize swp d a pivot=d2 at h hk hsz;rw[wi ((a:Int)+1),wi ((b:Int)-1)];refine qah (fun s w'=>∃(i' j':Nat) (d':Array Int),s=((i':Int),(j':Int))/\a+1<=i'/\i'<=b/\j'<=b-1/\i'<=j'+2/\Arr blk T w0 w' d'/\d'.size=d.size/\partEqLoop ltInt a i' j' d'=partEqLoop ltInt a (a+1) (b-1) d2) (fun s _=>(s.2+2-s.1).toNat)
  ⟨a+1,b-1,d2,qbs (by omega),by omega,by omega,by omega,by omega,h,by omega,rfl⟩ ?_
 rintro s w5 ⟨i',j',d3,rfl,hi1,hi2,hj1,hij,h,hs3,he⟩ X hX;rw[partEqLoop_eq ltInt a i' j' d3] at he;dsimp only;refine qgC (p:=fun x=>!ltInt d3[a]! x) (J:=j') (i0:=i') h (by omega) (by omega) (fun x w Y hx h hY=>?_) fun w6 h=>?_;apply qaa<;>intro hc;have hc':x<=j':=(by have:=zC hc;omega);refine h.drew.rd a rfl (by omega) (by omega)<|h.drew.rd x rfl (by omega) (by omega)<|qa9 ?_
 have:=hY _ h.drew
 simpa[hc'] using this;have hc':¬x<=j':=by have:=zB hc;omega
 have:=hY _ h.drew
 simpa[hc'] using this;have hu1:=scanUp_ge (fun x=>!ltInt d3[a]! x) d3 j' i';generalize scanUp (fun x=>!ltInt d3[a]! x) d3 j' i'=i2 at he hu1⊢;refine qex (p:=fun x=>ltInt d3[a]! x) (i:=i2) (j0:=j') h (by omega) (by omega) (fun x w Y hx h hY=>?_) fun w7 h=>?_;apply qaa<;>intro hc;have hc':i2<=x:=(by have:=zC hc;omega);refine h.drew.rd a rfl (by omega) (by omega)<|h.drew.rd x rfl (by omega) (by omega)<|qa9 ?_
 have:=hY _ h.drew
 simpa[hc'] using this;have hc':¬i2<=x:=by have:=zB hc;omega
 have:=hY _ h.drew
 simpa[hc'] using this;have hv1:=scanDown_le (fun x=>ltInt d3[a]! x) d3 i2 j';generalize scanDown (fun x=>ltInt d3[a]! x) d3 i2 j'=j2 at he hv1⊢;apply qaa<;>intro hc;have hc':i2>j2:=(by have:=zC hc;omega);rw[if_pos hc'] at he;rw[<- he] at hk;exact hk _ h;have hc':¬i2>j2:=(by have:=zB hc;omega);rw[if_neg hc'] at he;refine h.drew.swap i2 j2 rfl rfl (by omega) (by omega) (by omega) fun w4 h=>?_;rw[wi ((i2:Int)+1),wi ((j2:Int)-1)];exact hX _ _ ⟨i2+1,j2-1,_,qbs (by omega),by omega,by omega,by omega,by omega,h,by rw[Sort.size_swp];exact hs3,he⟩ (by dsimp only;omega)
end
section
section
variable {blk:Nat} {T:ArrT} {w0 w:World} {d:Array Int} {len cap:Nat}
theorem qvj{K:Bool->WP}(h:Arr blk T w0 w d)(aw:a<b)(hb:b<=len)(hl:len<=d.size/\len<=1152921504606846976)(R:∀w',Arr blk T w0 w' (Sort.partialInsertionSort ltInt d a b).1->K (Sort.partialInsertionSort ltInt d a b).2 w'): cW 193 [.slice (pW blk) len cap,.i a,.i b] [.one .bool] w K:=by
 refine qca (data:=⟨pW blk,len,cap⟩) ?_;unfold qba;revert R;unfold Sort.partialInsertionSort;intro R;rw[wi ((a:Int)+1)];refine qah (fun x w'=>∃(i s:Nat) (z:Array Int),x=((i:Int),5-(s:Int))/\s<=5/\a+1<=i/\i<=b/\Arr blk T w0 w' z/\z.size=d.size/\partialIns ltInt a b s i z=partialIns ltInt a b 5 (a+1) d) (fun x _=>(5-x.2).toNat)
  ⟨a+1,5,d,qbs (by omega),by omega,by omega,by omega,h,rfl,rfl⟩ ?_
 rintro x w1 ⟨i,s,G,rfl,ax,ak,al,h,ay,y⟩ X hX;dsimp only;apply qaa<;>intro u;obtain⟨s,rfl⟩:∃k,s=k+1:=⟨s-1,by have:=zC u;omega⟩;rw[partialIns_succ] at y;refine qaf (fun x w'=>∃(i:Nat) (z:Array Int),x=i/\a+1<=i/\i<=b/\Arr blk T w0 w' z/\z.size=d.size/\partialIns ltInt a b s i z=partialIns ltInt a b 5 (a+1) d) ?_ ?_;refine qah (fun x w'=>∃k:Nat,x=k/\a+1<=k/\k<=b/\Arr blk T w0 w' G/\scanSorted ltInt G b k=scanSorted ltInt G b i) (fun x _=>((b:Int)-x).toNat) ⟨i,rfl,ak,al,h,rfl⟩ ?_;rintro x w2 ⟨k,rfl,I,J,h,ag⟩ Z hZ;have hd:=scanSorted.eq_1 ltInt G b k;refine qaf (fun c w'=>c=(decide (k<b)&&!ltInt G[k]! G[k-1]!)/\Arr blk T w0 w' G) ?_ ?_;apply qaa<;>intro u;have U:k<b:=(by have:=zC u;omega);exact h.drew.rd k rfl (by omega) (by omega)<|h.drew.rd (k-1) (by rw[wi _];omega) (by omega) (by omega)<|qa9<|⟨by simp[U],h.drew⟩;have U:¬k<b:=(by have:=zB u;omega);exact⟨by simp[U],h.drew⟩;rintro c w3 ⟨rfl,h⟩;apply qaa<;>intro u;have am:=u;simp only[yA,decide_eq_true_eq] at u;rw[if_pos (by simpa using am)] at hd;rw[wi _];exact hZ _ _ ⟨k+1,by omega,by omega,by omega,h,hd.symm.trans ag⟩ (by omega);rw[if_neg (by simpa using u)] at hd;rw[show scanSorted ltInt G b i=k by rw[<- ag,hd]] at y;unfold fixUp fixDown at y;apply qaa<;>intro u;have V:k=b:=(by have:=yO.1 u;omega);rw[if_pos V] at y;rw[<- y] at R;exact R _ h;have V:¬k=b:=fun e=>by rw[e] at u;simp at u
 rw[if_neg V] at y;rw[wi ((b:Int)-a)];apply qaa<;>intro u;have aa:b-a<50:=(by have:=zC u;omega);rw[if_pos aa] at y;rw[<- y] at R;exact R _ h;have aa:¬b-a<50:=(by have:=zB u;omega);rw[if_neg aa] at y;refine h.drew.swap k (k-1) rfl (by rw[wi _];omega) (by omega) (by omega) (by omega) fun w4 h=>?_;have ah:(swp G k (k-1)).size=G.size:=Sort.size_swp _ _ _;generalize swp G k (k-1)=E at h y ah;refine qaf (fun _ w'=>Arr blk T w0 w' (if k-a>=2 then shiftDown ltInt (k-1) E else E)/\(if k-a>=2 then shiftDown ltInt (k-1) E else E).size=E.size) ?_ ?_;rw[wi ((k:Int)-a)];apply qaa<;>intro u;have ab:k-a>=2:=(by have:=zC u;omega);simp only[if_pos ab];rw[wi ((k:Int)-1)];refine qah (fun x w'=>∃(j:Nat) (z:Array Int),x=j/\j<=k-1/\Arr blk T w0 w' z/\z.size=E.size/\shiftDown ltInt j z=shiftDown ltInt (k-1) E) (fun x _=>x.toNat) ⟨k-1,E,by omega,by omega,h,rfl,rfl⟩ ?_;rintro x w5 ⟨j,d3,rfl,hj,h,O,C⟩ Q hQ;apply qaa<;>intro u;obtain⟨j,rfl⟩:∃m,j=m+1:=⟨j-1,by have:=zC u;omega⟩;rw[shiftDown] at C;refine h.drew.rd (j+1) rfl (by omega) (by omega)<|h.drew.rd j (by rw[wi _];omega) (by omega) (by omega)<|qa9 ?_;apply qaa<;>intro u;rw[if_pos u] at C;rw[<- C];exact⟨h.drew,O⟩;rw[if_neg (by rw[u];decide)] at C;refine h.drew.drew.swap (j+1) j rfl (by rw[wi _];omega) (by omega) (by omega) (by omega) fun w6 h=>?_;rw[wi _];exact hQ _ _ ⟨j,_,by omega,by omega,h,by rw[Sort.size_swp];exact O,C⟩ (by omega);have ao:j=0:=(by have:=zB u;omega);subst ao;rw[<- C];exact⟨h,O⟩;have ab:¬k-a>=2:=(by have:=zB u;omega);simp only[if_neg ab];exact⟨h,trivial⟩;rintro _ w5 ⟨h,O⟩;generalize (if k-a>=2 then shiftDown ltInt (k-1) E else E)=d3 at h y O;rw[wi ((b:Int)-k)];apply qaa<;>intro u;have ac:b-k>=2:=(by have:=zC u;omega);rw[if_pos ac] at y;rw[wi ((k:Int)+1)];refine qah (fun x w'=>∃(j:Nat) (z:Array Int),x=j/\k+1<=j/\j<=b/\Arr blk T w0 w' z/\z.size=d.size/\shiftUp ltInt b j z=shiftUp ltInt b (k+1) d3) (fun x _=>((b:Int)-x).toNat) ⟨k+1,d3,by omega,by omega,by omega,h,by omega,rfl⟩ ?_;rintro x w6 ⟨j,d4,rfl,aD,aE,h,ad,ae⟩ Q hQ;have A:=shiftUp.eq_1 ltInt b j d4;apply qaa<;>intro u;have af:j<b:=(by have:=zC u;omega);rw[if_pos af] at A;refine h.drew.rd j rfl (by omega) (by omega)<|h.drew.rd (j-1) (by rw[wi _];omega) (by omega) (by omega)<|qa9 ?_;apply qaa<;>intro u;rw[if_pos u] at A;rw[<- ae,A] at y;exact⟨k,d4,rfl,I,J,h.drew,ad,y⟩;rw[if_neg (by rw[u];decide)] at A;refine h.drew.drew.swap j (j-1) rfl (by rw[wi _];omega) (by omega) (by omega) (by omega) fun w6 h=>?_;rw[wi _];exact hQ _ _ ⟨j+1,_,by omega,by omega,by omega,h,by rw[Sort.size_swp];exact ad,A.symm.trans ae⟩ (by omega);have af:¬j<b:=(by have:=zB u;omega);rw[if_neg af] at A;rw[<- ae,A] at y;exact⟨k,d4,rfl,I,J,h,ad,y⟩;have ac:¬b-k>=2:=(by have:=zB u;omega);rw[if_neg ac] at y;exact⟨k,d3,rfl,I,J,h,by omega,y⟩;rintro x w2 ⟨k,E,rfl,I,J,h,aq,ar⟩;rw[wi _];exact hX _ _ ⟨k,s,E,qbs rfl,by omega,I,J,h,aq,ar⟩ (by dsimp only;omega);have au:s=0:=(by have:=zB u;omega);subst au;rw[<- y] at R;exact R _ h
end
end
theorem qwI{s:ByteArray}{i:Int}{K:Int->Prop}(b:UInt8)(u:0<=i)(h:s[i.toNat]?=some b)(k:K (b.toNat:Int)):idxS s i K:=by unfold idxS;exact⟨b,⟨u,h⟩,k⟩
theorem qeq{k:Nat}(h:2^k<=n:=by omega):bitsLen n=bitsLen (n / 2^k)+k:=by
 have A:bitsLen n<=bitsLen (n / 2^k)+k:=by
  rw[bitsLen_le_iff,Nat.pow_add]
  have:=lt_two_pow_bitsLen (n / 2^k)
  exact (Nat.div_lt_iff_lt_mul (Nat.two_pow_pos k)).1 this
 have C:bitsLen (n / 2^k)+k<=bitsLen n:=by
  have y:=lt_two_pow_bitsLen n;have z:k<=bitsLen n:=by
   rcases Nat.lt_or_ge (bitsLen n) k with u|u
   have:=Nat.pow_le_pow_right (show 0<2 by decide) (Nat.le_of_lt u);omega
   exact u
  have:bitsLen (n / 2^k)<=bitsLen n-k:=(by rw[bitsLen_le_iff,Nat.div_lt_iff_lt_mul (Nat.two_pow_pos k),<- Nat.pow_add,Nat.sub_add_cancel z];exact y);omega
 omega
theorem qss{k:Nat}(h:n<2^k:=by omega):bitsLen n<=k:=(bitsLen_le_iff n k).2 h
theorem qlc(n k:Nat):Int.fdiv (n:Int) ((k:Nat):Int)=((n / k:Nat):Int):=by rw[Int.fdiv_eq_ediv_of_nonneg _ (by omega)];rfl
theorem qu6(hn:n<18446744073709551616)(hk:K (bitsLen n:Nat) w):cW 198 [.int .u64 n] [.one .i] w K:=by apply qov;unfold qkl;refine qaf (fun t w'=>∃m c:Nat,t=((m:Int),(c:Int))/\w=w'/\m<4294967296/\c<=32/\bitsLen n=bitsLen m+c) ?_ ?_;apply qaa<;>intro hc;have h:=zC hc;refine⟨n / 2^32,32,qbs (qlc n (2^32)) rfl,rfl,by omega,by omega,qeq (by omega)⟩;have h:=zB hc;exact⟨n,0,rfl,rfl,by omega,by omega,rfl⟩;rintro t w' ⟨m,c,rfl,rfl,hm,hc1,he⟩;dsimp only;refine qaf (fun t w'=>∃m c:Nat,t=((m:Int),(c:Int))/\w=w'/\m<65536/\c<=48/\bitsLen n=bitsLen m+c) ?_ ?_;apply qaa<;>intro hc;have h:=zC hc;refine⟨m / 2^16,c+16,qbs (qlc m (2^16)) (by rw[wi _];omega),rfl,by omega,by omega,by rw[he,qeq (n:=m) (k:=16) (by omega)];omega⟩;have h:=zB hc;exact⟨m,c,rfl,rfl,by omega,by omega,he⟩;rintro t w' ⟨m,c,rfl,rfl,hm,hc1,he⟩;dsimp only;refine qaf (fun t w'=>∃m c:Nat,t=((m:Int),(c:Int))/\w=w'/\m<256/\c<=56/\bitsLen n=bitsLen m+c) ?_ ?_;apply qaa<;>intro hc;have h:=zC hc;refine⟨m / 2^8,c+8,qbs (qlc m (2^8)) (by rw[wi _];omega),rfl,by omega,by omega,by rw[he,qeq (n:=m) (k:=8) (by omega)];omega⟩;have h:=zB hc;exact⟨m,c,rfl,rfl,by omega,by omega,he⟩;rintro t w' ⟨m,c,rfl,rfl,hm,hc1,he⟩;dsimp only;have hb:=qss (n:=m) (k:=8) (by omega);rw[IntWalk.u8_in (m:Int) (by omega)];refine qwI (UInt8.ofNat (bitsLen m)) (by omega) ?_ ?_;rw[zJ];clear he hb;revert m;decide +kernel;have e:(UInt8.ofNat (bitsLen m)).toNat=bitsLen m:=(by simp;omega);rw[e,wi (bitsLen m:Nat),wi _];rw[he] at hk;rw[show (c:Int)+(bitsLen m:Nat)=((bitsLen m+c:Nat):Int) by omega];exact hk
theorem qo0(hn:n<18446744073709551616)(hk:K (bitsLen n:Nat) w):cW 149 [.int .u64 n] [.one .i] w K:=by apply qqQ;unfold qny;exact qu6 hn hk
section
structure Arr2 (blk:Nat) (T:ArrT) (w0 w:World) (d:Array Int) (sb:Nat) (k:IntKind) (v:Int):Prop where
 arr:Arr blk T w0 w d
 cell:∃ T2,w.heap[sb]?=some (.cells #[.int k v] T2 (0,0))
 ne:sb≠blk
 new:w0.heap.size<=sb
section
variable {blk:Nat} {T:ArrT} {w0 w:World} {d:Array Int} {len cap sb:Nat} {k:IntKind} {v:Int}
theorem Arr2.drew(h:Arr2 blk T w0 w d sb k v):Arr2 blk T w0 w.drew d sb k v:=⟨h.arr.drew,h.cell,h.ne,h.new⟩
theorem Arr2.get(h:Arr2 blk T w0 w d sb k v){K:Int->Prop}(u:K v):ld (.int k) ⟨sb,0,none⟩ w K:=by obtain⟨z,y⟩:=h.cell;exact qai y v rfl u
theorem Arr2.put(h:Arr2 blk T w0 w d sb k v)(u:Int){K:WP}(z:∀w',Arr2 blk T w0 w' d sb k u->K w'):st ⟨sb,0,none⟩ [.int k u] w K:=by
 obtain⟨A,y⟩:=h.cell;unfold st;refine qhf (w:=w) [.int k u] 0 0 _ w K y rfl (by simp) (z _ ⟨⟨?_,?_⟩,⟨A,?_⟩,h.ne,h.new⟩);refine h.arr.fr.trans' (T:=[sb]) ⟨rfl,rfl,rfl,by rw[qb1];exact zM _,fun j G C=>?_⟩ (fun i E=>.inr ?_);rw[qax _ _ _ _ (qab y),if_neg (by simpa using C)]
 have:=h.new
 simp at E;omega;rw[qax _ _ _ _ (qab y),if_neg (fun e=>h.ne e.symm)];exact h.arr.blk;rw[qax _ _ _ _ (qab y),if_pos rfl];rfl
theorem Arr2.mk'(h:Arr blk T w0 w d)(y:TypeId)(u:Int){K:Nat->WP}(z:∀b w',Arr2 blk T w0 w' d b k u->K b w'):Pt.new (.cells #[.int k u] y (0,0)) w K:=by
 unfold Pt.new;refine z _ _ ⟨⟨h.fr.alloc _,?_⟩,⟨y,?_⟩,?_,h.fr.size⟩
 have:=qab h.blk
 rw[qbv,iN];exact h.blk;rw[qbv,if_pos rfl]
 have:=qab h.blk
 omega
theorem qiH{K:Int×Int->WP}(h:Arr2 blk T w0 w d sb .i64 v)(A:a<len)(C:b<len)(y:len<=d.size/\len<=1152921504606846976)(z:∀(p q:Nat) u w',(p=a/\q=b\/p=b/\q=a)->Arr2 blk T w0 w' d sb .i64 u->K ((p:Int),(q:Int)) w'): cW 236 [.slice (pW blk) len cap,.i a,.i b,.pointer (pW sb)] [.one .i,.one .i] w K:=by refine qfL (data:=⟨pW blk,len,cap⟩) ?_;unfold qdd;refine h.arr.drew.rd b rfl C y<|h.arr.drew.rd a rfl A y<|qa9 ?_;apply qaa<;>intro E;exact qae<|h.drew.get<|qae<|h.drew.put _ fun w' h=>z b a _ _ (.inr ⟨rfl,rfl⟩) h;exact z a b _ _ (.inl ⟨rfl,rfl⟩) h.drew
theorem qnw{c:Nat}(h:Arr2 blk T w0 w d sb .i64 v)(C:a<len)(E:b<len)(G:c<len)(y:len<=d.size/\len<=1152921504606846976)(I:∀(p:Nat) u w',(p=a\/p=b\/p=c)->Arr2 blk T w0 w' d sb .i64 u->K (p:Int) w'): cW 223 [.slice (pW blk) len cap,.i a,.i b,.i c,.pointer (pW sb)] [.one .i] w K:=by refine qfK (data:=⟨pW blk,len,cap⟩) ?_;unfold qdc;dsimp only;refine qiH h C E y fun p q u z U h=>?_;dsimp only;refine qiH h (by omega) G y fun V q' u z J h=>?_;dsimp only;exact qiH h (by omega) (by omega) y fun O R u z A h=>I _ _ _ (by omega) h
theorem qiG(h:Arr2 blk T w0 w d sb .i64 v)(A:1<=a)(C:a+1<len)(y:len<=d.size/\len<=1152921504606846976)(z:∀(p:Nat) u w',(a<=p+1/\p<=a+1)->Arr2 blk T w0 w' d sb .i64 u->K (p:Int) w'): cW 222 [.slice (pW blk) len cap,.i a,.pointer (pW sb)] [.one .i] w K:=by refine qdj (data:=⟨pW blk,len,cap⟩) ?_;unfold qbJ;dsimp only;rw[wi ((a:Int)-1),wi ((a:Int)+1),show (a:Int)-1=((a-1:Nat):Int) by omega,show (a:Int)+1=((a+1:Nat):Int) by omega];exact qnw h (by omega) (by omega) (by omega) y fun p u w' E h=>z p u w' (by omega) h
theorem qvh{K:Int×Int->WP}(h:Arr blk T w0 w d)(U:a<b)(hb:b<=len)(C:len<=d.size/\len<=1152921504606846976)(G:∀(p:Nat) (x:Int) w',a<=p/\p<b->Arr blk T w0 w' d->K ((p:Int),x) w'): cW 191 [.slice (pW blk) len cap,.i a,.i b] [.one .i,.one .i] w K:=by
 refine qdS (data:=⟨pW blk,len,cap⟩) ?_;unfold qb2;dsimp only;have e0:IntKind.i64.wrap ((b:Int)-a)=((b-a:Nat):Int):=(by rw[wi _];omega);have V:Int.tdiv ((b-a:Nat):Int) 4=(((b-a) / 4:Nat):Int):=(by rw[Int.tdiv_eq_ediv_of_nonneg (by omega)];omega);have e1:∀m:Nat,m<=3->IntKind.i64.wrap ((a:Int)+IntKind.i64.wrap (IntKind.i64.wrap (((b-a) / 4:Nat):Int)*(m:Int)))=((a+(b-a) / 4*m:Nat):Int):=by intro m I;have hq:(b-a) / 4*m<=(b-a) / 4*3:=Nat.mul_le_mul_left _ I;have hz:(((b-a) / 4:Nat):Int)*(m:Int)=(((b-a) / 4*m:Nat):Int):=(by push_cast;rfl);rw[wi (((b-a) / 4:Nat):Int),hz,wi (((b-a) / 4*m:Nat):Int),wi _];omega
 have J:=e1 1 (by omega);have O:=e1 2 (by omega);have R:=e1 3 (by omega);simp only[Int.cast_ofNat_Int] at J O R;rw[e0,V,J,O,R];refine Arr2.mk' h _ _ fun sb w1 h=>qaf (fun x w'=>∃(p:Nat) (u:Int),x=p/\a<=p/\p<b/\Arr2 blk T w0 w' d sb .i64 u) ?_ ?_;apply qaa<;>intro y;have h8:b-a>=8:=(by have:=zC y;omega);refine qaf (fun x w'=>∃(p q r:Nat) (u:Int),x=((p:Int),(q:Int),(r:Int))/\a<=p/\p<b/\a<=q/\q<b/\a<=r/\r<b/\Arr2 blk T w0 w' d sb .i64 u) ?_ ?_;apply qaa<;>intro y;have ac:b-a>=50:=(by have:=zC y;omega);exact qiG h (by omega) (by omega) C fun p u E hp h=>qiG h (by omega) (by omega) C fun q u E hq h=>qiG h (by omega) (by omega) C fun r u E hr h=>⟨p,q,r,u,rfl,by omega,by omega,by omega,by omega,by omega,by omega,h⟩;exact⟨_,_,_,_,rfl,by omega,by omega,by omega,by omega,by omega,by omega,h⟩;rintro x E ⟨p,q,r,u,rfl,z,A,ad,ae,af,ag,h⟩;dsimp only;exact qnw h (by omega) (by omega) (by omega) C fun m u w3 I h=>⟨m,u,rfl,by omega,by omega,h⟩;exact⟨_,_,rfl,by omega,by omega,h⟩;rintro x E ⟨p,u,rfl,z,A,h⟩;refine h.get ?_;apply qaa<;>intro y;exact G _ _ _ ⟨z,A⟩ h.arr;apply qaa<;>intro y;exact G _ _ _ ⟨z,A⟩ h.arr;exact G _ _ _ ⟨z,A⟩ h.arr
end
end
section
section
variable {blk:Nat} {T:ArrT} {w0 w:World} {d:Array Int} {len cap sb:Nat} {k:IntKind} {v:Int}
theorem Arr.self(h:Arr blk T w0 w d):Arr blk T w w d:=⟨.refl _ _,h.blk⟩
theorem Arr2.step(h:Arr2 blk T w0 w d sb k v){w':World}{u:Array Int}(g:Arr blk T w w' u):Arr2 blk T w0 w' u sb k v:=by obtain⟨z,y⟩:=h.cell;refine⟨⟨h.arr.fr.trans g.fr,g.blk⟩,⟨z,?_⟩,h.ne,h.new⟩;rw[g.fr.block sb (qab y) (by simpa using h.ne)];exact y
theorem qwn(h:Arr2 blk T w0 w d sb .u64 v)(y:∀(x:Int) w',0<=x/\x<=18446744073709551615->Arr2 blk T w0 w' d sb .u64 x->K x w'): cW 221 [.pointer (pW sb)] [.one (.int .u64)] w K:=by refine qfM ?_;unfold qde;refine qae (h.drew.get (qae (h.drew.get (qae (h.drew.put _ fun u h=>?_)))));refine qae (h.drew.get (qae (h.drew.get (qae (h.drew.put _ fun u h=>?_)))));refine qae (h.drew.get (qae (h.drew.get (qae (h.drew.put _ fun u h=>?_)))));refine qae (h.get ?_);exact y _ _ (bits_within .xor .u64 _ _) h
theorem qxm{w:World}(y:1<=n/\n<=1152921504606846976)(h:K ((2^bitsLen n:Nat):Int) w):cW 220 [.i n] [.one (.int .u64)] w K:=by apply qfu;unfold qcJ;rw[IntWalk.u64_in (n:Int) (by omega)];refine qo0 (by omega)<|qaN (by omega) ?_;have z:=two_pow_bitsLen_le (n:=n) (by omega);have A:bitsLen n<=61:=(bitsLen_le_iff n 61).2 (by omega);rw[zJ,xN (by omega)];have e:(1:Int)*2^bitsLen n=((2^bitsLen n:Nat):Int):=(by rw[Int.one_mul];push_cast;rfl);have u:(0:Int)<=((2^bitsLen n:Nat):Int):=Int.natCast_nonneg _;rw[e,IntWalk.u64_in _ (by omega)];exact h
theorem qu1{K:Unit->WP}(h:Arr blk T w0 w d)(O:a<=b)(hb:b<=len)(hl:len<=d.size/\len<=1152921504606846976)(I:∀C w',PermIn a b d C->Arr blk T w0 w' C->K () w'): cW 190 [.slice (pW blk) len cap,.i a,.i b] [] w K:=by
 refine qdC (data:=⟨pW blk,len,cap⟩) ?_;unfold qbR;have e0:IntKind.i64.wrap ((b:Int)-a)=((b-a:Nat):Int):=(by rw[wi _];omega);rw[e0];apply qaa<;>intro A;have h8:b-a>=8:=(by have:=zC A;omega);have R:Int.tdiv ((b-a:Nat):Int) 4=(((b-a) / 4:Nat):Int):=(by rw[Int.tdiv_eq_ediv_of_nonneg (by omega)];omega);have e1:IntKind.i64.wrap ((a:Int)+IntKind.i64.wrap (IntKind.i64.wrap (((b-a) / 4:Nat):Int)*2))=((a+(b-a) / 4*2:Nat):Int):=by rw[wi (((b-a) / 4:Nat):Int),wi ((((b-a) / 4:Nat):Int)*2),wi _];omega
 rw[R,e1,IntWalk.u64_in ((b-a:Nat):Int) (by omega)];refine Arr2.mk' h _ _ fun sb w1 h=>h.put _ fun w2 h=>qxm (by omega) ?_;have U:=two_pow_bitsLen_le (n:=b-a) (by omega);have E:=Nat.two_pow_pos (bitsLen (b-a));rw[wi (_-1),wi (_+1)];refine qah (fun x w'=>∃(i:Nat) (C:Array Int) (u:Int),x=i/\a<=i/\i<=a+(b-a) / 4*2+2/\PermIn a b d C/\Arr2 blk T w0 w' C sb .u64 u) (fun x _=>(((a+(b-a) / 4*2+2:Nat):Int)-x).toNat)
  ⟨a+(b-a) / 4*2-1,d,_,by omega,by omega,by omega,permIn_refl _ _ _,h⟩ ?_
 rintro x w3 ⟨i,J,u,rfl,V,aa,G,h⟩ X hX;have ac:=G.1;apply qaa<;>intro A;have ad:i<=a+(b-a) / 4*2+1:=(by have:=zC A;omega);refine qwn h fun y w4 hy h=>?_;obtain⟨z,rfl⟩:∃z:Nat,y=z:=⟨y.toNat,by omega⟩;have ez:bits .and .u64 (z:Int) (IntKind.u64.wrap (((2^bitsLen (b-a):Nat):Int)-1))=((z%2^bitsLen (b-a):Nat):Int):=by rw[IntWalk.u64_in _ (by omega),show ((2^bitsLen (b-a):Nat):Int)-1=((2^bitsLen (b-a)-1:Nat):Int) by omega,bits_and_u64_nat z _ (by omega) (by omega),Nat.and_two_pow_sub_one_eq_mod]
 rw[ez];have hz:=Nat.mod_lt z E;rw[wi ((z%2^bitsLen (b-a):Nat):Int)];refine qaf (fun x w'=>∃o:Nat,x=o/\o<b-a/\Arr2 blk T w0 w' J sb .u64 z) ?_ ?_;apply qaa<;>intro A
 have:=zC A
 exact⟨z%2^bitsLen (b-a)-(b-a),by rw[wi _];omega,by omega,h⟩
 have:=zB A
 exact⟨z%2^bitsLen (b-a),rfl,by omega,h⟩;rintro x w5 ⟨o,rfl,ho,h⟩;refine h.drew.arr.self.swap i (a+o) rfl (by rw[wi _];omega) (by omega) (by omega) (by omega) fun w6 h6=>?_;rw[wi _];exact hX _ _ ⟨i+1,_,_,by omega,by omega,by omega,permIn_trans _ _ _ _ _ G (swp_permIn _ _ _ _ _ (by omega) (by omega) (by omega) (by omega) (by omega)),h.drew.step h6⟩ (by omega);exact I J _ G h.arr;exact I d _ (permIn_refl _ _ _) h
end
end
section
section
variable {blk:Nat} {T:ArrT} {len cap:Nat}
theorem qxl:∀(n:Nat) {w0 w:World} {d:Array Int} {a b:Nat} {limit:Int} {K:Unit->WP},b-a<=n->Arr blk T w0 w d->a<=b->b<=len->(len<=d.size/\len<=1152921504606846976)->Sort.Below ltInt a b d-> (∀d' w',PermIn a b d d'->SortedIn ltInt a b d'->Arr blk T w0 w' d'->K () w')-> cW 148 [.slice (pW blk) len cap,.i a,.i b,.i limit] [] w K:=by
 intro n;induction n using Nat.strongRecOn with
 | _ n ih=>
 intro w0 w d a0 b0 limit0 K hn h hab hb hl hB hk;refine qcp (data:=⟨pW blk,len,cap⟩) ?_;unfold qbH;dsimp only;refine qah (fun x w'=>∃(a b:Nat) (l:Int) (wb wp:Bool) (d':Array Int),x=((a:Int),(b:Int),l,wb,wp)/\b-a<=n/\a<=b/\b<=len/\d'.size=d.size/\Sort.Below ltInt a b d'/\Arr blk T w0 w' d'/\
   ∀R,PermIn a b d' R->SortedIn ltInt a b R->PermIn a0 b0 d R/\SortedIn ltInt a0 b0 R) (fun x _=>(x.2.1-x.1).toNat)
  ⟨a0,b0,limit0,true,true,d,rfl,hn,hab,hb,rfl,hB,h,fun R h1 h2=>⟨h1,h2⟩⟩ ?_
 rintro x w1 ⟨a,b,l,wb,wp,d1,rfl,hn1,hab,hb,hs1,hB,h,hR⟩ X hX;dsimp only;have e0:IntKind.i64.wrap ((b:Int)-a)=((b-a:Nat):Int):=(by rw[wi _];omega);rw[e0];apply qaa<;>intro hc;refine qxk h hab hb (by omega) fun w2 h=>?_;obtain⟨h1,h2⟩:=insertionSort_holds swo d1 a b hab (by omega);obtain⟨h3,h4⟩:=hR _ h1 h2;exact hk _ _ h3 h4 h;have h12:12<b-a:=(by have:=zB hc;omega);apply qaa<;>intro hc;refine qwm h hab hb (by omega) fun w2 h=>?_;obtain⟨h1,h2⟩:=heapSort_holds swo d1 a b hab (by omega);obtain⟨h3,h4⟩:=hR _ h1 h2;exact hk _ _ h3 h4 h;refine qaf (fun _ w'=>∃d2,PermIn a b d1 d2/\Arr blk T w0 w' d2) ?_ ?_;apply qaa<;>intro hc;exact qu1 h hab hb (by omega) fun d2 w2 hp h=>⟨d2,hp,h⟩;exact⟨d1,permIn_refl _ _ _,h⟩;rintro lim w2 ⟨d2,hp2,h⟩;have hs2:=hp2.1;refine qvh h (by omega) hb (by omega) fun p hint w3 hpp h=>?_;dsimp only;refine qaf (fun x w'=>∃(p:Nat) (hint:Int) (d3:Array Int),x=((p:Int),hint)/\a<=p/\p<b/\PermIn a b d1 d3/\Arr blk T w0 w' d3) ?_ ?_;apply qaa<;>intro hc;refine qxn h (by omega) hb (by omega) fun w4 h=>⟨(b-1)-(p-a),1,_,qbs ?_ rfl,by omega,by omega,permIn_trans _ _ _ _ _ hp2 (reverseRange_holds _ _ _ hab (by omega)),h⟩;rw[wi ((b:Int)-1),wi ((p:Int)-a),wi _];omega;exact⟨p,hint,d2,rfl,hpp.1,hpp.2,hp2,h⟩;rintro x w4 ⟨p,hint,d3,rfl,hp1,hp2,hp3,h⟩;have hs3:=hp3.1;dsimp only;refine qaf (fun _ w'=>∃d4,PermIn a b d1 d4/\Arr blk T w0 w' d4) ?_ ?_;refine qaf (fun _ w'=>Arr blk T w0 w' d3) ?_ ?_;apply qaa<;>intro hc;apply qaa<;>intro hc;exact h;exact h;exact h;rintro c w5 h;apply qaa<;>intro hc;refine qvj h (by omega) hb (by omega) fun w6 h=>?_;obtain⟨h1,h2⟩:=partialInsertionSort_holds swo d3 a b (by omega) (by omega) (hB.perm (by omega) hp3);apply qaa<;>intro hc;obtain⟨h3,h4⟩:=hR _ (permIn_trans _ _ _ _ _ hp3 h1) (h2 hc);exact hk _ _ h3 h4 h;exact⟨_,permIn_trans _ _ _ _ _ hp3 h1,h⟩;exact⟨d3,hp3,h⟩;rintro _ w5 ⟨d4,hp4,h⟩;have hs4:=hp4.1;have hB4:=hB.perm (by omega) hp4;refine qaf (fun c w'=>c=(decide (0<a)&&!ltInt d4[a-1]! d4[p]!)/\Arr blk T w0 w' d4) ?_ ?_;apply qaa<;>intro hc;have ha:0<a:=(by have:=zC hc;omega);exact h.drew.rd (a-1) (by rw[wi _];omega) (by omega) (by omega)<|h.drew.rd p rfl (by omega) (by omega)<|qa9<|⟨by simp[ha],h.drew⟩;have ha:¬0<a:=(by have:=zB hc;omega);exact⟨by simp[ha],h.drew⟩;rintro c w6 ⟨rfl,h⟩;apply qaa<;>intro hc;simp only[yA,decide_eq_true_eq,zT] at hc;have hr:=round_eq swo (partitionEqual_holds ltInt) hc.1 hp1 hp2 (by omega) hB4 hc.2 (mid:=(Sort.partitionEqual ltInt d4 a b p).1) (d4:=(Sort.partitionEqual ltInt d4 a b p).2) rfl;refine qty h hp1 hp2 hb (by omega) fun w7 h=>?_;obtain⟨h1,h2,h3,h4,h5⟩:=hr;refine hX _ _ ⟨_,b,lim,wb,wp,_,rfl,by omega,h2,hb,by omega,h4,h,fun R r1 r2=>?_⟩ (by dsimp only;omega);obtain⟨q1,q2⟩:=h5 R r1 r2;exact hR R (permIn_trans _ _ _ _ _ hp4 q1) q2;have hr:=round_part swo (partition_holds ltInt) hp1 hp2 (by omega) hB4 (mid:=(Sort.partition ltInt d4 a b p).1) (ap:=(Sort.partition ltInt d4 a b p).2.1) (d4:=(Sort.partition ltInt d4 a b p).2.2) rfl;refine qwp h hp1 hp2 hb (by omega) fun w7 h=>?_;obtain⟨h1,h2,h3,h4,h5,h6,h7⟩:=hr;dsimp only;generalize (Sort.partition ltInt d4 a b p).1=mid at *
 generalize (Sort.partition ltInt d4 a b p).2.2=d5 at *
 rw[wi ((mid:Int)-a),wi ((b:Int)-mid),wi ((mid:Int)+1),show (mid:Int)+1=((mid+1:Nat):Int) by omega];apply qaa<;>intro hc;have hlt:mid-a<b-mid:=(by have:=zC hc;omega);refine ih (mid-a) (by omega) (zM _) h h1 (by omega) (by omega) h4 fun d6 w8 r1 r2 h=>?_;obtain⟨q1,q2⟩:=h6 d6 r1 r2;refine hX _ _ ⟨mid+1,b,lim,_,_,d6,rfl,by omega,by omega,hb,by have:=r1.1;omega,q1,h,fun R s1 s2=>?_⟩ (by dsimp only;omega);obtain⟨t1,t2⟩:=q2 R s1 s2;exact hR R (permIn_trans _ _ _ _ _ hp4 t1) t2;refine ih (b-(mid+1)) (by omega) (zM _) h (by omega) hb (by omega) h5 fun d6 w8 r1 r2 h=>?_;obtain⟨q1,q2⟩:=h7 d6 r1 r2;refine hX _ _ ⟨a,mid,lim,_,_,d6,rfl,by omega,by omega,by omega,by have:=r1.1;omega,q1,h,fun R s1 s2=>?_⟩ (by dsimp only;omega);obtain⟨t1,t2⟩:=q2 R s1 s2;exact hR R (permIn_trans _ _ _ _ _ hp4 t1) t2
theorem qrD{w0:World}{K:Unit->WP}(h:Arr blk T w0 w d)(y:len<=d.size/\len<=1152921504606846976)(z:∀u w',PermIn 0 len d u->SortedIn ltInt 0 len u->Arr blk T w0 w' u->K () w'): cW 113 [.slice (pW blk) len cap] [] w K:=by refine qhd (x:=⟨pW blk,len,cap⟩) ?_;unfold qft;dsimp only;rw[IntWalk.u64_in (len:Int) (by omega)];exact qo0 (by omega)<|qxl len (a:=0) (by omega) h (by omega) (zM _) y (.inl rfl) z
theorem qo7{K:Unit->WP}(h:K () w):cW 113 [.slice none 0 0] [] w K:=by refine qhd (x:=⟨none,0,0⟩) ?_;unfold qft;dsimp only;rw[IntWalk.u64_in ((0:Nat):Int) (by omega)];refine qo0 (n:=0) (by omega)<|qcp (data:=⟨none,0,0⟩) ?_;unfold qbH;refine qc3 fun X u=>cond_true (by decide +kernel)<|qbA (data:=⟨none,0,0⟩) ?_;unfold qa4;exact qc3 fun X u=>cond_false (by decide +kernel) h
end
end
theorem qu2{rb cap:Nat}{T:TypeId}{K:Sl->WP}(C:w.heap[rb]?=some (.cells (u32s d) T (0,0)))(ad:n<=d.size)(hn:n<=1000000)(hk:∀b I h T' w',w'.heap[b]?=some (.cells (u32s I) T' (0,0))->n<=I.size->n<=h/\h<=I.size->I.toList.take n=d.toList.take n->w.heap.size<=b->Fr [] w w'->K ⟨pW b,n,h⟩ w'): cW 95 [.slice (pW rb) n cap] [.one .slice] w K:=by
 obtain⟨J,hi,hz,O,R⟩:=qed;refine qgf (s:=⟨pW rb,n,cap⟩) ?_;unfold qey;refine cond_false rfl ?_;have y:=oE [] w;refine Own.new y fun tb U et ag y=>?_;have V:U.heap[rb]?=some (.cells (u32s d) T (0,0)):=(by rw[y.fr.block rb (qab C) (by simp)];exact C);have A:∀(j:Nat) u,((d.toList.take n).map (Value.int .u32))[j]?=some u->U.cell? ((⟨rb,0,none⟩:Addr).add j)=some u:=fun j u z=>by rw[Addr.add_mk,qag V,xO];rw[zQ,xA] at z;by_cases hjn:j<n;rw[if_pos hjn] at z;unfold u32s;rw[Array.getElem?_map];simpa using z;rw[if_neg hjn] at z;cases z
 have E:((d.toList.take n).map (Value.int .u32)).length=n:=(by simp;omega);dsimp only;by_cases h0:n=0;subst h0;refine qrJ (P:=prog) (e:=37) (by kernel_rfl) hi [] (y.at (i:=0) rfl) (by simp) (fun j u z=>by simp at z) (by simp) (by omega) (by simp) ?_;have G:=y.upd (o':=.cells (splice #[] (0+0*J.size) []) 37 (0,0)) 0 rfl
 have:=G.at (i:=0) rfl
 have e:u32s #[] = #[]:=(by simp[u32s]);exact hk tb #[] 0 37 _ (by rw[e];exact this) (by simp) ⟨zM _,zM _⟩ (by simp) (by omega) G.fr;refine qpb (P:=prog) (e:=37) (by kernel_rfl) hi hz [] ((d.toList.take n).map (Value.int .u32)) (by simp) (fun j u z=>by simp at z) (by rw[E,O];omega) A (by omega) (by rw[R];omega) (by omega) fun q ah ai=>?_;rw[qmT _ _ rfl];have aa:([]:List Value).toArray++((d.toList.take n).map (Value.int .u32)).toArray++Array.replicate (q-(0+n)) (.u 0)=u32s ((d.toList.take n++List.replicate (q-(0+n)) (0:Int)).toArray):=(by rw[qjJ];apply Array.ext';simp);rw[aa];have y:=y.drew.alloc (.cells (u32s ((d.toList.take n++List.replicate (q-(0+n)) (0:Int)).toArray)) 37 (0,0));have hl:(d.toList.take n).length=n:=(by simp;omega);rw[xO];refine hk _ _ q _ _ (by have:=y.at (i:=0) rfl;rw[xO] at this;exact this) (by simp;omega) ⟨by omega,by simp;omega⟩ ?_ (by show w.heap.size<=U.heap.size;omega) (by rw[xO] at y;exact y.fr);show ((d.toList.take n++List.replicate (q-n) (0:Int))).take n=_;rw[take_append_of_le_length (by omega),take_take,Nat.min_self]
theorem qcu:∀ {u y:List Int},u.Perm y->u.Pairwise (·<=·)->y.Pairwise (·<=·)->u=y
 | [],y,h,_,_=>h.nil_eq
 | a::u,[],h,_,_=>absurd h.symm.nil_eq (by simp)
 | a::u,b::y,h,G,I=>by
  have z:=yI.1 G;have A:=yI.1 I;have C:a=b:=by
   have J:a∈b::y:=h.mem_iff.1 (by simp);have K:b∈a::u:=h.mem_iff.2 (by simp);rcases zG.1 J with e|e;exact e;rcases zG.1 K with E|E;exact E.symm
   have:=A.1 a e
   have:=z.1 b E
   omega
  subst C;rw[qcu h.cons_inv z.2 A.2]
def Told (w w':World) (s:Sl) (l:List Int):Prop:=
 (l=[]/\s=⟨none,0,0⟩)\/∃b d T cap,s=⟨pW b,l.length,cap⟩/\w'.heap[b]?=some (.cells (u32s d) T (0,0))/\l.length<=d.size/\l.length<=cap/\d.toList.take l.length=l/\w.heap.size<=b/\cap<=d.size
theorem qrA{pb:Nat}{K:Sl->WP}(h:PoolAt w pb F l)(hl:l.length<=1000000)(hk:∀s w',Told w w' s l->Fr [] w w'->K s w'):cW 87 [.pointer (pW pb)] [.one .slice] w K:=by
 refine qj9 ?_;unfold qga;have u:=h.sorted;obtain⟨mb,R,d,f,rfl,hr,hm,hp,hh,hf,h1⟩:=h.ex;rcases hr with ⟨h0,hd,hR,C⟩|⟨rb,T,hR,C,E,am,G⟩;have I:l=[]:=eq_nil_of_length_eq_zero h0;subst I;refine qae<|qai C ⟨none,0,0⟩ rfl<|qgf ?_;unfold qey;exact cond_true rfl<|qo7<|hk _ _ (.inl ⟨rfl,rfl⟩) (.refl _ _);refine qae<|qai C ⟨pW rb,l.length,d.size⟩ rfl ?_;dsimp only;refine qu2 E G hl fun b d' y T' w' c1 c2 J c3 c4 c5=>?_;dsimp only;refine qrD (.start c1) ⟨c2,by omega⟩ fun O w2 s1 s2 s3=>?_;have au:=s1.1;refine hk _ _ (.inr ⟨b,O,T',y,rfl,s3.blk,by omega,J.1,?_,c4,by omega⟩) (c5.trans' s3.fr fun i z=>by simp at z;subst z;exact .inr c4);refine qcu ((qcH s1).trans (by rw[c3];exact hp)) ?_ (u.imp Int.le_of_lt);rw[pairwise_iff_getElem];intro i j z hj U;have V:i<l.length:=(by simp at z;omega);have A:j<l.length:=(by simp at hj;omega);have g1:=qcM (d:=O) rfl V;have g2:=qcM (d:=O) rfl A;rw[zA z] at g1;rw[zA hj] at g2;rw[yN g1,yN g2]
 have:=s2 i j (by omega) U A
 simp[ltInt] at this;exact this
abbrev encU:Int->List Value:=fun n=>[Value.int .u32 n]
abbrev Rd (S:List Nat) (w:World) (s:Sl) (l:List Int):Prop:=Rds encU 1 S w s l
abbrev BufU (w:World) (s:Sl) (l:List Int) (B:List Nat):Prop:=Buf encU 1 w s l B
theorem qaK:∀x,(encU x).length=1:=fun _=>rfl
theorem Rd.at{S:List Nat}{s:Sl}(h:Rd S w s l)(n:Nat){i x:Int}{K:Int->Prop}(hi:i=n)(z:l[n]?=some x)(k:K x):idx s i 1 fun a=>ld .u a w K:=
 Rds.get (y:=x) h n hi z rfl k
theorem qs0{s:Sl}{B:List Nat}{x:Int}{T:TypeId}{K:Sl->WP}(h:BufU w s l B)(J:l.length<=1000000)(C:∀A B' w',BufU w' A (l++[x]) B'->Fr B w w'->(∀b∈B',b∈B\/w.heap.size<=b)->K A w'): Pt.new (.cells #[.u x] T) w fun r E=>Pt.run [Ty1.one Cell.slice] ((Builtin.append_ #[92,92] 92 #[s.v,.slice (pW r) 1 1]).run prog E) K:=by obtain⟨i,G,I,y,z⟩:=qed;exact Buf.push (e:=37) h qaK (by simp[Value.oneCell']) (by kernel_rfl) G I y rfl rfl (by rw[z];omega) (by omega) C
theorem qoo(h:l.Pairwise (· < ·)):l.Pairwise (·<=·):=h.imp Int.le_of_lt
theorem qja{w0:World}{F':List Nat}(u:∀b∈F,w0.heap.size<=b)(z:w0.heap.size<=w.heap.size)(h:∀b∈F',b∈F\/w.heap.size<=b):∀b∈F',w0.heap.size<=b:=by intro b y;rcases h b y with h|h;exact u b h;omega
theorem qrt{pb:Nat}{K:Option Addr->WP}(h:PoolAt w pb F l)(hl:l.length<=1000000)(hk:∀V F' w',PoolAt w' V F' l->Fr [] w w'->(∀b∈F',w.heap.size<=b)->K (pW V) w'): cW 168 [.pointer (pW pb)] [.one .ptr] w K:=by
 refine qj8 ?_;unfold qf9;refine qe9 fun nb F0 w1 h1 f1 G=>?_;have am:PoolAt w1 pb F l:=h.frame f1 (fun _ _ h=>by cases h);have A:=h.sorted;refine qae ?_;obtain⟨mb,R,d,f,rfl,hr,hm,hp,hh,hf,hv⟩:=am.ex;rcases hr with ⟨h0,hd,hR,hb⟩|⟨rb,T,hR,hb,ao,aH,I⟩;have ap:l=[]:=eq_nil_of_length_eq_zero h0;subst ap;exact qai hb ⟨none,0,0⟩ rfl<|qc3 fun X hX=>cond_false rfl<|hk nb F0 w1 h1 f1 G;refine qai hb ⟨pW rb,l.length,d.size⟩ rfl ?_;dsimp only;have aD:rb<w.heap.size:=h.lt rb (by rw[hR];simp);have E:Rd F0 w1 ⟨pW rb,l.length,d.size⟩ (d.toList.take l.length):=by
  refine⟨by rw[yK,Array.length_toList];exact (xN I).symm,I,.inr ⟨rb,0,_,T,_,rfl,ao,fun hm=>by have:=G rb hm;omega,fun i x hx=>?_⟩⟩;have hi:=(zP.1 hx).1;rw[yK,Array.length_toList] at hi;have C:i<l.length:=yC hi (Nat.min_le_left _ _);have ar:i<d.size:=yC hi (Nat.min_le_right _ _);have au:=qcM (d:=d) rfl C I;rw[au] at hx;rw[xO,xQ];have hc:(u32s d)[i]?=some (.u x):=by unfold u32s;rw[Array.getElem?_map];rw[<- yN hx];simp[ar]
  apply ext_getElem?;intro j;rw[xA,yZ];match j with
  | 0=>simpa using hc
  | j+1=>simp
 have ac:(d.toList.take l.length).length=l.length:=(by simp;omega);have z:(d.toList.take l.length).Nodup:=hp.symm.nodup (A.imp (fun h=>Int.ne_of_lt h));generalize hL:d.toList.take l.length=L at E ac z hp;refine qah (fun x w'=>∃(i:Nat) (J:List Int) (F':List Nat),x=i/\i<=l.length/\PoolAt w' nb F' J/\J.Perm (L.take i)/\Fr [] w w'/\Rd F' w' ⟨pW rb,l.length,d.size⟩ L/\∀b∈F',w.heap.size<=b) (fun x _=>((l.length:Int)-x).toNat)
  ⟨0,[],F0,rfl,by omega,h1,by simp,f1,E,G⟩ ?_
 rintro x w2 ⟨i,J,F',rfl,hi,h2,y,f2,ad,O⟩ X hX;have ax:J.length=i:=(by rw[y.length_eq,yK];omega);apply qaa<;>intro hc;have C:i<l.length:=(by have:=zC hc;omega);have U:i<L.length:=(by omega);refine Rd.at ad i rfl (zA U)<|qlL h2 (by omega) fun F3 w3 h3 f3 ae=>?_;rw[wi _];have af:L[i]∉J:=by
  intro hm;have ay:=y.mem_iff.1 hm;have e:L.take (i+1)=L.take i++[L[i]]:=yF U;have ag:(L.take (i+1)).Nodup:=(take_sublist _ _).nodup z;rw[e] at ag
  have:=(yL.1 ag).2.2 _ ay L[i] (by simp)
  exact this rfl
 refine hX _ _ ⟨i+1,ins L[i] J,F3,by omega,by omega,h3,?_,f2.trans' f3 (fun b hb=>.inr (O b hb)),ad.frame f3 ae,qja O f2.size ae⟩ (by omega);rw[yF U];exact ((qcN af).trans (y.cons _)).trans (perm_append_singleton _ _).symm;have C:i=l.length:=(by have:=zB hc;omega);subst C;rw[zS (by omega)] at y;have:J=l:=qcu (y.trans hp) (qoo h2.sorted) (qoo A);subst this;exact hk nb F' w2 h2 f2 O
end
section
open Go Go.Pt List
open Go.IntKind (wrap)
attribute [local irreducible] ld ldA ldV fld fldA newZ st new idx idxS idxA slc slcS slcP mkS chk nn call callV inv run runQ runU join loop held ext rng undefer s2a nxt ent IntKind.wrap
variable {K:Sl->Prop} {L:List (Nat×Obj)} {S:List Nat} {T:TypeId} {body l:List Int} {number:Int} {s:Sl} {w:World}
abbrev encB:Int->List Value:=fun n=>[Value.int .u8 n]
abbrev RdB (S:List Nat) (w:World) (s:Sl) (l:List Int):Prop:=Rds encB 1 S w s l
abbrev BufB (w:World) (s:Sl) (l:List Int) (B:List Nat):Prop:=Buf encB 1 w s l B
theorem qat:∀x,(encB x).length=1:=fun _=>rfl
def bytesA (l:List Int):Array Value:=(l.map (Value.int .u8)).toArray
theorem qdW(l:List Int):(bytesA l).size=l.length:=by simp[bytesA]
theorem qaH(l:List Int):l.flatMap encB=l.map (Value.int .u8):=by
 induction l with
 | nil=>rfl
 | cons a l ih=>rw[yG,ih];rfl
theorem qmb:∃i,prog.info? 5=some i/\i.zero=some (.b 0)/\i.size=1/\i.bytes=1:=qe1 (by kernel_rfl)
theorem RdB.at(h:RdB S w s l)(n:Nat){i x:Int}{K:Int->Prop}(hi:i=n)(u:l[n]?=some x)(k:K x):idx s i 1 fun a=>ld .b a w K:=
 Rds.get (y:=x) h n hi u rfl k
theorem qg8{b o n cap:Nat}{L:List Int}{u:Nat×Nat}(y:w.heap[b]?=some (.cells (bytesA L) T u))(E:o+n<=L.length)(z:n<=cap)(A:b∉S:=by simp):RdB S w ⟨some ⟨b,o,none⟩,n,cap⟩ ((L.drop o).take n):=by
 refine⟨by rw[yK,yB];dsimp only;omega,z,.inr ⟨b,o,_,T,_,rfl,y,A,fun i x h=>?_⟩⟩;have C:=(zP.1 h).1;rw[yK,yB] at C;rw[xA,iP,yZ] at h;rw[xQ];apply ext_getElem?;intro j;rw[xA,yZ];match j with
 | 0=>simp[bytesA,h]
 | j+1=>simp
theorem qjX{b o len cap:Nat}{lo hi:Int}{h:Nat}(u:0<=lo)(y:lo<=hi)(z:hi<=cap)(A:lo<cap)(k:K ⟨some ⟨b,o+lo.toNat*h,none⟩,hi.toNat-lo.toNat,cap-lo.toNat⟩):slc ⟨some ⟨b,o,none⟩,len,cap⟩ (some lo) (some hi) none h K:=by unfold slc;refine⟨by simpa using ⟨u,y,z⟩,?_⟩;simp only[xT,xS,zJ];rw[iN];simp only[Option.map_some,Addr.add_mk];exact k
theorem qlB{b o len cap:Nat}{lo:Int}{h:Nat}(u:0<=lo)(y:lo<=len)(z:len<=cap)(A:lo<cap)(k:K ⟨some ⟨b,o+lo.toNat*h,none⟩,len-lo.toNat,cap-lo.toNat⟩):slc ⟨some ⟨b,o,none⟩,len,cap⟩ (some lo) none none h K:=by unfold slc;refine⟨by simp;omega,?_⟩;simp only[xT,xS,zJ];rw[iN];simp only[Option.map_some,Addr.add_mk];exact k
theorem Rds.part{α:Type}{enc:α->List Value}{k:Nat}{l:List α}(h:Rds enc k S w s l){lo hi:Option Int}(a b:Nat)(u:lo.getD 0=a)(y:hi.getD s.len=b)(O:a<=b)(I:b<=l.length)(R:∀z,z.len=b-a->Rds enc k S w z ((l.take b).drop a)->(s.a.isNone=true->z.a.isNone=true)->K z):slc s lo hi none k K:=by
 obtain⟨h1,h2,C⟩:=h;unfold slc;refine⟨by rw[u,y];simp;omega,R _ ?_ ⟨?_,?_,?_⟩ ?_⟩;rw[u,y];simp;rw[u,y];simp;omega;rw[u,y];simp;omega;by_cases he:(l.take b).drop a=[];exact .inl he;right;have U:a<b:=by rcases Nat.lt_or_ge a b with h|h;exact h;exact absurd (by rw[xZ];simp;omega) he
 rcases C with C|⟨V,o,cs,T,fr,ha,E,G,hc⟩;rw[C] at I;simp at I;omega;refine⟨V,o+a*k,cs,T,fr,?_,E,G,fun i x A=>?_⟩;rw[u];simp only[xT,zJ];rw[iN,ha];simp[Addr.add_mk];rw[yZ,xA] at A;split at A
 have:=hc (a+i) x A
 rw[<- this,xR,Nat.add_assoc];cases A;intro J;rw[Option.isNone_iff_eq_none] at J;rw[J];simp
def byteAt (n:Int) (j:Nat):Int:=wrap .u8 (Int.fdiv n (2^min (8*j) 32))
def be (n:Int) (k:Nat):List Int:=(List.range k).map fun i=>byteAt n (k-1-i)
theorem qao(n:Int)(k:Nat):(be n k).length=k:=by simp[be]
theorem wi'(n:Int)(h:-1000000000000000<=n/\n<=1000000000000000):wrap .i64 n=n:=by rw[IntWalk.i64_in];omega
theorem qqd{w0:World}{b o k cap:Nat}{A X Z:List Int}{n:Int}{K:Unit->WP}(h:Own S w0 w L)(i:Nat)(hi:L[i]?=some (b,.cells (bytesA (A++X++Z)) T (0,0)))(ho:A.length=o)(hX:X.length=k)(R:k<=4)(U:∀w',Own S w0 w' (L.set i (b,.cells (bytesA (A++be n k++Z)) T (0,0)))->K () w'): cW 150 [.slice (some ⟨b,o,none⟩) k cap,.u n] [] w K:=by
 refine qrk (b:=⟨some ⟨b,o,none⟩,k,cap⟩) ?_;unfold qn6;refine qah (fun x w'=>∃j:Nat,x=j/\j<=k/\Own S w0 w' (L.set i (b,.cells (bytesA (A++((be n k).take j++X.drop j)++Z)) T (0,0)))) (fun x _=>((k:Int)-x).toNat) ⟨0,rfl,by omega,?_⟩ ?_;have:L.set i (b,.cells (bytesA (A++((be n k).take 0++X.drop 0)++Z)) T (0,0))=L:=by
  apply ext_getElem?;intro j;rw[xU];by_cases hij:i=j;subst hij;rw[if_pos rfl,hi]
  have:=(zP.1 hi).1
  simp[this];rw[if_neg hij]
 rw[this];exact h;rintro x w1 ⟨j,rfl,hj,z⟩ Y V;have I:=(zP.1 hi).1;dsimp only;apply qaa<;>intro J;have C:j<k:=(by have:=zC J;omega);have e1:wrap .i64 (8*wrap .i64 (wrap .i64 ((k:Int)-1)-j))=((8*(k-1-j):Nat):Int):=by rw[wi' ((k:Int)-1) (by omega),wi' ((k:Int)-1-j) (by omega),wi' (8*((k:Int)-1-j)) (by omega)];omega
 rw[e1,wi' _ (by omega)];refine qaN (by omega)<|qcZ (by omega) (by omega) ?_;rw[zJ,xQ,zJ];have E:X.drop j=X[j]::X.drop (j+1):=zX (by omega);have O:(be n k).take (j+1)=(be n k).take j++[byteAt n (k-1-j)]:=by rw[yF (by rw[qao];exact C)];simp[be]
 have y:((be n k).take j).length=j:=(by rw[yK,qao];omega);refine oH z i (by rw[xU,if_pos rfl,if_pos I]) (bytesA (A++((be n k).take (j+1)++X.drop (j+1))++Z)) ?_ rfl ?_ fun w2 G _=>?_;rw[splice,splice];apply Array.ext';rw[Array.toList_setIfInBounds];show (bytesA _).toList.set _ _=(bytesA _).toList;unfold bytesA;simp only[toList_toArray];rw[<- map_set,E,O,zV A,set_append_right _ _ (by omega)];rw[show o+j-A.length=j by omega,zV ((be n k).take j),set_append_right _ _ (by omega),y,Nat.sub_self,xH,set_cons_zero];simp only[zV,xH,xG,byteAt];refine Nat.ble_eq_true_of_le ?_;rw[qdW,E];simp only[zF,yH,length_nil,y];omega;refine V _ _ ⟨j+1,by omega,by omega,?_⟩ (by omega);rw[set_set] at G;exact G;have C:j=k:=(by have:=zB J;omega);subst C;rw[zS (by rw[qao];exact zM _),drop_of_length_le (by omega),xF] at z;exact U _ z
def getV (l:List Int):Int:=l.foldl (fun r x=>bits .or .u32 (wrap .u32 (r*2^8)) (wrap .u32 x)) 0
theorem qpC{K:Int->WP}(h:RdB S w s l)(J:l.length<=100000)(G:K (getV l) w):cW 157 [s.v] [.one .u] w K:=by refine qrj ?_;unfold qn5;have C:=h.1;refine qah (fun x w'=>w'=w/\∃i:Nat,x.2=i/\i<=l.length/\x.1=getV (l.take i)) (fun x _=>((l.length:Int)-x.2).toNat) ⟨rfl,0,rfl,by omega,rfl⟩ ?_;rintro⟨r,ii⟩ w' ⟨rfl,i,z,O,E⟩ X I;simp only at z E;subst z E;apply qaa<;>intro A;have y:i<l.length:=(by have:=zC A;omega);refine RdB.at h i rfl (zA y) ?_;rw[wi' _ (by omega)];refine I _ _ ⟨rfl,i+1,by simp,by omega,?_⟩ (by dsimp only;omega);rw[yF y,getV,getV,foldl_append];rfl;have y:i=l.length:=(by have:=zB A;omega);subst y;rw[xX];exact G
theorem qko{K:Sl->World->Prop}(h:RdB S w s l)(hl:l.length<=1000000)(hk:∀s' B w',BufB w' s' l B->Fr [] w w'->(∀b∈B,w.heap.size<=b)->(s.a.isNone=true->s'=⟨none,0,0⟩)->(s.a.isNone=false->s'.a.isNone=false)->K s' w'): cond (Option.isNone s.a) (K ⟨none,0,0⟩ w) (new (.cells #[] 5) w fun r w1=>Pt.run [Ty1.one Cell.slice] ((Builtin.append_ #[23,23] 23 #[.slice (some ⟨r,0,none⟩) 0 0,.slice s.a s.len s.cap]).run prog w1) fun s' w'=>K s' w'):=by
 obtain⟨i5,hi,hz,hsz,hby⟩:=qmb;apply qaa<;>intro hc;have hl0:l=[]:=by rcases h.2.2 with h3|⟨b,o,cs,T,fr,ha,_⟩;exact h3;rw[ha] at hc;cases hc
 subst hl0;exact hk _ [] w (.nil _ _ _) (.refl _ _) (by simp) (fun _=>rfl) (fun h=>by rw[hc] at h;cases h);obtain⟨a,ha⟩:∃a,s.a=some a:=by cases hs:s.a with|none=>rw[hs] at hc;cases hc|some a=>exact⟨a,rfl⟩
 have ho:=oE [] w;refine Own.new ho fun r w1 e1 s1 ho=>?_;have h1:RdB S w1 s l:=h.frame0 ho.fr;have hb:BufB w1 ⟨some ⟨r,0,none⟩,0,0⟩ [] [r]:=Buf.fresh qat (ho.at (i:=0) rfl) rfl (zM _) (by simp) (by simp);have hlen:=h.1;rw[ha];refine Buf.appSrc (s:=⟨some ⟨r,0,none⟩,0,0⟩) (ys:=l) (e:=5) hb qat (by kernel_rfl) hi hz hsz rfl (.ofSlice _ (e':=5) (by kernel_rfl) a s.len s.cap _ ?_ (h1.cells qat ha) ?_) hlen (by rw[hby,hlen];simp;omega) (by rw[hlen];simp;omega) fun s' B w' g1 g2 g3 g4=>?_;rw[qaH];simp[hlen];intro u hu;rw[qaH] at hu;obtain⟨x,_,rfl⟩:=List.mem_map.1 hu;rfl;have hBn:∀b∈B,w.heap.size<=b:=fun b hb=>by rcases g3 b hb with h|h;simp at h;omega;omega
 refine hk s' B w' (by simpa using g1) (ho.fr.trans' g2 (fun b hb=>by simp at hb;subst hb;exact .inr (by omega))) hBn (fun h=>by rw[hc] at h;cases h) (fun _=>?_);rcases g4 with hn|hn;exact hn;simp at hn
theorem qa3{K:Sl->WP}(h:RdB S w s l)(y:l.length<=1000000)(z:∀u B w',BufB w' u l B->Fr [] w w'->(∀b∈B,w.heap.size<=b)->(s.a.isNone=true->u=⟨none,0,0⟩)->(s.a.isNone=false->u.a.isNone=false)->K u w'): cW 123 [s.v] [.one .slice] w K:=by refine qlC ?_;unfold qhb;exact qko h y z
theorem qgI{K:Sl->WP}(h:RdB S w s l)(y:l.length<=1000000)(z:∀u B w',BufB w' u l B->Fr [] w w'->(∀b∈B,w.heap.size<=b)->(s.a.isNone=true->u=⟨none,0,0⟩)->(s.a.isNone=false->u.a.isNone=false)->K u w'): cW 68 [s.v] [.one .slice] w K:=by refine qmY ?_;unfold qiL;exact qko h y z
def halvesL:List Int:=[0,274646895,549293790,820201905,1098587580,1361435347,1640403810,1905808397,2197175160,2460548119,2722870694,2987750089,3280807620,3553878443,3811616794,4084100981]
abbrev HG:Nat:=1
def Hv (w:World):Prop:=∃T h,w.heap[HG]?=some (.cells (halvesL.map (Value.int .u32)).toArray T h)
theorem Hv.frame{w':World}(h:Hv w)(f:Fr S w w')(y:HG∉S):Hv w':=by obtain⟨T,z,u⟩:=h;exact⟨T,z,by rw[f.block HG (qab u) y];exact u⟩
theorem Hv.frame0{w':World}(h:Hv w)(f:Fr [] w w'):Hv w':=h.frame f (by simp)
theorem Hv.lt(h:Hv w):HG<w.heap.size:=by obtain⟨T,y,u⟩:=h;exact qab u
theorem qsp(x:Int):0<=bits .and .u32 x 15/\bits .and .u32 x 15<16:=by have h:(BitVec.ofInt 32 x&&& BitVec.ofInt 32 15).toNat<16:=(by rw[BitVec.toNat_and];exact Nat.lt_of_le_of_lt Nat.and_le_right (by decide));have u:bits .and .u32 x 15=((BitVec.ofInt 32 x&&& BitVec.ofInt 32 15).toNat:Int):=(by show wrap .u32 _=_;unfold wrap;have:(IntKind.u32.signed)=false:=rfl;simp only[this,Bool.false_and,Bool.false_eq_true,if_false];have e:((2:Int)^IntKind.u32.bits)=4294967296:=rfl;rw[e];exact Int.emod_eq_of_lt (by omega) (by have:(BitVec.ofInt IntKind.u32.bits x&&& BitVec.ofInt IntKind.u32.bits 15).toNat<16:=h;omega));rw[u];omega
def half (x:Int):Int:=halvesL.getD x.toNat 0
def turn4 (r:Int):Int:=bits .xor .u32 (Int.fdiv r (2^4)) (half (bits .and .u32 r 15))
def crcStep (r x:Int):Int:=turn4 (turn4 (bits .xor .u32 r (wrap .u32 x)))
def moreV (h:Int) (l:List Int):Int:=bits .xor .u32 (l.foldl crcStep (bits .xor .u32 h 4294967295)) 4294967295
def sumV (l:List Int):Int:=moreV 0 l
theorem qrU{x:Int}{K:Int->Prop}(h:Hv w)(k:K (half (bits .and .u32 x 15))):ld .u (Addr.add ⟨HG,0,none⟩ (Int.toNat (bits .and .u32 x 15)*1)) w K:=by obtain⟨T,G,A⟩:=h;obtain⟨C,E⟩:=qsp x;rw[Addr.add_mk];refine qai A _ ?_ k;generalize bits .and .u32 x 15=y at C E;have z:y.toNat<halvesL.length:=(by show y.toNat<16;omega);rw[xO,xQ];simp only[List.getElem?_toArray,zQ,zA z,Option.map_some,half,yQ,xS];rfl
theorem qwX{z:Int}{K:Int->WP}(h:RdB S w s l)(E:Hv w)(R:l.length<=100000)(J:K (moreV z l) w): cW 199 [.u z,s.v] [.one .u] w K:=by refine qqW ?_;unfold qnG;have G:=h.1;refine qah (fun x w'=>w'=w/\∃i:Nat,x.2=i/\i<=l.length/\x.1=(l.take i).foldl crcStep (bits .xor .u32 z 4294967295)) (fun x _=>((l.length:Int)-x.2).toNat) ⟨rfl,0,rfl,by omega,rfl⟩ ?_;rintro⟨r,ii⟩ w' ⟨rfl,i,A,U,I⟩ X O;simp only at A I;subst A I;apply qaa<;>intro C;have y:i<l.length:=(by have:=zC C;omega);refine RdB.at h i rfl (zA y)<|qaN (qsp _)<|qrU E<|qaN (qsp _)<|qrU E ?_;rw[wi' _ (by omega)];refine O _ _ ⟨rfl,i+1,by simp,by omega,?_⟩ (by dsimp only;omega);rw[yF y,foldl_append];rfl;have y:i=l.length:=(by have:=zB C;omega);subst y;rw[xX];exact J
theorem quU{K:Int->WP}(h:RdB S w s l)(y:Hv w)(z:l.length<=100000)(A:K (sumV l) w): cW 151 [s.v] [.one .u] w K:=by refine qsz ?_;unfold qph;exact qwX h y z A
theorem qfv{α:Type}(A X Y Z:List α)(h:X.length=Y.length):(A++X++Z).take A.length++Y++(A++X++Z).drop (A.length+Y.length)=A++Y++Z:=by have u:(A++X++Z).take A.length=A:=(by rw[zV,take_append_of_le_length (zM _),zS (zM _)]);have y:(A++X++Z).drop (A.length+Y.length)=Z:=(by rw[<- h,<- zF,drop_append_of_le_length (zM _),drop_of_length_le (zM _),xG]);rw[u,y]
theorem qjw{A X Y Z:List Int}(h:X.length=Y.length):splice (bytesA (A++X++Z)) A.length (Y.map (Value.int .u8))=bytesA (A++Y++Z):=by
 apply Array.ext';rw[qar _ _ _ (by rw[qdW];simp only[zF,zK];omega)]
 have:=qfv (A.map (Value.int .u8)) (X.map (Value.int .u8)) (Y.map (Value.int .u8)) (Z.map (Value.int .u8)) (by simpa using h)
 simpa only[bytesA,xJ,toList_toArray,zK] using this
def zs (n:Nat):List Int:=List.replicate n 0
theorem qaI(n:Nat):(zs n).length=n:=length_replicate
theorem qho(a b:Nat):zs (a+b)=zs a++zs b:=replicate_append_replicate.symm
theorem qxN:zs 1=[0]:=rfl
theorem qqL(n:Nat):(List.replicate n (Value.int .u8 0)).toArray=bytesA (zs n):=by unfold bytesA zs;rw[map_replicate]
theorem Own.bytes{w0:World}{b:Nat}{l':List Int}(h:Own S w0 w ((b,.cells (bytesA l) T (0,0))::L))(e:l=l'):Own S w0 w ((b,.cells (bytesA l') T (0,0))::L):=by rw[<- e];exact h
def restV (number kind:Int) (body:List Int):List Int:=be number 4++[kind]++be (wrap .u32 body.length) 2++[0]++body++zs (500-body.length)
def sealV (number kind:Int) (body:List Int):List Int:=be (sumV (restV number kind body)) 4++restV number kind body
theorem qgd{kind:Int}(h:body.length<=500):(restV number kind body).length=508:=by simp only[restV,qao,qaI,zF,yH,length_nil];omega
theorem qbz{kind:Int}(h:body.length<=500):(sealV number kind body).length=512:=by rw[sealV,zF,qao,qgd h]
theorem qnk{kind:Int}{K:Sl×Int->WP}(h:RdB S w s l)(I:Hv w)(hl:l.length<=100000)(E:500<l.length->K (⟨none,0,0⟩,3) w)(hk:l.length<=500->∀b T w',w'.heap[b]?=some (.cells (bytesA (sealV number kind l)) T (0,0))->Fr [] w w'->w.heap.size<=b->K (⟨pW b,512,512⟩,0) w'): cW 114 [.u number,.b kind,s.v] [.one .slice,.one .i] w K:=by
 refine qp6 ?_;unfold qms;have C:=h.1;refine qaa (fun J=>E (by have:=zC J;omega)) (fun J=>?_);have z:l.length<=500:=(by have:=zB J;omega);refine Own.mk1 (oE [] w) (by decide) (by decide) (by decide) (by decide) fun b w1 eb y=>?_;rw[qqL] at y;replace y:=Own.bytes (l':=zs 4++zs 4++zs 504) y (by rw[<- qho,<- qho];rfl);refine qjX (by decide) (by decide) (by decide) (by decide)<|qqd (k:=4) y 0 rfl (qaI 4) (qaI 4) (by decide) fun w2 y=>?_;replace y:=Own.bytes (l':=(zs 4++be number 4)++zs 1++zs 503) y (by rw[show (504:Nat)=1+503 from rfl,qho,zV,zV,zV]);refine qcZ (by omega) (by simp)<|oH y 0 rfl _ (qjw (A:=zs 4++be number 4) (X:=zs 1) (Y:=[kind]) rfl) rfl (by rw[qdW];simp only[zF,qaI,qao];rfl) fun w3 y _=>?_;replace y:=Own.bytes (l':=(zs 4++be number 4++[kind])++zs 2++zs 501) y (by rw[show (503:Nat)=2+501 from rfl,qho,zV,zV,zV,zV,zV]);refine qjX (by omega) (by omega) (by simp) (by simp)<|qqd (k:=2) y 0 rfl (by simp only[zF,qaI,qao];rfl) (qaI 2) (by decide) fun w4 y=>?_;replace y:=Own.bytes (l':=(zs 4++be number 4++[kind]++be (wrap .u32 s.len) 2++[0])++zs l.length++zs (500-l.length)) y (by rw[show (501:Nat)=1+(l.length+(500-l.length)) by omega,qho,qho,qxN];simp only[zV]);refine qlB (by omega) (by simp) (by simp) (by simp) ?_;have U:RdB S w4 s l:=h.frame0 y.fr;have V:(zs 4++be number 4++[kind]++be (wrap .u32 s.len) 2++[0]).length=12:=(by simp only[zF,qaI,qao];rfl);refine Own.copy1 (el:=5) (vs:=l.map (Value.int .u8)) y 0 rfl (by kernel_rfl) (by kernel_rfl) (by rw[zK,C];exact (xN (by show l.length<=500;omega)).symm) (fun G=>?_) (fun v I=>by obtain⟨x,_,rfl⟩:=mem_map.1 I;rfl) (by rw[qdW,zF,zF,V,qaI,qaI,zK];omega) fun w5 y=>?_;rcases U.2.2 with h3|⟨bb,o,cs,T,fr,ha,_⟩;rw[h3] at G;exact absurd rfl G;refine⟨_,ha,?_⟩
 have:=U.cells qat ha
 rw[qaH] at this;exact this;have e5:=qjw (A:=zs 4++be number 4++[kind]++be (wrap .u32 s.len) 2++[0]) (X:=zs l.length) (Y:=l) (Z:=zs (500-l.length)) (qaI _);rw[V] at e5;have e7:(0:Nat)+Int.toNat 12*1=12:=rfl;rw[e7,e5] at y;replace y:=Own.bytes (l':=[]++zs 4++restV number kind l) y (by simp only[restV,C,zV,xG]);refine qjr ⟨by omega,by simp⟩<|qlB (by omega) (by simp) (by simp) (by simp) ?_;have O:=y.drew;have hr:RdB [] w5.drew ⟨some ⟨b,0+Int.toNat 4*1,none⟩,(512:Int).toNat-Int.toNat 4,(512:Int).toNat-Int.toNat 4⟩ (restV number kind l):=by
  have:=qg8 (S:=[]) (o:=4) (n:=508) (cap:=508) (O.at (i:=0) rfl) (by rw[zF,zF,qaI,qgd z];simp) (zM _)
  rw[xG,drop_append_of_le_length (by rw[qaI];exact zM _),drop_of_length_le (by rw[qaI];exact zM _),xG,zS (by rw[qgd z];exact zM _)] at this;exact this
 have R:Hv w5.drew:=I.frame0 O.fr;refine quU hr R (by rw[qgd z];decide)<|qqd (k:=4) O 0 rfl rfl (qaI 4) (by decide) fun w6 y=>hk z b _ w6 (y.at (i:=0) rfl) y.fr (by omega)
def IsB (l:List Int):Prop:=∀x∈l,0<=x/\x<256
theorem IsB.take{l:List Int}(h:IsB l)(n:Nat):IsB (l.take n):=fun x u=>h x (yU u)
theorem IsB.drop{l:List Int}(h:IsB l)(n:Nat):IsB (l.drop n):=fun x u=>h x (yT u)
theorem qtH(h:IsB l):((Lib.countByte (Lib.bytesOf l) (0:Int).toNat.toUInt8:Nat):Int)=l.length↔∀x∈l,x=0:=by
 have key:∀l:List Int,IsB l->((Lib.bytesOf l).count (0:UInt8)<=l.length/\((Lib.bytesOf l).count (0:UInt8)=l.length↔∀x∈l,x=0)):=by
  intro l;induction l with
  | nil=>intro _;simp[Lib.bytesOf]
  | cons a l ih=>
   intro u;obtain⟨E,y⟩:=ih (fun x z=>u x (zN _ z));have G:=u a (by simp);have e:Lib.bytesOf (a::l)=UInt8.ofNat a.toNat::Lib.bytesOf l:=rfl;rw[e,count_cons];have A:(UInt8.ofNat a.toNat==0)=decide (a=0):=by
    by_cases h0:a=0;subst h0;rfl;rw[zU h0,zR];intro C
    have:=congrArg UInt8.toNat C
    simp at this;omega
   rw[A];by_cases h0:a=0;subst h0;simp only[decide_true,if_true,yH,zG,forall_eq_or_imp,true_and];exact⟨by omega,by rw[<- y];omega⟩;simp only[h0,decide_false,Bool.false_eq_true,if_false,yH,zG,forall_eq_or_imp,false_and,iff_false];omega
 have:=(key l h).2
 show (((Lib.bytesOf l).count _:Nat):Int)=_↔_;rw[<- this];exact Int.ofNat_inj
theorem qm0{b2 cap2:Nat}{K:Int->World->Prop}(h:RdB S w s l)(hB:IsB l)(hc2:w.cell? ⟨b2,0,none⟩=some (.int .u8 0))(hk:∀c:Int,(c=l.length↔∀x∈l,x=0)->K c w): call prog 158 [.slice s.a s.len s.cap,.slice (some ⟨b2,0,none⟩) 1 cap2] [.one (.int .i64)] w K:=by
 refine qmZ (s:=s) (sep:=⟨some ⟨b2,0,none⟩,1,cap2⟩) ?_;unfold qiM;have hlen:=h.1;refine cond_false (by rfl)<|cond_true (by rfl)<|qcZ (by omega) (by simp)<|qdY (c:=.int .u8) 0 hc2 ?_;have hcount:(Extern.BytealgCount.count #[.slice s.a s.len s.cap,.int .u8 0]).run prog w=.ok (.int .i64 (Lib.countByte (Lib.bytesOf l) (0:Int).toNat.toUInt8)) w:=by
  cases ha:s.a with
  | none=>
   have hl0:l=[]:=by rcases h.2.2 with h3|⟨b,o,cs,T,fr,ha',_⟩;exact h3;rw[ha] at ha';cases ha'
   subst hl0;exact Lib.run_countNil w _ _ _
  | some a=>
   refine Lib.run_countAt w a s.len s.cap l hlen.symm (fun i hi=>?_) 0
   have:=h.cells qat ha i (.int .u8 (l.getD i 0)) ?_
   exact this;rw[qaH,zQ,yQ,zA (by omega)];rfl
 exact qiU (e:=Extern.BytealgCount.count) Tryz.func204 (by kernel_rfl) (by kernel_rfl) (by kernel_rfl) (by kernel_rfl) (((Lib.countByte (Lib.bytesOf l) (0:Int).toNat.toUInt8:Nat):Int)) w hcount<|hk _ (qtH hB)
def openV (number:Int) (b:List Int):Int×List Int×Int:=
 if b.length≠512 then (0,[],1)
 else if getV (b.take 4)≠sumV (b.drop 4) then (0,[],8)
 else if getV ((b.take 8).drop 4)≠number then (0,[],4)
 else if getV ((b.take 11).drop 9)>500\/b.getD 11 0≠0 then (0,[],2)
 else if ∃x∈b.drop (12+(getV ((b.take 11).drop 9)).toNat),x≠0 then (0,[],2)
 else (b.getD 8 0,(b.take (12+(getV ((b.take 11).drop 9)).toNat)).drop 12,0)
theorem qa5(x:Int)(h:0<=x/\x<4294967296:=by omega):wrap .u32 x=x:=by unfold wrap;have:(IntKind.u32.signed)=false:=rfl;simp only[this,Bool.false_and,Bool.false_eq_true,if_false];exact Int.emod_eq_of_lt h.1 h.2
theorem qaW(x:Int):0<=wrap .u32 x/\wrap .u32 x<4294967296:=by unfold wrap;have:(IntKind.u32.signed)=false:=rfl;simp only[this,Bool.false_and,Bool.false_eq_true,if_false];exact⟨Int.emod_nonneg _ (by decide),Int.emod_lt_of_pos _ (by decide)⟩
theorem qcr(h:BinOp)(x y:Int):0<=bits h .u32 x y/\bits h .u32 x y<4294967296:=qaW _
theorem qsE(l:List Int):0<=getV l/\getV l<4294967296:=by
 unfold getV;have:∀(l:List Int) (a:Int),0<=a/\a<4294967296->0<=l.foldl (fun r x=>bits .or .u32 (wrap .u32 (r*2^8)) (wrap .u32 x)) a/\l.foldl (fun r x=>bits .or .u32 (wrap .u32 (r*2^8)) (wrap .u32 x)) a<4294967296:=by
  intro l;induction l with
  | nil=>intro a h;exact h
  | cons x l ih=>intro a _;exact ih _ (qcr _ _ _)
 exact this l 0 (by decide)
theorem qne{K:Int×Sl×Int->WP}(h:RdB S w s l)(hv:Hv w)(hB:IsB l)(hl:l.length<=100000)(hk:∀s' B w',BufB w' s' (openV number l).2.1 B->Fr [] w w'->(∀b∈B,w.heap.size<=b)->K ((openV number l).1,s',(openV number l).2.2) w'): cW 126 [.u number,s.v] [.one .b,.one .slice,.one .i] w K:=by
 refine qp5 ?_;unfold qmr;have G:=h.1;have A:∀ {e:Int} {w':World},openV number l=(0,[],e)->Fr [] w w'->K (0,⟨none,0,0⟩,e) w':=by
  intro e w' he hf
  have:=hk ⟨none,0,0⟩ [] w' (by rw[he];exact .nil _ _ _) hf (by simp)
  rw[he] at this;exact this
 apply qaa<;>intro y;refine A ?_ (.refl _ _);have:l.length≠512:=(by simp at y;omega);simp[openV,this];have I:l.length=512:=(by simp at y;omega);refine Rds.part h 0 4 rfl rfl (by omega) (by omega) fun s1 l1 r1 _=>Rds.part h 4 512 rfl (by rw[G,I];rfl) (by omega) (by omega) fun s2 l2 r2 _=>?_;rw[zS (by omega)] at r2;rw[xD] at r1;have V:Fr [] w w.drew:=(Fr.refl _ _).drew;have ai:Hv w.drew:=hv.frame0 V;refine qpC (w:=w.drew) r1 (by rw[yK];omega)<|quU (w:=w.drew) r2 ai (by rw[yB];omega) ?_;have U:¬l.length≠512:=(by omega);apply qaa<;>intro y;refine A ?_ V;have:getV (l.take 4)≠sumV (l.drop 4):=(by simpa using y);rw[openV,if_neg U,if_pos this];have h1:¬getV (l.take 4)≠sumV (l.drop 4):=(by simpa using y);have hd:RdB S w.drew s l:=h;refine Rds.part hd 4 8 rfl rfl (by omega) (by omega) fun s3 l3 r3 _=>qpC r3 (by rw[yB,yK];omega) ?_;apply qaa<;>intro y;refine A ?_ V;have:getV ((l.take 8).drop 4)≠number:=(by simpa using y);rw[openV,if_neg U,if_neg h1,if_pos this];have h2:¬getV ((l.take 8).drop 4)≠number:=(by simpa using y);refine Rds.part hd 9 11 rfl rfl (by omega) (by omega) fun s4 l4 r4 _=>qpC r4 (by rw[yB,yK];omega) ?_;have hn:=qsE ((l.take 11).drop 9);have ak:l[11]?=some (l.getD 11 0):=(by rw[yQ,zA (by omega)];rfl);have g8:l[8]?=some (l.getD 8 0):=(by rw[yQ,zA (by omega)];rfl);refine qaf (fun b w'=>b=decide (getV ((l.take 11).drop 9)>500\/l.getD 11 0≠0)/\w'=w.drew) ?_ ?_;apply qaa<;>intro y;exact⟨by rw[zZ (Or.inl (zC y))],rfl⟩;refine RdB.at hd 11 rfl ak ⟨?_,rfl⟩
 have:=zB y
 generalize l.getD 11 0=z;by_cases hz:z=0<;>simp[this,hz];rintro b w1 ⟨rfl,rfl⟩;apply qaa<;>intro y;refine A ?_ V;rw[openV,if_neg U,if_neg h1,if_neg h2,if_pos (zC y)];have h3:=zB y;have J:getV ((l.take 11).drop 9)<=500:=by rcases Int.lt_or_le 500 (getV ((l.take 11).drop 9)) with h|h;exact absurd (Or.inl h) h3;exact h
 have ov:openV number l=if ∃x∈l.drop (12+(getV ((l.take 11).drop 9)).toNat),x≠0 then (0,[],2) else (l.getD 8 0,(l.take (12+(getV ((l.take 11).drop 9)).toNat)).drop 12,0):=by rw[openV,if_neg U,if_neg h1,if_neg h2,if_neg h3]
 generalize getV ((l.take 11).drop 9)=n at hn J ov;obtain⟨m,rfl⟩:∃m:Nat,n=m:=⟨n.toNat,by omega⟩;rw[qa5 _];rw[zJ] at ov;refine Rds.part hd (12+m) 512 (by simp) (by rw[G,I];rfl) (by omega) (by omega) fun s5 l5 r5 _=>?_;rw[zS (by omega)] at r5;have ho:=oE [] w.drew;refine Own.new ho fun zb w2 ez sz ho=>?_;have am:RdB S w2 s5 (l.drop (12+m)):=r5.frame0 ho.fr;refine qm0 am (hB.drop _) (ho.cell (off:=0) 0 rfl rfl) fun c ac=>?_;have E:Fr [] w w2:=V.trans ho.fr;have ad:=r5.1;apply qaa<;>intro y;refine A ?_ E;have an:¬ ∀x∈l.drop (12+m),x=0:=by rw[<- ac];intro e;rw[e,ad] at y;simp at y
 rw[ov,if_pos];exact Classical.byContradiction fun ao=>an fun x hx=>Classical.byContradiction fun aq=>ao ⟨x,hx,aq⟩;have ae:∀x∈l.drop (12+m),x=0:=by rw[<- ac];rw[ad] at y;simpa using y
 rw[if_neg (by rintro⟨x,hx,U⟩;exact U (ae x hx))] at ov;have af:RdB S w2.drew s l:=(h.frame0 E).drew;obtain⟨_,b8,o8,au,_,ag,T8,av,O,aw⟩:=Rds.at af 8 g8;have R:ag[o8+8]?=some (.b (l.getD 8 0)):=by
  have:=congrArg (·[0]?) aw
  simpa using this
 refine qbo au ⟨by omega,by omega⟩ ?_;have C:∀ {w':World},w'.heap[b8]?=some (.cells ag T8 av)->w'.cell? ⟨b8,o8+Int.toNat 8*1,none⟩=some (.b (l.getD 8 0)):=fun hb=>by rw[qag hb];exact R
 refine qdY (l.getD 8 0) (C O)<|Rds.part af 12 (12+m) rfl (by simp) (by omega) (by omega) fun s6 l6 r6 _=>?_;have lm:((l.take (12+m)).drop 12).length=m:=(by rw[yB,yK];omega);refine qgI r6 (by rw[lm];omega) fun s7 B w3 ay f7 n7 _ _=>qaj (C (by show _=_;rw[f7.block b8 (qab O) (by simp)];exact O)) ?_;have e1:(w2.drew).heap.size=w2.heap.size:=rfl
 have:=hk s7 B w3 (by rw[ov];exact ay) (E.drew.trans f7) (fun b hb=>by have:=n7 b hb;have:=E.size;omega)
 rw[ov] at this;exact this
end
section
open Go Go.Pt List
open Go.IntKind (wrap)
variable {K:Int×Int->WP} {a b body:List Int} {n number:Int} {w:World}
theorem wu8(x:Int):wrap .u8 x=x%256:=by unfold wrap;have:(IntKind.u8.signed)=false:=rfl;simp only[this,Bool.false_and,Bool.false_eq_true,if_false];rfl
theorem qxG{r x:Int}(h:0<=r/\r<16777216)(u:0<=x/\x<256):bits .or .u32 (wrap .u32 (r*2^8)) (wrap .u32 x)=r*256+x:=by rw[qa5 x,qa5 (r*2^8)];obtain⟨a,rfl⟩:∃a:Nat,r=a:=⟨r.toNat,by omega⟩;obtain⟨b,rfl⟩:∃b:Nat,x=b:=⟨x.toNat,by omega⟩;have e1:((a:Int)*2^8)=((2^8*a:Nat):Int):=(by omega);rw[e1];show wrap .u32 ((BitVec.ofInt 32 ((2^8*a:Nat):Int)||| BitVec.ofInt 32 (b:Int)).toNat:Nat)=_;rw[BitVec.toNat_or,BitVec.ofInt_natCast,BitVec.ofInt_natCast,BitVec.toNat_ofNat,BitVec.toNat_ofNat,Nat.mod_eq_of_lt (show 2^8*a<2^32 by omega),Nat.mod_eq_of_lt (show b<2^32 by omega),<- Nat.two_pow_add_eq_or_of_lt (show b<2^8 by omega)];rw[qa5 _];omega
def beV (l:List Int):Int:=l.foldl (fun r x=>r*256+x) 0
theorem qhG:∀ {l:List Int},IsB l->l.length<=4->getV l=beV l:=by
 have key:∀(l:List Int) (r:Int) (k:Nat),IsB l->l.length<=k->k<=4->0<=r->r<256^(4-k)->
   l.foldl (fun r x=>bits .or .u32 (wrap .u32 (r*2^8)) (wrap .u32 x)) r=l.foldl (fun r x=>r*256+x) r:=by
  intro l;induction l with
  | nil=>intros;rfl
  | cons x l ih=>
   intro r k u h z C A;have E:=u x (by simp);simp only[yH] at h;have G:r<16777216:=by
    have:(256:Int)^(4-k)<=256^3:=by
     have:(4-k)<=3:=(by omega);match k,z,h with
     | 1,_,_=>decide
     | 2,_,_=>decide
     | 3,_,_=>decide
     | 4,_,_=>decide
    have e:(256:Int)^3=16777216:=(by decide);omega
   rw[foldl_cons,foldl_cons,qxG ⟨C,G⟩ E];match k,z,h,A with
   | k+1,z,h,A=>
    refine ih _ k (fun y I=>u y (zN _ I)) (by omega) (by omega) (by omega) ?_;have e:4-k=(4-(k+1))+1:=(by omega);rw[e,Int.pow_succ];omega
 intro l u h;exact key l 0 4 u h (by decide) (by decide) (by decide)
theorem qcU(h:0<=n)(j:Nat)(u:j<=3:=by decide):byteAt n j=n / 256^j%256:=by
 unfold byteAt;rw[wu8,Int.fdiv_eq_ediv_of_nonneg _ (by exact Int.pow_nonneg (by decide))];match j,u with
 | 0,_=>rfl
 | 1,_=>rfl
 | 2,_=>rfl
 | 3,_=>rfl
theorem be4(h:0<=n):be n 4=[n / 16777216%256,n / 65536%256,n / 256%256,n%256]:=by have e:be n 4=[byteAt n 3,byteAt n 2,byteAt n 1,byteAt n 0]:=rfl;rw[e,qcU h 3,qcU h 2,qcU h 1,qcU h 0];simp
theorem be2(h:0<=n:=by omega):be n 2=[n / 256%256,n%256]:=by have e:be n 2=[byteAt n 1,byteAt n 0]:=rfl;rw[e,qcU h 1,qcU h 0];simp
theorem qbN(n:Int)(k:Nat):IsB (be n k):=by intro x h;obtain⟨i,_,rfl⟩:=mem_map.1 h;unfold byteAt;rw[wu8];omega
theorem qlf(h:0<=n/\n<4294967296):getV (be n 4)=n:=by rw[qhG (qbN _ _) (by rw[qao];exact zM _),be4 h.1];show (((0*256+_)*256+_)*256+_)*256+_=n;omega
theorem qpB(h:0<=n/\n<65536:=by omega):getV (be n 2)=n:=by rw[qhG (qbN _ _) (by rw[qao];decide),be2 h.1];show (0*256+_)*256+_=n;omega
theorem qtm(l:List Int):0<=sumV l/\sumV l<4294967296:=by unfold sumV moreV;exact qcr _ _ _
theorem IsB.append(h:IsB a)(k:IsB b):IsB (a++b):=fun x y=>by rcases zD.1 y with u|u;exact h x u;exact k x u
theorem IsB.zs(n:Nat):IsB (zs n):=fun x h=>by
 have:=eq_of_mem_replicate h
 omega
theorem IsB.one{x:Int}(h:0<=x/\x<256):IsB [x]:=fun y u=>by simp at u;subst u;exact h
theorem quJ{kind:Int}(h:0<=kind/\kind<256)(u:IsB body):IsB (restV number kind body):=
 (((((qbN _ _).append (.one h)).append (qbN _ _)).append (.one (by decide))).append u).append (.zs _)
theorem qc9{kind:Int}(h:0<=kind/\kind<256)(u:IsB body):IsB (sealV number kind body):=(qbN _ _).append (quJ h u)
theorem qgA{kind:Int}(C:0<=number/\number<4294967296)(E:body.length<=500):openV number (sealV number kind body)=(kind,body,0):=by
 have u:wrap .u32 (body.length:Int)=(body.length:Int):=qa5 _;have e0:sealV number kind body=be (sumV (restV number kind body)) 4++(be number 4++([kind]++(be body.length 2++([0]++(body++zs (500-body.length)))))):=by
  rw[sealV];conv=>lhs;rhs;rw[restV]
  rw[u];simp only[zV]
 have l4:=qao (sumV (restV number kind body)) 4;have e1:(sealV number kind body).take 4=be (sumV (restV number kind body)) 4:=(by rw[sealV,take_append_of_le_length (by rw[qao];exact zM _),zS (by rw[qao];exact zM _)]);have G:(sealV number kind body).drop 4=restV number kind body:=(by rw[sealV,drop_append_of_le_length (by rw[qao];exact zM _),drop_of_length_le (by rw[qao];exact zM _),xG]);have A:∀n,∃a b c d,be n 4=[a,b,c,d]:=fun n=>⟨_,_,_,_,rfl⟩;have I:∀n,∃a b,be n 2=[a,b]:=fun n=>⟨_,_,rfl⟩;obtain⟨J,K,O,R,U⟩:=A (sumV (restV number kind body));obtain⟨V,n1,n2,n3,y⟩:=A number;obtain⟨l0,l1,z⟩:=I body.length;have h:sealV number kind body=J::K::O::R::V::n1::n2::n3::kind::l0::l1::0::(body++zs (500-body.length)):=by rw[e0,U,y,z];rfl
 have g1:getV ((sealV number kind body).take 4)=sumV ((sealV number kind body).drop 4):=(by rw[e1,G,qlf (qtm _)]);have g2:getV (((sealV number kind body).take 8).drop 4)=number:=(by have:((sealV number kind body).take 8).drop 4=be number 4:=(by rw[h,y];rfl);rw[this,qlf C]);have g3:getV (((sealV number kind body).take 11).drop 9)=body.length:=(by have:((sealV number kind body).take 11).drop 9=be body.length 2:=(by rw[h,z];rfl);rw[this,qpB (by omega)]);have g4:(sealV number kind body).getD 11 0=0:=(by rw[h];rfl);have g5:(sealV number kind body).getD 8 0=kind:=(by rw[h];rfl);have g6:(sealV number kind body).drop (12+body.length)=zs (500-body.length):=(by rw[h,Nat.add_comm];show (body++zs (500-body.length)).drop body.length=_;rw[drop_append_of_le_length (zM _),drop_length,xG]);have g7:((sealV number kind body).take (12+body.length)).drop 12=body:=(by rw[h,Nat.add_comm];show (body++zs (500-body.length)).take body.length=_;rw[take_append_of_le_length (zM _),xX]);rw[openV,if_neg (by rw[qbz E];simp),if_neg (by rw[g1];simp),if_neg (by rw[g2];simp),g3,g4,if_neg (by simp;omega),zJ,g6,if_neg,g5,g7];rintro⟨x,hx,h0⟩;exact h0 (eq_of_mem_replicate hx)
def cmpL:List Int->List Int->Int
 | [],[]=>0
 | [],_::_=>-1
 | _::_,[]=>1
 | a::r,b::s=>if a<b then -1 else if b<a then 1 else cmpL r s
abbrev KLt (a b:List Int):Prop:=cmpL a b<0
theorem qhy:∀a b:List Int,cmpL a b=-1\/cmpL a b=0\/cmpL a b=1
 | [],[]=>.inr (.inl rfl)
 | [],_::_=>.inl rfl
 | _::_,[]=>.inr (.inr rfl)
 | a::r,b::s=>by rw[cmpL];split;exact .inl rfl;split;exact .inr (.inr rfl);exact qhy r s
theorem qfS:∀a:List Int,cmpL a a=0
 | []=>rfl
 | a::r=>by rw[cmpL,iN,iN];exact qfS r
theorem qfT:∀ {a b:List Int},cmpL a b=0->a=b
 | [],[],_=>rfl
 | [],_::_,h=>by simp[cmpL] at h
 | _::_,[],h=>by simp[cmpL] at h
 | a::r,b::s,h=>by rw[cmpL] at h;split at h;cases h;split at h;cases h;rw[qfT h,show a=b by omega]
theorem qcL:∀a b:List Int,cmpL b a =-cmpL a b
 | [],[]=>rfl
 | [],_::_=>rfl
 | _::_,[]=>rfl
 | a::r,b::s=>by rw[cmpL,cmpL];by_cases h1:a<b;rw[if_neg (show ¬b<a by omega),if_pos h1,if_pos h1];rfl;by_cases h2:b<a;rw[if_pos h2,if_neg h1,if_pos h2];rw[if_neg h2,if_neg h1,if_neg h1,if_neg h2];exact qcL r s
theorem qaA:¬KLt a a:=by unfold KLt;rw[qfS];decide
theorem qaB:∀ {a b c:List Int},KLt a b->KLt b c->KLt a c
 | [],[],_,h,_=>by simp[KLt,cmpL] at h
 | [],_::_,[],_,h=>by simp[KLt,cmpL] at h
 | [],_::_,_::_,_,_=>by simp[KLt,cmpL]
 | _::_,[],_,h,_=>by simp[KLt,cmpL] at h
 | _::_,_::_,[],_,h=>by simp[KLt,cmpL] at h
 | a::r,b::s,c::t,h,g=>by unfold KLt at h g⊢;rw[cmpL] at h g⊢;by_cases h1:a<b;by_cases g1:b<c;rw[iP];decide;rw[if_neg g1] at g;by_cases g2:c<b;rw[if_pos g2] at g;omega;rw[iP];decide;rw[if_neg h1] at h;by_cases h2:b<a;rw[if_pos h2] at h;omega;rw[if_neg h2] at h;by_cases g1:b<c;rw[iP];decide;rw[if_neg g1] at g;by_cases g2:c<b;rw[if_pos g2] at g;omega;rw[if_neg g2] at g;rw[iN,iN];exact qaB (a:=r) (b:=s) (c:=t) h g
theorem qaY(h:KLt a b):¬KLt b a:=fun g=>qaA (qaB h g)
theorem qfl(h:KLt a b):a≠b:=fun e=>by rw[e] at h;exact qaA h
theorem qnV(a b:List Int):KLt a b\/a=b\/KLt b a:=by rcases qhy a b with h|h|h;exact .inl (by unfold KLt;omega);exact .inr (.inl (qfT h));refine .inr (.inr ?_);unfold KLt;rw[qcL];omega
theorem qgZ:¬KLt a b↔a=b\/KLt b a:=by constructor;intro h;rcases qnV a b with u|u|u;exact absurd u h;exact .inl u;exact .inr u;rintro (rfl|h);exact qaA;exact qaY h
abbrev KLe (a b:List Int):Prop:=¬KLt b a
theorem qi6{c:List Int}(h:KLe a b)(g:KLt b c):KLt a c:=by rcases qgZ.1 h with u|u;rw[<- u];exact g;exact qaB u g
theorem qbw{c:List Int}(h:KLt a b)(g:KLe b c):KLt a c:=by rcases qgZ.1 g with u|u;rw[u];exact h;exact qaB h u
theorem qc1{c:List Int}(h:KLe a b)(g:KLe b c):KLe a c:=fun k=>by rcases qgZ.1 h with u|u;subst u;exact g k;exact g (qaB k u)
abbrev Key:=List Int
variable {k:Key}
abbrev Prs:=List (List Int×List Int)
variable {l:Prs}
def placeV (l:List Key) (k:Key):Nat:=(l.takeWhile fun a=>decide (KLt a k)).length
def kidV (l:List Key) (k:Key):Nat:=(l.takeWhile fun a=>decide (KLe a k)).length
def Rising (l:List Key):Prop:=l.Pairwise KLt
theorem qfz{α:Type}(p:α->Bool)(l:List α):(l.takeWhile p).length<=l.length:=(takeWhile_sublist p).length_le
theorem qn9(l:List Key)(k:Key):placeV l k<=l.length:=qfz _ l
theorem qjQ(l:List Key)(k:Key):kidV l k<=l.length:=qfz _ l
theorem qdT{α:Type}(p:α->Bool):∀l:List α,l.take (l.takeWhile p).length=l.takeWhile p
 | []=>rfl
 | a::r=>by
  rw[takeWhile_cons];cases h:p a with
  | true=>simp[qdT p r]
  | false=>simp
theorem qev{α:Type}{p:α->Bool}:∀ {l:List α} {x:α},x∈l.takeWhile p->p x=true
 | a::r,x,h=>by
  rw[takeWhile_cons] at h;cases u:p a with
  | true=>
   rw[u] at h;rcases zG.1 h with rfl|h;exact u;exact qev h
  | false=>rw[u] at h;cases h
theorem qb6{α:Type}{p:α->Bool}:∀ {l:List α} {x:α} {r:List α},l.drop (l.takeWhile p).length=x::r->p x=false
 | a::s,x,r,h=>by
  rw[takeWhile_cons] at h;cases u:p a with
  | true=>
   rw[u] at h;exact qb6 (l:=s) (by simpa using h)
  | false=>
   rw[u] at h;simp at h;rw[<- h.1];exact u
theorem qp9{l:List Key}{a:Key}(h:a∈l.take (placeV l k)):KLt a k:=by unfold placeV at h;rw[qdT] at h;exact zC (p:=KLt a k) (qev (p:=fun a=>decide (KLt a k)) h)
theorem qsM{l:List Key}{a:Key}(h:a∈l.take (kidV l k)):KLe a k:=by unfold kidV at h;rw[qdT] at h;exact zC (p:=KLe a k) (qev (p:=fun a=>decide (KLe a k)) h)
theorem qbG{x:Key}{r:List Key}(h:Rising (x::r)):∀a∈r,KLt x a:=(yI.1 h).1
theorem Rising.drop{l:List Key}(h:Rising l)(n:Nat):Rising (l.drop n):=List.Pairwise.sublist (drop_sublist n l) h
theorem Rising.take{l:List Key}(h:Rising l)(n:Nat):Rising (l.take n):=List.Pairwise.sublist (take_sublist n l) h
theorem qoH{l:List Key}{a:Key}(z:Rising l)(h:a∈l.drop (placeV l k)):KLe k a:=by
 have u:=z.drop (placeV l k);cases e:l.drop (placeV l k) with
 | nil=>rw[e] at h;cases h
 | cons x r=>
  have y:KLe k x:=zB (qb6 (p:=fun a=>decide (KLt a k)) e);rw[e] at h u;rcases zG.1 h with rfl|h;exact y;exact qc1 y (qaY (qbG u a h))
theorem qq8{l:List Key}{a:Key}(z:Rising l)(h:a∈l.drop (kidV l k)):KLt k a:=by
 have u:=z.drop (kidV l k);cases e:l.drop (kidV l k) with
 | nil=>rw[e] at h;cases h
 | cons x r=>
  have y:KLt k x:=Classical.not_not.1 (zB (qb6 (p:=fun a=>decide (KLe a k)) e));rw[e] at h u;rcases zG.1 h with rfl|h;exact y;exact qaB y (qbG u a h)
def insP (k v:Key):Prs->Prs
 | []=>[(k,v)]
 | x::r=>if KLt k x.1 then (k,v)::x::r else if k=x.1 then (k,v)::r else x::insP k v r
def cutP (k:Key) (l:Prs):Prs:=l.filter fun x=>decide (x.1≠k)
abbrev keysP (l:Prs):List Key:=l.map (·.1)
def SortP (l:Prs):Prop:=Rising (keysP l)
theorem qdt{k v:Key}:∀ {a:Prs} {l:Prs},(∀x∈a,KLt x.1 k)->insP k v (a++l)=a++insP k v l
 | [],l,_=>rfl
 | x::a,l,h=>by have u:=h x (by simp);rw[xH,insP,if_neg (qaY u),if_neg (fun e=>qfl u e.symm),qdt fun y z=>h y (zN _ z),xH]
theorem qkA{k v:Key}{b:Prs}(h:∀x∈b,KLt k x.1):∀l:Prs,insP k v (l++b)=insP k v l++b
 | []=>by
  cases b with
  | nil=>rfl
  | cons x r=>
   show insP k v (x::r)=(k,v)::x::r;rw[insP,if_pos (h x (by simp))]
 | x::l=>by rw[xH,insP,insP];split;rfl;split;rfl;rw[qkA h l,xH]
theorem qvE{v w:Key}{a r:Prs}(h:∀x∈a,KLt x.1 k):insP k v (a++(k,w)::r)=a++(k,v)::r:=by rw[qdt h,insP,if_neg qaA,if_pos rfl]
theorem qt6{v:Key}{a b:Prs}(h:∀x∈a,KLt x.1 k)(u:∀x∈b,KLt k x.1):insP k v (a++b)=a++(k,v)::b:=by
 rw[qdt h];cases b with
 | nil=>rfl
 | cons x r=>rw[insP,if_pos (u x (by simp))]
theorem qfn{k v:Key}{x:Key×Key}:∀ {l:Prs},x∈insP k v l->x=(k,v)\/x∈l
 | [],h=>.inl (by simpa[insP] using h)
 | y::l,h=>by rw[insP] at h;split at h;rcases zG.1 h with h|h;exact .inl h;exact .inr h;split at h;rcases zG.1 h with h|h;exact .inl h;exact .inr (zN _ h);rcases zG.1 h with h|h;exact .inr (by rw[h];simp);rcases qfn h with h|h;exact .inl h;exact .inr (zN _ h)
theorem qnR{k v:Key}:∀ {l:Prs},SortP l->SortP (insP k v l)
 | [],_=>pairwise_singleton _ _
 | x::l,h=>by have z:=yI.1 (show (x.1::keysP l).Pairwise KLt from h);rw[insP];split;rename_i A;refine yI.2 ⟨fun a u=>?_,h⟩;rcases zG.1 u with rfl|u;exact A;exact qaB A (z.1 a u);split;rename_i A;refine yI.2 ⟨fun a u=>?_,z.2⟩;show KLt k a;rw[A];exact z.1 a u;rename_i C E;refine yI.2 ⟨fun a u=>?_,qnR z.2⟩;obtain⟨y,G,rfl⟩:=mem_map.1 u;rcases qfn G with rfl|G;rcases qgZ.1 C with e|e;exact absurd e E;exact e;exact z.1 _ (zY G)
theorem qbO{k v:Key}:∀ {l:Prs},k∉keysP l->(insP k v l).length=l.length+1
 | [],_=>rfl
 | x::l,h=>by rw[insP];split;rfl;split;rename_i e;exact absurd (by rw[e];simp) h;rw[yH,qbO fun u=>h (zN _ u),yH]
theorem qcj{k v:Key}:∀ {l:Prs},SortP l->k∈keysP l->(insP k v l).length=l.length
 | x::l,z,h=>by have y:=yI.1 (show (x.1::keysP l).Pairwise KLt from z);rw[insP];split;rename_i u;rcases zG.1 h with e|e;rw[e] at u;exact absurd u qaA;exact absurd u (qaY (y.1 k e));split;rfl;rename_i u;rcases zG.1 h with e|e;exact absurd e u;rw[yH,qcj y.2 e,yH]
theorem qlU{a:Prs}(h:∀x∈a,KLt x.1 k):cutP k (a++l)=a++cutP k l:=by unfold cutP;rw[filter_append,filter_eq_self.2];intro x u;exact zZ (qfl (h x u))
theorem qkp{b:Prs}(h:∀x∈b,KLt k x.1):cutP k (l++b)=cutP k l++b:=by unfold cutP;rw[filter_append];congr 1;rw[filter_eq_self];intro x u;exact zZ fun e=>qfl (h x u) e.symm
theorem qvs{w:Key}{a b:Prs}(h:∀x∈a,KLt x.1 k)(u:∀x∈b,KLt k x.1):cutP k (a++(k,w)::b)=a++b:=by rw[qlU h,show (k,w)::b=[(k,w)]++b from rfl,qkp u];unfold cutP;simp
theorem qtM(h:SortP l):SortP (cutP k l):=List.Pairwise.sublist (List.Sublist.map _ filter_sublist) h
theorem qlj{x:Key×Key}:x∈cutP k l↔x∈l/\x.1≠k:=by unfold cutP;rw[mem_filter];simp
theorem SortP.app{a b:Prs}:SortP (a++b)↔SortP a/\SortP b/\∀x∈a,∀y∈b,KLt x.1 y.1:=by unfold SortP Rising keysP;rw[xJ,pairwise_append];constructor;rintro⟨h,u,z⟩;exact⟨h,u,fun x A y C=>z _ (zY A) _ (zY C)⟩;rintro⟨h,u,z⟩;refine⟨h,u,fun a E b G=>?_⟩;obtain⟨x,A,rfl⟩:=mem_map.1 E;obtain⟨y,C,rfl⟩:=mem_map.1 G;exact z x A y C
theorem qdZ(u:SortP l):(∀x∈l.take (placeV (keysP l) k),KLt x.1 k)/\∀x∈l.drop (placeV (keysP l) k),KLe k x.1:=by refine⟨fun x h=>qp9 (l:=keysP l) ?_,fun x h=>qoH (l:=keysP l) u ?_⟩;rw[<- xL];exact zY h;rw[<- xM];exact zY h
theorem qsH{v:Key}(J:SortP l):insP k v l=if (keysP l)[placeV (keysP l) k]?=some k then l.set (placeV (keysP l) k) (k,v) else l.take (placeV (keysP l) k)++[(k,v)]++l.drop (placeV (keysP l) k):=by
 obtain⟨A,K⟩:=qdZ (k:=k) J;have C:SortP (l.drop (placeV (keysP l) k)):=(by unfold SortP keysP;rw[xM];exact Rising.drop J _);generalize hi:placeV (keysP l) k=i at A K C;have E:l=l.take i++l.drop i:=(xC i l).symm;cases e:l.drop i with
 | nil=>
  have O:l.length<=i:=drop_eq_nil_iff.1 e;rw[if_neg (by rw[yR (by rw[zK];exact O)];simp)];conv=>lhs;rw[E,e]
  rw[qdt A];simp[insP]
 | cons x r=>
  have R:=K x (by rw[e];simp);have u:i<l.length:=by rcases Nat.lt_or_ge i l.length with h|h;exact h;rw[xZ h] at e;cases e
  have U:l[i]=x:=by
   have:=zX u
   rw[e] at this;exact (List.cons.inj this).1.symm
  have V:l.drop (i+1)=r:=by
   have:=zX u
   rw[e] at this;exact (List.cons.inj this).2.symm
  have G:(keysP l)[i]?=some x.1:=(by rw[zQ,zA u,U];rfl);rw[G];by_cases hk:x.1=k
  ·rw[if_pos (by rw[hk])];conv=>lhs;rw[E,e]
   obtain⟨a,w⟩:=x;dsimp only at hk;subst hk;rw[qvE A,set_eq_take_append_cons_drop,if_pos u,V]
  ·rw[if_neg (fun h=>hk (yN h))];have z:KLt k x.1:=by rcases qgZ.1 R with h|h;exact absurd h hk;exact h
   conv=>lhs;rw[E,e]
   rw[qt6 A];simp;intro y I;rcases zG.1 I with rfl|I;exact z;rw[e] at C;exact qaB z (qbG (x:=x.1) (r:=keysP r) C y.1 (zY I))
theorem qcn(A:SortP l):(keysP l)[placeV (keysP l) k]?=some k↔k∈keysP l:=by
 constructor;exact fun h=>yE h;intro G;obtain⟨I,J⟩:=qdZ (k:=k) A;obtain⟨x,z,rfl⟩:=mem_map.1 G;have u:x∈l.drop (placeV (keysP l) x.1):=by rw[<- xC (placeV (keysP l) x.1) l,zD] at z;rcases z with z|z;exact absurd (I x z) qaA;exact z
 have C:SortP (l.drop (placeV (keysP l) x.1)):=(by unfold SortP keysP;rw[xM];exact Rising.drop A _);cases e:l.drop (placeV (keysP l) x.1) with
 | nil=>rw[e] at u;cases u
 | cons y r=>
  have K:=J y (by rw[e];simp);rw[e] at u C;have O:y.1=x.1:=by rcases zG.1 u with rfl|u;rfl;exact absurd (qbG (x:=y.1) (r:=keysP r) C x.1 (zY u)) K
  have E:(l.drop (placeV (keysP l) x.1))[0]?=some y:=(by rw[e];rfl);rw[yZ] at E;rw[zQ,show l[placeV (keysP l) x.1]?=some y by simpa using E,<- O];rfl
theorem qlV(z:SortP l)(G:k∈keysP l):cutP k l=l.take (placeV (keysP l) k)++l.drop (placeV (keysP l) k+1):=by
 have u:=(qcn z).2 G;obtain⟨E,I⟩:=qdZ (k:=k) z;generalize placeV (keysP l) k=i at E I u;have h:i<l.length:=by
  have:=(zP.1 u).1
  simpa using this
 have J:l=l.take i++l[i]::l.drop (i+1):=(by rw[<- zX h,xC]);have A:l[i].1=k:=(by rw[zQ,zA h] at u;exact yN u);have C:SortP (l.drop i):=(by unfold SortP keysP;rw[xM];exact Rising.drop z _);rw[zX h] at C;conv=>lhs;rw[J]
 obtain⟨a,w,e⟩:∃a w,l[i]=(a,w):=⟨_,_,rfl⟩;rw[e] at A C⊢;dsimp only at A;subst A;exact qvs E fun y K=>qbG (x:=a) (r:=keysP (l.drop (i+1))) C y.1 (zY K)
def shp (t:Int):Int×Int:=
 if t=0 then (16,88) else if t=1 then (16,108) else if t=2 then (16,1) else if t=3 then (16,16)
 else if t=4 then (24,16) else if t=5 then (24,16) else if t=6 then (24,65) else if t=7 then (1,8) else (0,0)
theorem qge(t:Int):t=0\/t=1\/t=2\/t=3\/t=4\/t=5\/t=6\/t=7\/(t≠0/\t≠1/\t≠2/\t≠3/\t≠4/\t≠5/\t≠6/\t≠7):=by omega
theorem qo5{t:Int}(h:K (shp t) w):cW 63 [.i t] [.one .i,.one .i] w K:=by apply qoK;unfold qkY;rcases qge t with rfl|rfl|rfl|rfl|rfl|rfl|rfl|rfl|⟨u,y,z,A,C,E,G,I⟩<;>simpa[shp, *] using h
theorem qcS{t:Int}(h:K (shp t) w):cW 15 [.i t] [.one .i,.one .i] w K:=by apply qgw;unfold qdr;rcases qge t with rfl|rfl|rfl|rfl|rfl|rfl|rfl|rfl|⟨u,y,z,A,C,E,G,I⟩<;>simpa[shp, *] using h
def caps (k v:Int):Int×Int:=if k<1\/k>24\/v<0\/v>108 then (0,0) else (498 / (k+v),(498+k) / (4+k))
theorem qwg{k v:Int}(h:∀w',Same w w'->K (caps k v) w'):cW 64 [.i k,.i v] [.one .i,.one .i] w K:=by
 apply qpX;unfold qmj;by_cases hc:k<1\/k>24\/v<0\/v>108;refine qck true w (fun M u=>?_) ?_;by_cases h1:k<1;simpa[h1] using u;by_cases h2:k>24;simpa[h1,h2] using u;by_cases h3:v<0;simpa[h1,h2,h3] using u;have y:v>108:=(by omega);simpa[h1,h2,h3,y] using u
 have:=h w (.refl w)
 simpa[caps,hc] using this;refine qck false w (fun M u=>?_) ?_;simpa[show ¬k<1 by omega,show ¬k>24 by omega,show ¬v<0 by omega,show ¬v>108 by omega] using u
 have:=h w.drew (Same.refl w).drew
 simp only[caps,hc,if_false] at this;have e1:IntKind.i64.wrap (k+v)=k+v:=IntWalk.i64_in _ (by omega);have z:IntKind.i64.wrap (4+k)=4+k:=IntWalk.i64_in _ (by omega);have A:IntKind.i64.wrap (498+k)=498+k:=IntWalk.i64_in _ (by omega);have G:0<k+v:=(by omega);have I:0<4+k:=(by omega);have C:(498:Int).tdiv (k+v)=498 / (k+v):=Int.tdiv_eq_ediv_of_nonneg (by omega);have E:(498+k).tdiv (4+k)=(498+k) / (4+k):=Int.tdiv_eq_ediv_of_nonneg (by omega);have J:498 / (k+v)<=498:=Int.ediv_le_self _ (by omega);have O:(498+k) / (4+k)<=498+k:=Int.ediv_le_self _ (by omega);have R:0<=498 / (k+v):=Int.ediv_nonneg (by omega) (by omega);have U:0<=(498+k) / (4+k):=Int.ediv_nonneg (by omega) (by omega);rw[e1,z,A,C,E,IntWalk.i64_in _ ⟨by omega,by omega⟩,IntWalk.i64_in _ ⟨by omega,by omega⟩];exact⟨by omega,by omega,this⟩
abbrev good (t:Int):Prop:=0<=t/\t<=7
end
section
open Go Go.Pt List
open Go.IntKind (wrap)
attribute [local irreducible] ld ldA ldV fld fldA newZ st new idx idxS idxA slc slcS slcP mkS chk nn call callV inv run runQ runU join loop held ext rng undefer s2a nxt ent IntKind.wrap
variable {B F F1 F2 S X:List Nat} {K:Int->WP} {L:List (Nat×Obj)} {T:TypeId} {Z:List Value} {body c l t:List Int} {cs:Array Value} {db:Option Addr} {defb fb mb pb r:Nat} {f:List (Int×Value)} {n q:Int} {s sl sn:Sl} {w w' w0:World}
def needP (n:Nat):Nat:=if n=0 then 0 else (n-1) / 124+1
theorem qoV{n:Nat}(z:n<=1000000)(h:K (needP n) w):cW 101 [.i n] [.one .i] w K:=by
 refine qld ?_;unfold qgR;apply qaa<;>intro u
 have:=zC u
 have y:n=0:=(by omega);subst y;exact h
 have:=zB u
 have y:n≠0:=(by omega);rw[needP,if_neg y] at h;rw[wi' ((n:Int)-1) (by omega)];have e:Int.tdiv ((n:Int)-1) 124=(((n-1) / 124:Nat):Int):=(by rw[Int.tdiv_eq_ediv_of_nonneg (by omega)];omega);rw[e,wi' (((n-1) / 124:Nat):Int) (by omega),wi' ((((n-1) / 124:Nat):Int)+1) (by omega)];exact h
def risesB:Int->List Int->Bool
 | _,[]=>true
 | a,x::r=>decide (a<x)&&risesB x r
theorem qqj{K:Bool->WP}(h:Rd S w s l)(J:l.length<=1000000)(A:K (risesB 1 l) w): cW 164 [s.v] [.one .bool] w K:=by
 refine qj7 ?_;unfold qf3;have G:=h.1;refine qah (fun x w'=>w'=w/\∃i:Nat,x.2=i/\i<=l.length/\risesB x.1 (l.drop i)=risesB 1 l) (fun x _=>((l.length:Int)-x.2).toNat) ⟨rfl,0,rfl,by omega,by simp⟩ ?_;rintro⟨a,ii⟩ w' ⟨rfl,i,z,O,y⟩ X I;simp only at z y;subst z;apply qaa<;>intro C;have u:i<l.length:=(by have:=zC C;omega);refine Rd.at h i rfl (zA u) ?_;rw[zX u,risesB] at y;apply qaa<;>intro E
 have:=zC E
 rw[show decide (a<l[i])=false by rw[decide_eq_false_iff_not];omega,Bool.false_and] at y;rw[<- y] at A;exact A
 have:=zB E
 rw[show decide (a<l[i])=true by rw[yM];omega,Bool.true_and] at y;rw[wi' _ (by omega)];exact I _ _ ⟨rfl,i+1,by simp,by omega,y⟩ (by dsimp only;omega);have u:i=l.length:=(by have:=zB C;omega);subst u;rw[drop_length] at y;rw[<- y] at A;exact A
theorem qwx(n:Int):byteAt n 0=wrap .u8 n:=by
 unfold byteAt;have:Int.fdiv n (2^min (8*0) 32)=n:=by show Int.fdiv n (2^0)=n;simp
 rw[this]
theorem qob{K:Sl->WP}(h:BufB w s l B)(hl:l.length<=1000000)(R:∀y B' w',BufB w' y (l++be n 4) B'->Fr B w w'->(∀b∈B',b∈B\/w.heap.size<=b)->K y w'): new (.cells #[.b (wrap .u8 (Int.fdiv n (2^24))),.b (wrap .u8 (Int.fdiv n (2^16))),.b (wrap .u8 (Int.fdiv n (2^8))),.b (wrap .u8 n)] 5) w fun r U=> Pt.run [Ty1.one Cell.slice] ((Builtin.append_ #[23,23] 23 #[s.v,.slice (pW r) 4 4]).run prog U) fun y w'=>K y w':=by obtain⟨i5,z,V,A,C⟩:=qmb;refine oB (oE [] w) fun r w1 e1 E ho=>?_;have G:be n 4=[byteAt n 3,byteAt n 2,byteAt n 1,byteAt n 0]:=rfl;have ab:=E.size;refine Buf.appSrc (ys:=be n 4) (e:=5) (h.frame0 E) qat (by kernel_rfl) z V A rfl (.ofSlice _ (e':=5) (by kernel_rfl) _ 4 4 _ (by rw[qaH];simp[qao]) (fun j u J=>?_) (fun u O=>?_)) (qao n 4).symm (by rw[C];omega) (by omega) fun y B' w' g1 g2 g3 _=>?_;rw[Addr.add_mk,qag (ho.at (i:=0) rfl),xO];rw[qaH,G,qwx] at J;rw[List.getElem?_toArray];exact J;rw[qaH] at O;obtain⟨x,_,rfl⟩:=mem_map.1 O;rfl;refine R y B' w' g1 ((E.mono (fun i z _=>by cases z)).trans' g2 (fun b I=>.inl I)) (fun b I=>?_);rcases g3 b I with h|h;exact .inl h;exact .inr (by omega)
theorem qrS{K:Sl->WP}(h:BufB w s l B)(z:l.length<=1000000)(A:∀y B' w',BufB w' y (l++be n 4) B'->Fr B w w'->(∀b∈B',b∈B\/w.heap.size<=b)->K y w'): cW 166 [s.v,.u n] [.one .slice] w K:=by refine ql4 ?_;unfold qia;exact qob h z A
theorem qlp{A B:Int}(k:Nat)(C:0<=A:=by omega)(y:A%2^k=0:=by omega)(E:0<=B:=by omega)(h:B<2^k:=by omega)(G:A+B<4294967296:=by omega):bits .or .u32 A B=A+B:=by
 obtain⟨a,rfl⟩:∃a:Nat,A=a:=⟨A.toNat,by omega⟩;obtain⟨b,rfl⟩:∃b:Nat,B=b:=⟨B.toNat,by omega⟩;have z:a%2^k=0:=by have:((a:Int)%((2^k:Nat):Int))=0:=(by rw[Int.natCast_pow];exact y);omega
 have u:b<2^k:=(by have:(b:Int)<((2^k:Nat):Int):=(by rw[Int.natCast_pow];exact h);omega);obtain⟨q,rfl⟩:∃q,a=2^k*q:=⟨a / 2^k,by have:=Nat.div_add_mod a (2^k);omega⟩;show wrap .u32 ((BitVec.ofInt 32 ((2^k*q:Nat):Int)||| BitVec.ofInt 32 (b:Int)).toNat:Nat)=_;rw[BitVec.toNat_or,BitVec.ofInt_natCast,BitVec.ofInt_natCast,BitVec.toNat_ofNat,BitVec.toNat_ofNat,Nat.mod_eq_of_lt (show 2^k*q<2^32 by omega),Nat.mod_eq_of_lt (show b<2^32 by omega),<- Nat.two_pow_add_eq_or_of_lt u];rw[qa5 _];omega
def get4V (a b c d:Int):Int:=bits .or .u32 (bits .or .u32 (bits .or .u32 (wrap .u32 (wrap .u32 a*2^24)) (wrap .u32 (wrap .u32 b*2^16))) (wrap .u32 (wrap .u32 c*2^8))) (wrap .u32 d)
theorem qpy{a b c d:Int}(h:0<=a/\a<256:=by omega)(u:0<=b/\b<256:=by omega)(y:0<=c/\c<256:=by omega)(z:0<=d/\d<256:=by omega):get4V a b c d=((a*256+b)*256+c)*256+d:=by unfold get4V;rw[qa5 a,qa5 b,qa5 c,qa5 d,qa5 (a*2^24),qa5 (b*2^16),qa5 (c*2^8)];rw[qlp (A:=a*2^24) (B:=b*2^16) 24];rw[qlp (B:=c*2^8) 16];rw[qlp (B:=d) 8];omega
theorem qvm(h:0<=n/\n<4294967296):get4V (n / 16777216%256) (n / 65536%256) (n / 256%256) (n%256)=n:=by rw[qpy (by omega)];omega
def first4 (l:List Int):Int:=get4V (l.getD 0 0) (l.getD 1 0) (l.getD 2 0) (l.getD 3 0)
theorem getD_some{n:Nat}(h:n<l.length):l[n]?=some (l.getD n 0):=by rw[yQ,zA h];rfl
theorem qtZ(h:RdB S w s l)(E:4<=l.length)(u:K (first4 l) w): (idx s 0 1 fun a=>ld .b a w fun y=>idx s 1 1 fun a=>ld .b a w fun z=>idx s 2 1 fun a=>ld .b a w fun A=>idx s 3 1 fun a=>ld .b a w fun C=>K (get4V y z A C) w):=by exact RdB.at h 0 rfl (getD_some (by omega))<|RdB.at h 1 rfl (getD_some (by omega))<|RdB.at h 2 rfl (getD_some (by omega))<|RdB.at h 3 rfl (getD_some (by omega))<|u
theorem qrR(h:RdB S w s l)(y:4<=l.length)(z:K (first4 l) w.drew):cW 163 [s.v] [.one .u] w K:=by refine ql3 ?_;unfold qh9;exact qtZ (w:=w.drew) h y z
theorem qp4{A B:Int}(k:Nat)(C:0<=A:=by omega)(y:A%2^k=0:=by omega)(E:0<=B:=by omega)(h:B<2^k:=by omega)(G:A+B<4294967296:=by omega):bits .or .i64 A B=A+B:=by
 obtain⟨a,rfl⟩:∃a:Nat,A=a:=⟨A.toNat,by omega⟩;obtain⟨b,rfl⟩:∃b:Nat,B=b:=⟨B.toNat,by omega⟩;have z:a%2^k=0:=by have:((a:Int)%((2^k:Nat):Int))=0:=(by rw[Int.natCast_pow];exact y);omega
 have u:b<2^k:=(by have:(b:Int)<((2^k:Nat):Int):=(by rw[Int.natCast_pow];exact h);omega);obtain⟨q,rfl⟩:∃q,a=2^k*q:=⟨a / 2^k,by have:=Nat.div_add_mod a (2^k);omega⟩;show wrap .i64 ((BitVec.ofInt 64 ((2^k*q:Nat):Int)||| BitVec.ofInt 64 (b:Int)).toNat:Nat)=_;rw[BitVec.toNat_or,BitVec.ofInt_natCast,BitVec.ofInt_natCast,BitVec.toNat_ofNat,BitVec.toNat_ofNat,Nat.mod_eq_of_lt (show 2^k*q<2^64 by omega),Nat.mod_eq_of_lt (show b<2^64 by omega),<- Nat.two_pow_add_eq_or_of_lt u];rw[wi' _ (by omega)];omega
def cntV (l:List Int):Int:=l.getD 4 0*256+l.getD 5 0
def numsV (l:List Int) (n:Nat):List Int:=(List.range n).map fun i=>first4 (l.drop (6+4*i))
def parseV (l:List Int):Int×List Int×Int:=
 if l.length<6 then (0,[],2) else
 if first4 l=1\/cntV l>123\/(l.length:Int)≠6+4*cntV l then (0,[],2) else
 if risesB 1 (numsV l (cntV l).toNat) then (first4 l,numsV l (cntV l).toNat,0) else (0,[],2)
theorem qtt{K:Int×Sl×Int->WP}(h:RdB S w s l)(hB:IsB l)(hl:l.length<=100000)(hk:∀s' B w',BufU w' s' (parseV l).2.1 B->Fr [] w w'->(∀b∈B,w.heap.size<=b)->K ((parseV l).1,s',(parseV l).2.2) w'): cW 130 [s.v] [.one .u,.one .slice,.one .i] w K:=by
 refine qj5 ?_;unfold qf1;have C:=h.1;have G:∀ {e:Int} {w':World},parseV l=(0,[],e)->Fr [] w w'->K (0,⟨none,0,0⟩,e) w':=by
  intro e w' he hf
  have:=hk ⟨none,0,0⟩ [] w' (by rw[he];exact .nil _ _ _) hf (by simp)
  rw[he] at this;exact this
 apply qaa<;>intro y
 have:=zC y
 exact G (by rw[parseV,iP]) (.refl _ _);have h6:¬l.length<6:=(by have:=zB y;omega);have fd:Fr [] w w.drew:=(Fr.refl _ _).drew;have z:Fr [] w w.drew.drew:=fd.drew;obtain⟨_,b4,o4,ah,aH,ai,T4,aI,O,aj⟩:=Rds.at h 4 (getD_some (l:=l) (n:=4) (by omega));obtain⟨_,b5,o5,ak,aJ,al,T5,aK,R,am⟩:=Rds.at h 5 (getD_some (l:=l) (n:=5) (by omega));have g4:ai[o4+4]?=some (.b (l.getD 4 0)):=(by have:=congrArg (·[0]?) aj;simpa using this);have g5:al[o5+5]?=some (.b (l.getD 5 0)):=(by have:=congrArg (·[0]?) am;simpa using this);have c4:∀ {w':World},Fr [] w w'->w'.cell? ⟨b4,o4+Int.toNat 4*1,none⟩=some (.b (l.getD 4 0)):=fun f=>by rw[qag (by rw[f.block b4 (qab O) (by simp)];exact O)];exact g4
 have c5:∀ {w':World},Fr [] w w'->w'.cell? ⟨b5,o5+Int.toNat 5*1,none⟩=some (.b (l.getD 5 0)):=fun f=>by rw[qag (by rw[f.block b5 (qab R) (by simp)];exact R)];exact g5
 refine qbo ah ⟨by omega,by omega⟩<|qdY (l.getD 4 0) (c4 fd)<|qbo ak ⟨by omega,by omega⟩<|qdY (l.getD 5 0) (c5 fd)<|qrR (w:=w.drew) (S:=S) h (by omega)<|qan (c5 z) (c4 z) ?_;have r4:0<=l.getD 4 0/\l.getD 4 0<256:=hB _ (yE (getD_some (l:=l) (n:=4) (by omega)));have r5:0<=l.getD 5 0/\l.getD 5 0<256:=hB _ (yE (getD_some (l:=l) (n:=5) (by omega)));have U:bits .or .i64 (wrap .i64 (wrap .i64 (l.getD 4 0)*2^8)) (wrap .i64 (l.getD 5 0))=cntV l:=by rw[wi' (l.getD 4 0) (by omega),wi' (l.getD 5 0) (by omega),wi' (l.getD 4 0*2^8) (by omega),qp4 8];rfl
 have aE:0<=cntV l/\cntV l<65536:=(by unfold cntV;omega);rw[U];refine qaf (fun b w'=>b=decide (first4 l=1\/cntV l>123\/(l.length:Int)≠6+4*cntV l)/\w'=w.drew.drew) ?_ ?_;apply qaa<;>intro y;exact⟨by rw[zZ (Or.inl (by simpa using y))],rfl⟩;have an:¬first4 l=1:=(by simpa using y);apply qaa<;>intro I;exact⟨by rw[zZ (Or.inr (Or.inl (zC I)))],rfl⟩;have V:¬cntV l>123:=zB I;refine⟨?_,rfl⟩;rw[wi' (4*cntV l) (by omega),wi' (6+4*cntV l) (by omega),C];by_cases h3:(l.length:Int)=6+4*cntV l<;>simp[an,V,h3];rintro b w1 ⟨rfl,rfl⟩;refine qaa (fun y=>G (by rw[parseV,if_neg h6,if_pos (zC y)]) z) (fun y=>?_);have J:=zB y;have aa:cntV l<=123:=by rcases Int.lt_or_le 123 (cntV l) with h|h;exact absurd (Or.inr (Or.inl h)) J;exact h
 have ao:(l.length:Int)=6+4*cntV l:=Classical.byContradiction fun h=>J (Or.inr (Or.inr h));have pv:parseV l=if risesB 1 (numsV l (cntV l).toNat) then (first4 l,numsV l (cntV l).toNat,0) else (0,[],2):=by rw[parseV,if_neg h6,if_neg J]
 obtain⟨n,hn⟩:∃n:Nat,cntV l=n:=⟨(cntV l).toNat,by omega⟩;rw[hn] at aa ao pv⊢;rw[zJ] at pv;refine qah (fun x w'=>∃(i:Nat) (B:List Nat),x.2=i/\i<=n/\BufU w' x.1 (numsV l i) B/\Fr [] w w'/\∀b∈B,w.heap.size<=b) (fun x _=>((n:Int)-x.2).toNat)
  ⟨0,[],rfl,by omega,.nil _ _ _,z,by simp⟩ ?_
 rintro⟨s1,ii⟩ w2 ⟨i,B,ab,hi,E,f2,n2⟩ X hX;simp only at ab E;subst ab;apply qaa<;>intro y;have ac:i<n:=(by have:=zC y;omega);rw[wi' (4*(i:Int)) (by omega),wi' (6+4*(i:Int)) (by omega)];have h2:RdB S w2 s l:=h.frame0 f2;refine Rds.part h2 (6+4*i) l.length (by simp) (by rw[C];rfl) (by omega) (by omega) fun s3 l3 r3 _=>?_;rw[xX] at r3;refine qrR r3 (by rw[yB];omega) ?_;have ad:Fr [] w w2.drew:=f2.drew;refine qs0 (w:=w2.drew) (B:=B) E (by simp[numsV];omega) fun s4 B4 w4 g1 g2 g3=>?_;rw[wi' _ (by omega)];have aV:=ad.size;refine hX _ _ ⟨i+1,B4,by simp,by omega,?_,ad.trans' g2 (fun b E=>.inr (n2 b E)),fun b E=>?_⟩ (by dsimp only;omega);have:numsV l (i+1)=numsV l i++[first4 (l.drop (6+4*i))]:=(by simp[numsV,range_succ]);rw[this];exact g1;rcases g3 b E with h|h;exact n2 b h;omega;have ac:i=n:=(by have:=zB y;omega);subst ac;refine qqj (S:=[]) (E.rds qaK (by simp)) (by simp[numsV];omega) ?_;apply qaa<;>intro hr;have A:¬risesB 1 (numsV l i)=true:=(by simpa using hr);exact G (by rw[pv,if_neg A]) f2;have A:risesB 1 (numsV l i)=true:=by simpa using hr
 have:=hk s1 B w2 (by rw[pv,if_pos A];exact E) f2 n2
 rw[pv,if_pos A] at this;exact this
def encS:Sl->List Value:=fun s=>[s.v]
theorem qpm:∀x,(encS x).length=1:=fun _=>rfl
theorem qxQ:∃i,prog.info? 23=some i/\i.zero=some (.slice none 0 0)/\i.size=1/\i.bytes=24:=qe1 (by kernel_rfl)
def Bodies (S:List Nat) (w:World) (s:Sl) (ls:List (List Int)) (B:List Nat):Prop:=
 ∃h:List Sl,Buf encS 1 w s h B/\h.length=ls.length/\∀(i:Nat) sl l,h[i]?=some sl->ls[i]?=some l->RdB (S++B) w sl l
theorem Bodies.nil(S:List Nat)(w:World):Bodies S w ⟨none,0,0⟩ [] []:=⟨[],.nil _ _ _,rfl,fun i sl l h=>by simp at h⟩
theorem Bodies.frame{S S':List Nat}{w w':World}{s:Sl}{ls:List (List Int)}{B:List Nat}(h:Bodies S w s ls B)(f:Fr S w w')(A:∀b∈B,b∉S)(y:∀b∈S',b∈S\/w.heap.size<=b):Bodies S' w' s ls B:=by obtain⟨z,C,E,G⟩:=h;refine⟨z,C.frame f A,E,fun i sl l I J=>(G i sl l I J).frame (f.mono fun b u _=>zH _ u) fun b u=>?_⟩;rcases zD.1 u with u|u;rcases y b u with h|h;exact .inl (zH _ h);exact .inr h;exact .inl (zI _ u)
theorem Bodies.push{S:List Nat}{w:World}{s sl:Sl}{ls:List (List Int)}{B:List Nat}{l:List Int}{T:TypeId}{K:Sl->WP}(h:Bodies S w s ls B)(U:RdB (S++B) w sl l)(hl:ls.length<=1000000)(V:∀C B' w',Bodies S w' C (ls++[l]) B'->Fr B w w'->(∀b∈B',b∈B\/w.heap.size<=b)->K C w'): Pt.new (.cells #[sl.v] T) w fun r w1=>Pt.run [Ty1.one Cell.slice] ((Builtin.append_ #[22,22] 22 #[s.v,.slice (pW r) 1 1]).run prog w1) K:=by
 obtain⟨i,hi,hz,E,G⟩:=qxQ;obtain⟨A,h1,I,h3⟩:=h;refine Buf.push (e:=23) (x:=sl) h1 qpm (by simp[encS,Value.oneCell']) (by kernel_rfl) hi hz E rfl rfl (by rw[G];omega) (by omega) fun C B' w' b' J n'=>V C B' w' ⟨_,b',by simp[I],fun j sj lj y u=>?_⟩ J n';have O:∀b∈S++B',b∈S++B\/w.heap.size<=b:=fun b z=>by rcases zD.1 z with z|z;exact .inl (zH _ z);rcases n' b z with h|h;exact .inl (zI _ h);exact .inr h
 have R:Fr (S++B) w w':=J.mono fun b z _=>zI _ z;by_cases hjl:j<A.length;rw[yY hjl] at y;rw[yY (by omega)] at u;exact (h3 j sj lj y u).frame R O;by_cases hje:j=A.length;subst hje;rw[yX (zM _),Nat.sub_self] at y;rw[I,yX (zM _),Nat.sub_self] at u;simp at y u;subst y u;exact U.frame R O;rw[yR (by rw[zF];simp;omega)] at y;cases y
def bodyV (next:Int) (c:List Int):List Int:=be next 4++[wrap .u8 (Int.fdiv c.length (2^8)),wrap .u8 c.length]++c.flatMap (be · 4)
def bodiesL (numbers pages:List Int) (k:Nat):List (List Int):=(List.range k).map fun i=>bodyV (pages.getD (i+1) 0) ((numbers.drop (123*i)).take 123)
def bodiesV (numbers pages:List Int):List (List Int)×Int:=
 if risesB 1 numbers=false\/numbers.length>123*pages.length then ([],1) else if ∃p∈pages,p<2 then ([],1) else (bodiesL numbers pages pages.length,0)
theorem qvg{K:Value->WP}(z:∀u y w',Fr [] w w'->(∀S w0 L,Own S w0 w L->Own S w0 w' ((u,.cells #[.i n] 3 (0,0))::(y,.cells #[s.v] 92 (0,0))::L))->K (.func (.func 208) #[] #[.pointer (pW u),.pointer (pW y)]) w'): cW 165 [s.v,.i n] [.one .any] w K:=by refine qj6 ?_;unfold qf2;exact Pt.qja<|Pt.qja<|z _ _ _ (((Fr.refl [] w).alloc _).alloc _) fun S w0 L h=>(h.alloc _).alloc _
theorem qds:∀l:List Int,(l.flatMap (be · 4)).length=l.length*4
 | []=>rfl
 | x::l=>by rw[yG,zF,qao,qds l,yH];omega
theorem qxe(a b:Int):([a,b]:List Int).length=2:=rfl
theorem qsh{G:List Nat}{sp:Sl}{numbers pages:List Int}{K:Sl×Int->WP}(hn:Rd S w sn numbers)(I:Rd S w sp pages)(bY:numbers.length<=100000)(bZ:pages.length<=100000)(hG:∀b∈G,b<w.heap.size)(hk:∀s' B w',Bodies G w' s' (bodiesV numbers pages).1 B->Fr [] w w'->(∀b∈B,w.heap.size<=b)->K (s',(bodiesV numbers pages).2) w'): cW 132 [sn.v,sp.v] [.one .slice,.one .i] w K:=by
 refine qi0 ?_;unfold qfi;have bg:=hn.1;have bh:=I.1;have aS:∀ {w':World},bodiesV numbers pages=([],1)->Fr [] w w'->K (⟨none,0,0⟩,1) w':=by
  intro w' he hf
  have:=hk ⟨none,0,0⟩ [] w' (by rw[he];exact .nil _ _) hf (by simp)
  rw[he] at this;exact this
 refine oB (oE [] w) fun r1 w1 e1 f1 ho=>?_;have bj:Rd S w1 sn numbers:=hn.frame0 ho.fr;have bk:Rd S w1 sp pages:=I.frame0 ho.fr;refine qaf (fun b w'=>b=decide (risesB 1 numbers=false\/numbers.length>123*pages.length)/\w'=w1) ?_ ?_;refine qqj bj (by omega) ?_;apply qaa<;>intro hc;have hr:risesB 1 numbers=false:=(by simpa using hc);exact⟨by rw[zZ (Or.inl hr)],rfl⟩;have hr:risesB 1 numbers=true:=(by simpa using hc);refine oA ho 0 rfl sp rfl ⟨?_,rfl⟩;rw[wi' (123*(sp.len:Int)) (by omega),bg,bh];have e:decide ((numbers.length:Int)>123*(pages.length:Int))=decide (numbers.length>123*pages.length):=by by_cases h:numbers.length>123*pages.length;rw[zZ h,zZ];omega;rw[zU h,zU];omega
 rw[e];by_cases h:numbers.length>123*pages.length<;>simp[hr,h];rintro b w2 ⟨rfl,rfl⟩;refine qaa (fun hc=>aS (by rw[bodiesV,if_pos (zC hc)]) ho.fr) (fun hc=>?_);have aT:=zB hc;refine oA ho 0 rfl sp rfl<|qah (fun x w'=>w'=w2/\∃i:Nat,x.2.2=i/\i<=pages.length/\∀p∈pages.take i,¬p<2) (fun x _=>((pages.length:Int)-x.2.2).toNat) ⟨rfl,0,rfl,by omega,by simp⟩ ?_;rintro⟨sx,ex,ii⟩ w3 ⟨rfl,i,aU,hi,an⟩ X hX;simp only at aU;subst aU;dsimp only;apply qaa<;>intro hc;have ao:i<pages.length:=(by have:=zC hc;omega);refine Rd.at bk i rfl (zA ao) ?_;apply qaa<;>intro hx;exact aS (by rw[bodiesV,if_neg aT,if_pos ⟨pages[i],zW ao,zC hx⟩]) ho.fr;rw[wi' _ (by omega)];refine hX _ _ ⟨rfl,i+1,by simp,by omega,fun p I=>?_⟩ (by dsimp only;omega);rw[yF ao] at I;rcases zD.1 I with I|I;exact an p I;simp at I;subst I;exact zB hx;have ao:i=pages.length:=(by have:=zB hc;omega);subst ao;rw[xX] at an;have bo:bodiesV numbers pages=(bodiesL numbers pages pages.length,0):=by rw[bodiesV,if_neg aT,if_neg];rintro⟨p,I,h2⟩;exact an p I h2
 rw[bo] at hk;refine oB ho fun ro w4 eo fo ho=>oA ho 1 rfl sp rfl<|qvg fun rp rl w5 f5 aV=>?_;have bp:=aV _ _ _ ho;refine Own.rng (lb:=[.pointer (pW rp),.pointer (pW rl)]) bp rfl (by kernel_rfl) fun Dm l R Bz J E E0 w6 el eD b2 aW hy=>qhF ?_;unfold qec;refine oA aW 2 rfl sp.len rfl<|qah (fun x w'=>∃(j:Nat) (V so:Sl) (Bo:List Nat),x=j/\j<=pages.length/\Rd [] w V (numbers.drop (123*j))/\Bodies ([l,Dm,rp,rl,ro,r1]++G) w' so (bodiesL numbers pages j) Bo/\(∀b∈Bo,w.heap.size<=b/\b∉[l,Dm,rp,rl,ro,r1])/\
   Own [] w w' [(l,R),(Dm,.deferred (some [])),(rp,.cells #[.i sp.len] 3 (0,0)),(rl,.cells #[V.v] 92 (0,0)),(ro,.cells #[so.v] 22 (0,0)),(r1,.cells #[sp.v] 92 (0,0))]) (fun x _=>((pages.length:Int)-x).toNat)
  ⟨0,sn,⟨none,0,0⟩,[],rfl,by omega,hn.weak (fun b y=>by cases y),.nil _ _,by simp,aW⟩ ?_
 rintro x w7 ⟨j,V,so,Bo,rfl,hj,aH,ap,ak,U⟩ X hX;have ah:∀b∈Bo,b∉[l,Dm,rp,rl,ro,r1]++G:=fun b y A=>by
  rcases zD.1 A with A|A;exact (ak b y).2 A
  have:=hG b A;have:=(ak b y).1;omega
 have bs:=aH.1;rw[yB] at bs;apply qaa<;>intro hc
 ·have b4:j<pages.length:=(by have:=zC hc;omega);refine oA U 3 rfl V rfl<|oA U 3 rfl V rfl ?_;obtain⟨m,A,O⟩:∃m:Nat,(if (123:Int)<(V.len:Int) then 123 else (V.len:Int))=m/\m=Nat.min 123 V.len:=(by by_cases h:123<V.len;exact⟨123,by rw[iP];rfl,(xN (by omega)).symm⟩;exact⟨V.len,by rw[iN],(Nat.min_eq_right (by omega)).symm⟩);rw[A];have bt:m<=123:=(by rw[O];exact Nat.min_le_left _ _);have bP:m<=V.len:=(by rw[O];exact Nat.min_le_right _ _);refine Rds.part aH 0 m rfl rfl (by omega) (by rw[yB];omega) fun cs bQ az _=>?_;rw[xD] at az;have ai:(numbers.drop (123*j)).take m=(numbers.drop (123*j)).take 123:=(by by_cases h:123<V.len;rw[O];congr 1;exact xN (by omega);have:m=V.len:=(by rw[O];exact Nat.min_eq_right (by omega));rw[this,zS (by rw[yB];omega),zS (by rw[yB];omega)]);generalize bu:(numbers.drop (123*j)).take m=chunk at az ai;have aX:chunk.length=m:=(by rw[<- bu,yK,yB];omega);have aF:cs.len=m:=(by omega);refine hy ((j:Int),cs) w7 _ (U.at (i:=0) rfl) ?_;dsimp only;refine⟨U.at (i:=0) rfl,?_⟩;have z:=U.upd (o':=Bz) 0 rfl;have C:=z.rebaseS [];have aY:Rd [] (Pt.upd w7 l Bz) sp pages:=(I.weak (fun b y=>by cases y)).frame0 z.fr;have aq:Bodies ([l,Dm,rp,rl,ro,r1]++G) (Pt.upd w7 l Bz) so (bodiesL numbers pages j) Bo:=ap.frame ((qbu (qab (U.at (i:=0) rfl)) Bz).mono fun b y _=>by simp at y;subst y;simp) ah (fun b y=>.inl y);have aZ:=ap.choose_spec.1.lt;refine qaf (fun x w'=>x=pages.getD (j+1) 0/\w'=Pt.upd w7 l Bz) ?_ ?_;refine oA C 5 rfl sp rfl ?_;rw[wi' ((j:Int)+1) (by omega)];apply qaa<;>intro aI;have h2:j+1<pages.length:=(by have:=zC aI;omega);exact oA C 5 rfl sp rfl<|Rd.at aY (j+1) (by omega) (getD_some h2)<|⟨rfl,rfl⟩;have h2:¬j+1<pages.length:=(by have:=zB aI;omega);exact⟨by rw[yQ,yR (by omega)];rfl,rfl⟩;rintro x w8 ⟨rfl,rfl⟩;generalize bv:pages.getD (j+1) 0=next
  have hW:(Pt.upd w7 l Bz).heap.size=w7.heap.size:=qb1 _ _ _;generalize b6:Pt.upd w7 l Bz=w8 at z C aY hW aq;have bR:Rd [] w8 cs chunk:=az.frame0 z.fr;have aj:∀p∈[l,Dm,rp,rl,ro,r1],p<w8.heap.size:=fun p I=>by have al:=fun (k:Nat) (q:Nat×Obj) (hq:_[k]?=some q)=>qab (z.at (i:=k) hq);simp only[zG,xV,or_false] at I;rcases I with rfl|rfl|rfl|rfl|rfl|rfl;exact al 0 _ rfl;exact al 1 _ rfl;exact al 2 _ rfl;exact al 3 _ rfl;exact al 4 _ rfl;exact al 5 _ rfl
  obtain⟨i5,bw,bx,a0,a1⟩:=qmb;refine qrS (s:=⟨none,0,0⟩) (l:=[]) (B:=[]) (.nil _ _ _) (by simp) fun s9 B9 w9 b9 f9 n9=>?_;rw[xG] at b9;have C:=C.frame0 f9;refine oB C fun r2 b' ca a2 C=>?_;have aK:∀b∈B9,w8.heap.size<=b:=fun b y=>by rcases n9 b y with h|h;cases h;exact h
  refine Buf.appSrc (ys:=[wrap .u8 (Int.fdiv chunk.length (2^8)),wrap .u8 chunk.length]) (e:=5) (b9.frame0 a2) qat (by kernel_rfl) bw bx a0 rfl (.ofSlice _ (e':=5) (by kernel_rfl) _ 2 2 _ (by rw[qaH];rfl) (fun q u hq=>?_) (fun u hu=>?_)) rfl (by rw[a1,qao];decide) (by rw[qao];decide) fun cb a3 cc bA bB bC _=>?_;rw[Addr.add_mk,qag (C.at (i:=0) rfl),xO,aF,<- aX];rw[qaH] at hq;rw[List.getElem?_toArray];exact hq;rw[qaH] at hu;obtain⟨x,_,rfl⟩:=mem_map.1 hu;rfl;have cd:=f9.size;have bU:=a2.size;have bD:=b9.lt;have C:=(C.sub (sublist_cons_self _ _)).frame bB (fun b y=>.inr (aK b y)) (fun p I y=>by have h1:=aj p.1 (zY (f:=(·.1)) I);have h2:=aK _ y;omega);have a4:∀b∈a3,w8.heap.size<=b:=fun b y=>by rcases bC b y with h|h;exact aK b h;omega
  refine qah (fun x w'=>∃(q:Nat) (Bq:List Nat),x.2=q/\q<=m/\BufB w' x.1 (be next 4++[wrap .u8 (Int.fdiv chunk.length (2^8)),wrap .u8 chunk.length]++(chunk.take q).flatMap (be · 4)) Bq/\(∀b∈Bq,w8.heap.size<=b)/\
    Own ([l,Dm,rp,rl,ro,r1]++[]) w8 w' [(l,Bz),(Dm,.deferred (some [])),(rp,.cells #[.i sp.len] 3 (0,0)),(rl,.cells #[V.v] 92 (0,0)),(ro,.cells #[so.v] 22 (0,0)),(r1,.cells #[sp.v] 92 (0,0))]) (fun x _=>((m:Int)-x.2).toNat)
   ⟨0,a3,rfl,by omega,by simpa using bA,a4,C⟩ ?_
  rintro⟨bF,qq⟩ aL ⟨q,Bq,a5,ce,bq,nq,hq⟩ Y hY;simp only at a5 bq;subst a5;dsimp only;rw[aF];apply qaa<;>intro aM
  ·have ar:q<chunk.length:=(by have:=zC aM;omega);have aN:Rd [] aL cs chunk:=az.frame0 (z.backS (T:=[]) (by simp) hq.fr);refine Rd.at aN q rfl (zA ar) ?_;have aO:(be next 4++[wrap .u8 (Int.fdiv chunk.length (2^8)),wrap .u8 chunk.length]++(chunk.take q).flatMap (be · 4)).length<=1000000:=(by rw[zF,zF,qao,qds,yK,qxe];omega);refine qrS bq aO fun a6 aA aB aP aQ aR=>?_;rw[wi' _ (by omega)];refine hY _ _ ⟨q+1,aA,by simp,by omega,?_,fun b y=>?_,hq.frame aQ (fun b y=>.inr (nq b y)) (fun p I y=>?_)⟩ (by dsimp only;omega);rw[yF ar,yP,flatMap_singleton,<- zV];exact aP;rcases aR b y with h|h;exact nq b h;exact zL hq.fr.size h;have h1:=aj p.1 (zY (f:=(·.1)) I);have h2:=nq _ y;omega
  ·have bG:q=m:=(by have:=zB aM;omega);subst bG;rw[zS (by omega)] at bq;refine oA hq 4 rfl so rfl ?_;have a7:RdB (([l,Dm,rp,rl,ro,r1]++G)++Bo) aL bF (bodyV next chunk):=bq.rds qat fun b y A=>by
    have h2:=nq _ y;rcases zD.1 A with A|A;rcases zD.1 A with A|A
    have:=aj b A;omega
    have:=hG b A;have:=z.fr.size;omega
    have:=aZ b A;omega
   have aC:Bodies ([l,Dm,rp,rl,ro,r1]++G) aL so (bodiesL numbers pages j) Bo:=aq.frame (hq.fr.mono fun b y _=>by rw[xF] at y;exact zH _ y) ah (fun b y=>.inl y);refine Bodies.push aC a7 (by rw[bodiesL,zK,length_range];omega) fun a6 aA aB aP aQ aR=>?_;have au:=(z.rejoin (T:=[]) (by simp) hq).frame aQ (fun b y=>.inr (ak b y).1) (fun p I y=>(ak _ y).2 (zY (f:=(·.1)) I));refine oD au 4 rfl _ fun cg au bH=>⟨au.at (i:=0) rfl,?_⟩;have ar:=au.upd (o':=R) 0 rfl;refine cond_false rfl<|oA ar 3 rfl V rfl<|Rds.part aH q (numbers.drop (123*j)).length rfl (by rw[yB];show (V.len:Int)=_;omega) (by rw[yB];omega) (zM _) fun cr bW a8 _=>oD ar 3 rfl _ fun bI bJ bK=>?_;rw[wi' _ (by omega)];have av:∀b∈aA,w.heap.size<=b/\b∉[l,Dm,rp,rl,ro,r1]:=fun b y=>by
    rcases aR b y with h|h;exact ak b h;have h1:=hq.fr.size;refine⟨?_,fun A=>?_⟩
    have:=z.fr.size;omega
    have:=aj b A;omega
   have ff:Fr [l,Dm,rp,rl,ro,r1] aB bI:=
    (bH.mono fun b y _=>by simp at y;subst y;simp).trans' ((qbu (qab (au.at (i:=0) rfl)) R).mono (T:=[l,Dm,rp,rl,ro,r1]) fun b y _=>by simp at y;subst y;simp) (fun b y=>.inl y) |>.trans' (bK.mono (T:=[l,Dm,rp,rl,ro,r1]) fun b y _=>by simp at y;subst y;simp) (fun b y=>.inl y)
   have aD:=aP.frame (ff.mono fun b y _=>zH _ y) (fun b y A=>by
    rcases zD.1 A with A|A;exact (av b y).2 A
    have:=hG b A;have:=(av b y).1;omega) (fun b y=>.inl y)
   have a9:((numbers.drop (123*j)).take (numbers.drop (123*j)).length).drop q=numbers.drop (123*(j+1)):=(by rw[xX,xB];by_cases h:123<V.len;rw[show q=123 by rw[O];exact xN (by omega),Nat.mul_add];have:q=V.len:=(by rw[O];exact Nat.min_eq_right (by omega));rw[xZ (by omega),xZ (by omega)]);rw[a9] at a8;have aO:bodiesL numbers pages (j+1)=bodiesL numbers pages j++[bodyV next chunk]:=(by rw[bodiesL,range_succ,xJ,map_singleton,bv,<- ai];rfl);refine hX _ _ ⟨j+1,cr,a6,aA,by simp,by omega,a8,by rw[aO];exact aD,av,bJ⟩ (by omega)
 have bL:j=pages.length:=(by have:=zB hc;omega);subst bL;refine .inl ⟨U.at (i:=0) rfl,?_⟩;have z:=U.upd (o':=E0) 0 rfl;refine oA z 4 rfl so rfl<|Own.undefer z.rebase 1 rfl fun aB hd=>?_;have bM:Bodies ([l,Dm,rp,rl,ro,r1]++G) (Pt.upd w7 l E0) so (bodiesL numbers pages pages.length) Bo:=ap.frame ((qbu (qab (U.at (i:=0) rfl)) E0).mono fun b y _=>by simp at y;subst y;simp) ah (fun b y=>.inl y);exact hk so Bo aB (bM.frame (S':=G) (hd.fr.mono fun b y _=>zH _ y) ah (fun b y=>.inl (zI _ y))) (z.back hd.fr) (fun b y=>(ak b y).1)
def supV (q:Int) (t:List Int):List Value:=.int .u64 q::t.map (Value.int .u32)
def superB (q:Int) (t:List Int):List Int:=be (wrap .u32 (Int.fdiv q (2^32))) 4++be (wrap .u32 q) 4++t.flatMap (be · 4)
theorem qcy(h:t.length=27):(superB q t).length=116:=by rw[superB,zF,zF,qao,qao,qds,h]
theorem qaG(h:t.length=27):(supV q t).length=28:=by simp[supV,h]
theorem qhg(n:Nat)(h:n<t.length:=by omega):(supV q t).toArray[n+1]?=some (.u (t.getD n 0)):=by simp[supV,yQ,zA h]
theorem qh2(q:Int)(t:List Int):((supV q t).all Value.oneCell')=true:=by rw[all_eq_true];intro v h;rcases zG.1 h with rfl|h;rfl;obtain⟨x,_,rfl⟩:=mem_map.1 h;rfl
theorem qpe{α:Type}{enc:α->List Value}{k:Nat}{l:List α}(h:Buf enc k w s l B):Buf enc k w.drew s l B:=h
def Apart (w0:World) (L:List (Nat×Obj)) (B:List Nat):Prop:=∀b∈B,w0.heap.size<=b/\b∉L.map (·.1)
theorem Apart.cons{o:Obj}(h:Apart w0 L B)(z:r∉B):Apart w0 ((r,o)::L) B:=fun b u=>⟨(h b u).1,fun y=>by rcases zG.1 y with rfl|y;exact z u;exact (h b u).2 y⟩
theorem Apart.tail{p:Nat×Obj}(h:Apart w0 (p::L) B):Apart w0 L B:=fun b u=>⟨(h b u).1,fun y=>(h b u).2 (zN _ y)⟩
theorem qsB{j:Nat}(h:j+3<=l.length:=by omega):l.drop j=l.getD j 0::l.getD (j+1) 0::l.getD (j+2) 0::l.drop (j+3):=by rw[zX (by omega),zX (i:=j+1) (by omega),zX (i:=j+1+1) (by omega)];simp only[yQ];rw[zA (show j<l.length by omega),zA (show j+1<l.length by omega),zA (show j+2<l.length by omega)];rfl
theorem take3{j:Nat}(h:j+3<=l.length):l.take (j+3)=l.take j++[l.getD j 0,l.getD (j+1) 0,l.getD (j+2) 0]:=by rw[take_add,qsB h];rfl
theorem qx1{j:Nat}(h:j+3<=l.length):(l.map (Value.int .u32)).extract j (j+3)=[.u (l.getD j 0),.u (l.getD (j+1) 0),.u (l.getD (j+2) 0)]:=by rw[extract_eq_take_drop,<- xM,qsB h,show j+3-j=3 by omega];rfl
theorem qdf{K:Sl->WP}(A:Own [] w0 w L)(h:BufB w s l B)(C:Apart w0 L B)(I:l.length<=1000000)(J:∀z B' w',Own [] w0 w' L->BufB w' z (l++be n 4) B'->Apart w0 L B'->K z w'): cW 167 [s.v,.u n] [.one .slice] w K:=by
 refine qqy ?_;unfold qmO;refine qob h I fun z B' w' O R n'=>J z B' w' (A.frame R (fun b y=>.inr (C b y).1) (fun p E y=>(C _ y).2 (zY E))) O fun b y=>?_;rcases n' b y with G|G;exact C b G;refine⟨zL A.fr.size G,fun U=>?_⟩;obtain⟨p,E,rfl⟩:=mem_map.1 U
 have:=qab (A.blk p E)
 omega
theorem qtA{K:Sl->WP}(hv:Hv w)(E:t.length=27)(hk:∀b T w',w'.heap[b]?=some (.cells (bytesA (sealV (wrap .u32 (Int.tmod q 2)) 1 (superB q t))) T (0,0))->Fr [] w w'->w.heap.size<=b->K ⟨pW b,512,512⟩ w'): cW 133 [.agg (supV q t).toArray] [.one .slice] w K:=by
 refine qnp ?_;unfold qjz;refine oB (oE [] w) fun r1 w1 e1 f1 y=>?_;have R:(supV q t).toArray[0]?=some (.int .u64 q):=rfl;have C:=fun n (h:n<27)=>qhg (q:=q) (t:=t) n;refine oA y.drew 0 rfl q R<|oA y.drew 0 rfl q R<|qdf (s:=⟨none,0,0⟩) (l:=[]) (B:=[]) y.drew (.nil _ _ _) (fun b z=>by cases z) (by simp) fun s5 B5 w6 y U G=>qaj (y.cell (off:=0) 0 rfl R)<|qdf y U G (by simp[qao]) fun s8 B8 w9 y b8 n8=>oA y.drew 0 rfl (t.getD 0 0) (C 0 (by decide))<|oA y.drew 0 rfl (t.getD 1 0) (C 1 (by decide))<|oA y.drew 0 rfl (t.getD 2 0) (C 2 (by decide))<|qdf y.drew (qpe b8) n8 (by simp[qao]) fun ay az aA y V aa=>qan (y.cell (off:=3) 0 rfl (C 2 (by decide))) (y.cell (off:=2) 0 rfl (C 1 (by decide)))<|qdf y V aa (by simp[qao]) fun aB aC aD y ab ac=>qaj (y.cell (off:=3) 0 rfl (C 2 (by decide)))<|qdf y ab ac (by simp[qao]) fun aE ad aF y I ae=>?_;have hr:((supV q t).toArray.toList.drop 4).take 24=(t.drop 3).map (Value.int .u32):=by show (List.drop 3 (t.map (Value.int .u32))).take 24=_;rw[xM,zS (by rw[yB,zK,E];decide)]
 refine qa0 (y.at (i:=0) rfl) ((t.drop 3).map (Value.int .u32)) (by rw[zK,yB,E]) hr ?_;have af:(t.drop 3).length=24:=(by rw[yB,E]);have ag:t=[t.getD 0 0,t.getD 1 0,t.getD 2 0]++t.drop 3:=by
  have:=qsB (l:=t) (j:=0) (by omega)
  rw[xD] at this;exact this
 have base:[]++be (wrap .u32 (Int.fdiv q (2^32))) 4++be (wrap .u32 q) 4++be (t.getD 0 0) 4++be (t.getD 1 0) 4++be (t.getD 2 0) 4=be (wrap .u32 (Int.fdiv q (2^32))) 4++be (wrap .u32 q) 4++[t.getD 0 0,t.getD 1 0,t.getD 2 0].flatMap (be · 4):=(by simp);rw[base] at I;refine qah (fun x w'=>∃(i:Nat) (B:List Nat),x.2=i/\i<=8/\BufB w' x.1 (be (wrap .u32 (Int.fdiv q (2^32))) 4++be (wrap .u32 q) 4++[t.getD 0 0,t.getD 1 0,t.getD 2 0].flatMap (be · 4)++((t.drop 3).take (3*i)).flatMap (be · 4)) B/\Own [] w w' [(r1,.cells (supV q t).toArray 121 (0,0))]/\Apart w [(r1,.cells (supV q t).toArray 121 (0,0))] B) (fun x _=>(8-x.2).toNat)
  ⟨0,ad,rfl,by omega,by simpa using I,y,ae⟩ ?_
 rintro⟨s,ii⟩ w2 ⟨i,B,J,aH,A,y,nb⟩ X hX;simp only at J A;subst J;dsimp only;have ak:(be (wrap .u32 (Int.fdiv q (2^32))) 4++be (wrap .u32 q) 4++[t.getD 0 0,t.getD 1 0,t.getD 2 0].flatMap (be · 4)++((t.drop 3).take (3*i)).flatMap (be · 4)).length<=200:=by rw[zF,zF,zF,qao,qao,qds,qds,yK,af];show 4+4+3*4+_<=200;omega
 apply qaa<;>intro hc;have hi:i<8:=(by have:=zC hc;omega);refine qaN ⟨by omega,by omega⟩ ?_;have h3:3*i+3<=(t.drop 3).length:=(by omega);refine qwE ((t.drop 3).getD (3*i) 0,(t.drop 3).getD (3*i+1) 0,(t.drop 3).getD (3*i+2) 0) ?_ ?_
 have:=qx1 h3
 rw[show Int.toNat (i:Int)*3=3*i by simp;omega];exact this;refine oB y fun r2 w3 e3 f3 u=>oD u 0 rfl _ fun w4 u f4=>?_;have ai:=A.lt;have O:r2∉B:=fun z=>by have:=ai _ z;omega
 have A:=(A.frame0 f3).frame f4 (fun b z hm=>by simp only[zE] at hm;subst hm;exact O z);refine oA u.drew 0 rfl ((t.drop 3).getD (3*i) 0) rfl<|oA u.drew 0 rfl ((t.drop 3).getD (3*i+1) 0) rfl<|oA u.drew 0 rfl ((t.drop 3).getD (3*i+2) 0) rfl<|qdf u.drew (qpe A) (nb.cons O) (by omega) fun s5 B5 w5 u U G=>qan (u.cell (off:=2) 0 rfl rfl) (u.cell (off:=1) 0 rfl rfl)<|qdf u U G (by rw[zF,qao];omega) fun s6 B6 w6 u b6 n6=>qaj (u.cell (off:=2) 0 rfl rfl)<|qdf u b6 n6 (by rw[zF,zF,qao,qao];omega) fun s7 B7 w7 u b7 n7=>?_;rw[wi' _ (by omega)];refine hX _ _ ⟨i+1,B7,by simp,by omega,?_,u.sub (sublist_cons_self _ _),n7.tail⟩ (by dsimp only;omega);rw[show 3*(i+1)=3*i+3 by omega,take3 h3,yP];have e:([(t.drop 3).getD (3*i) 0,(t.drop 3).getD (3*i+1) 0,(t.drop 3).getD (3*i+2) 0]:List Int).flatMap (be · 4)=be ((t.drop 3).getD (3*i) 0) 4++be ((t.drop 3).getD (3*i+1) 0) 4++be ((t.drop 3).getD (3*i+2) 0) 4:=(by simp);rw[e];simpa only[zV] using b7;obtain rfl:i=8:=by have:=zB hc;omega
 rw[zS (by omega),zV,<- yP,<- ag] at A;refine oA y 0 rfl q R ?_;have z:=A.rds (S:=[]) qat (by simp);refine qnk z (hv.frame0 y.fr) (by show (superB q t).length<=_;rw[qcy E];decide) (fun h=>?_) fun _ b T w5 h5 f5 G=>?_;have h':500<(superB q t).length:=h;rw[qcy E] at h';exact absurd h' (by decide);exact hk b T w5 h5 (y.fr.trans' f5 (by simp)) (zL y.fr.size G)
theorem qc5(E:Own [] w0 w L)(i:Nat)(hi:L[i]?=some (r,.cells #[s.v] 23 (0,0)))(h:RdB [] w0 s l)(G:4<=l.length)(I:∀z w',RdB [] w0 z (l.drop 4)->Own [] w0 w' (L.set i (r,.cells #[z.v] 23 (0,0)))->K (first4 l) w'): callV prog (.func (.func 231) #[] #[.pointer (pW r)]) [] [.one .u] w K:=by refine qbf (lb:=[.pointer (pW r)]) rfl (by kernel_rfl)<|qkg ?_;unfold qgm;have y:=E.drew;have A:RdB [] w.drew s l:=h.frame0 y.fr;exact oA y i hi s rfl<|RdB.at A 0 rfl (getD_some (by omega))<|oA y i hi s rfl<|RdB.at A 1 rfl (getD_some (by omega))<|oA y i hi s rfl<|RdB.at A 2 rfl (getD_some (by omega))<|oA y i hi s rfl<|RdB.at A 3 rfl (getD_some (by omega))<|oA y i hi s rfl<|Rds.drop h 4 rfl G (by omega) fun z J=>oH y i hi _ rfl rfl rfl fun w' C _=>I z w' J C
def parseQ (l:List Int):Int:=bits .or .u64 (wrap .u64 (wrap .u64 (first4 l)*2^32)) (wrap .u64 (first4 (l.drop 4)))
def parseT (l:List Int):List Int:=(List.range 27).map fun i=>first4 (l.drop (8+4*i))
theorem qaT(l:List Int):(parseT l).length=27:=by simp[parseT]
def supN (q:Int) (f:Nat->Int) (n:Nat):Array Value:=(supV q ((List.range n).map f++zs (27-n))).toArray
theorem qmK{x y:Int}{A Z:List Int}:splice (supV q (A++x::Z)).toArray (A.length+1) [.u y]=(supV q (A++y::Z)).toArray:=by
 apply Array.ext'
 have:=qfv (.int .u64 q::A.map (Value.int .u32)) [Value.int .u32 x] [Value.int .u32 y] (Z.map (Value.int .u32)) rfl
 rw[qar _ _ _ (by simp[supV])];simpa[supV] using this
theorem qdh{f:Nat->Int}{n:Nat}(h:n<27:=by decide):splice (supN q f n) (n+1) [.u (f n)]=supN q f (n+1):=by
 have z:zs (27-n)=0::zs (27-(n+1)):=by rw[show 27-n=(27-(n+1))+1 by omega];rfl
 have:=qmK (q:=q) (x:=0) (y:=f n) (A:=(List.range n).map f) (Z:=zs (27-(n+1)))
 rw[zK,length_range] at this;rw[supN,z,this,supN,range_succ,xJ,zV];rfl
theorem quW{q':Int}{f:Nat->Int}{n:Nat}:splice (supN q f n) 0 [.int .u64 q']=supN q' f n:=by apply Array.ext';rw[qar _ _ _ (by simp[supN,supV])];simp[supN,supV]
theorem qdg{f:Nat->Int}{n:Nat}(h:n<=27:=by decide):(supN q f n).size=28:=by simp[supN,supV,qaI];omega
theorem quV{f:Nat->Int}:supN q f 27=(supV q ((List.range 27).map f)).toArray:=by show (supV q ((List.range 27).map f++[])).toArray=_;rw[xF]
theorem qtz{K:List Value->WP}(h:RdB S w s l)(hl:l.length=116)(hk:∀w',Fr [] w w'->K (supV (parseQ l) (parseT l)) w'): cW 207 [s.v] [.raw] w K:=by
 refine qnq ?_;unfold qjA;have h0:RdB [] w s l:=h.weak (by simp);have I:((prog.info? 121).bind (·.zero)).map (fun z=>z.cells.toList)=some (supV 0 (zs 27)):=(by kernel_rfl);refine oB (oE [] w) fun r1 w1 e1 f1 u=>oI u I fun r3 w2 e3 u=>oI u I fun A w3 e5 u=>qc5 u 2 rfl h0 (by omega) fun s1 w4 h1 u=>?_;have C:∀(q:Int),(supV q (zs 27)).toArray=supN q (fun i=>first4 (l.drop (8+4*i))) 0:=fun q=>rfl;refine oG u 0 rfl (supN (wrap .u64 (wrap .u64 (first4 l)*2^32)) (fun i=>first4 (l.drop (8+4*i))) 0) ?_ rfl ?_ fun w5 u _=>?_;rw[C 0];exact quW;exact zO rfl;refine oA u.drew 0 rfl (wrap .u64 (wrap .u64 (first4 l)*2^32)) rfl<|qc5 u.drew 2 rfl h1 (by rw[yB];omega) fun s2 w6 J u=>qaj (u.cell (off:=0) 0 rfl rfl)<|oG u 0 rfl (supN (parseQ l) (fun i=>first4 (l.drop (8+4*i))) 0) quW rfl (zO rfl) fun w7 u _=>?_;rw[xB] at J;refine qc5 u 2 rfl J (by rw[yB];omega) fun s3 w8 O u=>oG u 0 rfl (supN (parseQ l) (fun i=>first4 (l.drop (8+4*i))) 1) (qdh (by decide)) rfl (by show 1+1<=_;rw[qdg (by decide)];decide) fun w9 u _=>?_;rw[xB] at O;refine qc5 u 2 rfl O (by rw[yB];omega) fun s4 ah R u=>oG u 0 rfl (supN (parseQ l) (fun i=>first4 (l.drop (8+4*i))) 2) (qdh (by decide)) rfl (by show 2+1<=_;rw[qdg (by decide)];decide) fun ai u _=>?_;rw[xB] at R;refine qc5 u 2 rfl R (by rw[yB];omega) fun s5 ak U u=>oG u 0 rfl (supN (parseQ l) (fun i=>first4 (l.drop (8+4*i))) 3) (qdh (by decide)) rfl (by show 3+1<=_;rw[qdg (by decide)];decide) fun al u _=>?_;rw[xB] at U;refine qah (fun x w'=>∃(i:Nat) (E:Sl),x=i/\i<=8/\RdB [] w E (l.drop (20+12*i))/\
   Own [] w w' [(A,.cells (supN (parseQ l) (fun i=>first4 (l.drop (8+4*i))) (3+3*i)) 121 (0,0)),(r3,.cells (supV 0 (zs 27)).toArray 121 (0,0)),(r1,.cells #[E.v] 23 (0,0))]) (fun x _=>(8-x).toNat)
  ⟨0,s5,rfl,by omega,U,u⟩ ?_
 rintro x am ⟨i,E,rfl,an,hx,u⟩ X hX;apply qaa<;>intro G;have hi:i<8:=(by have:=zC G;omega);refine qaN ⟨by omega,by omega⟩ ?_;simp only[Addr.add_mk];have aq:Int.toNat (i:Int)=i:=(by omega);refine qc5 u 2 rfl hx (by rw[yB];omega) fun s6 y V u=>?_;show Pt.st ⟨A,4+Int.toNat (i:Int)*3+0,none⟩ _ _ _;refine oG u 0 rfl (supN (parseQ l) (fun i=>first4 (l.drop (8+4*i))) (3+3*i+1)) ?_ rfl ?_ fun ar u _=>?_;rw[show 20+12*i=8+4*(3+3*i) by omega,show 4+Int.toNat (i:Int)*3+0=(3+3*i)+1 by omega];exact qdh (f:=fun i=>first4 (l.drop (8+4*i))) (by omega);rw[qdg (by omega)];show _+1<=28;omega;rw[xB] at V;refine qc5 u 2 rfl V (by rw[yB];omega) fun s7 au h7 u=>?_;show Pt.st ⟨A,0+4+Int.toNat (i:Int)*3+1,none⟩ _ _ _;refine oG u 0 rfl (supN (parseQ l) (fun i=>first4 (l.drop (8+4*i))) (3+3*i+2)) ?_ rfl ?_ fun av u _=>?_;rw[show 20+12*i+4=8+4*(3+3*i+1) by omega];show splice _ (0+4+Int.toNat (i:Int)*3+1) _=_;rw[show 0+4+Int.toNat (i:Int)*3+1=(3+3*i+1)+1 by omega];exact qdh (f:=fun i=>first4 (l.drop (8+4*i))) (by omega);rw[qdg (by omega)];show 0+4+Int.toNat (i:Int)*3+1+1<=28;omega;rw[xB] at h7;refine qc5 u 2 rfl h7 (by rw[yB];omega) fun s8 ax h8 u=>?_;show Pt.st ⟨A,0+4+Int.toNat (i:Int)*3+2,none⟩ _ _ _;refine oG u 0 rfl (supN (parseQ l) (fun i=>first4 (l.drop (8+4*i))) (3+3*i+3)) ?_ rfl ?_ fun ay u _=>?_;rw[show 20+12*i+4+4=8+4*(3+3*i+2) by omega];show splice _ (0+4+Int.toNat (i:Int)*3+2) _=_;rw[show 0+4+Int.toNat (i:Int)*3+2=(3+3*i+2)+1 by omega];exact qdh (f:=fun i=>first4 (l.drop (8+4*i))) (by omega);rw[qdg (by omega)];show 0+4+Int.toNat (i:Int)*3+2+1<=28;omega;rw[xB] at h8;rw[wi' _ (by omega)];refine hX _ _ ⟨i+1,s8,by simp,by omega,?_,?_⟩ (by omega);rw[show 20+12*(i+1)=20+12*i+4+4+4 by omega];exact h8;rw[show 3+3*(i+1)=3+3*i+3 by omega];exact u;obtain rfl:i=8:=by have:=zB G;omega
 rw[show 3+3*8=27 from rfl,quV] at u;refine qa0 (u.at (i:=0) rfl) (supV (parseQ l) (parseT l)) (qaG (qaT l)) (by rw[xD];exact zS (Nat.le_of_eq (qaG (qaT l))))<|qaN (qaG (qaT l))<|oG u 1 rfl (supV (parseQ l) (parseT l)).toArray ?_ (qh2 _ _) ?_ fun y u _=>?_;apply Array.ext';rw[qar _ _ _ (by rw[qaG (qaT l)];decide),qaG (qaT l),take_zero,xG,drop_of_length_le (by decide),xF];rw[qaG (qaT l)];decide;exact qa0 (u.at (i:=1) rfl) (supV (parseQ l) (parseT l)) (qaG (qaT l)) (by rw[xD];exact zS (Nat.le_of_eq (qaG (qaT l))))<|hk y u.fr
theorem qfw:((prog.info? 121).bind (·.zero)).map (fun z=>z.cells.toList)=some (supV 0 (zs 27)):=by kernel_rfl
theorem qtc{P:Program}{t:TypeId}{z:Value}{offs:Array (Nat×Nat)}(u:(P.info? t).bind (·.zero)=some z)(y:P.underlying t=some (.struct (fieldsOf P t)))(h:∀w,((fieldsOf P t).mapM fun f=>do pure (f.offset,<- sizeOf f.type):Sem (Array (Nat×Nat))).run P w=.ok offs w)(w:World): (Instr.build t #[]).run P w=.ok (.agg z.cells) w:=by simp only[Instr.build,Sem.run_bind,qaM u,Result.andThen_ok,run_underlying y,h,Instr.fill,Sem.run_pure]
theorem qe7{K:List Value->Prop}(k:K (supV 0 (zs 27))):runQ [Ty1.raw] (fun w'=>(Instr.build 121 #[]).run prog w') w K:=by
 obtain⟨z,u,h⟩:=yS.1 qfw;refine qaQ (ts:=[Ty1.raw]) (supV 0 (zs 27)) ?_ k
 have:=qtc (P:=prog) (t:=121) (offs:=#[(0,1),(1,1),(2,1),(3,1),(4,24)]) u (by kernel_rfl) (fun w=>by kernel_rfl) w
 rw[this];show Result.ok (Value.agg z.cells) w=.ok (Value.agg (supV 0 (zs 27)).toArray) w;rw[<- h]
theorem qcx{vs:List Value}(h:vs.length=cs.size:=by omega):splice cs 0 vs=vs.toArray:=by apply Array.ext';rw[qar _ _ _ (by omega),take_zero,xG,drop_of_length_le (by rw[Array.length_toList];omega),xF]
theorem qgl(h:t.length=27):(supV q t).toArray.size=28:=by rw[size_toArray];exact qaG h
theorem qeT{u:Nat×Nat}{K:List Value->Prop}(y:w.heap[r]?=some (.cells (supV q t).toArray T u))(h:t.length=27)(k:K (supV q t)):ldV 28 ⟨r,0,none⟩ w K:=
 qa0 y (supV q t) (qaG h) (by rw[xD,zS (Nat.le_of_eq (qaG h))]) k
theorem qg7{A:Int}{y:List Int}{K:WP}(C:Own [] w0 w L)(i:Nat)(hi:L[i]?=some (r,.cells (supV A y).toArray T (0,0)))(z:y.length=27)(h:t.length=27)(E:∀w',Own [] w0 w' (L.set i (r,.cells (supV q t).toArray T (0,0)))->K w'):chk ((supV q t).length=28) (st ⟨r,0,none⟩ (supV q t) w K):=by refine qaN (qaG h)<|oG C i hi (supV q t).toArray (qcx (by rw[qgl z,qaG h])) (qh2 _ _) (by rw[qgl z,qaG h];decide) fun w' u _=>E w' u
theorem qcI{C:Int}{z:List Int}{K:List Value->WP}(E:Own [] w0 w L)(i:Nat)(hi:L[i]?=some (r,.cells (supV C z).toArray T (0,0)))(G:z.length=27)(A:t.length=27)(I:∀w',Fr [] w0 w'->K (supV q t) w'):chk ((supV q t).length=28) (st ⟨r,0,none⟩ (supV q t) w fun w'=>ldV 28 ⟨r,0,none⟩ w' fun vs=>K vs w'):=by
 refine qg7 E i hi G A fun w' u=>?_;have y:i<L.length:=by rcases Nat.lt_or_ge i L.length with h|h;exact h;rw[yR h] at hi;cases hi
 exact qeT (u.at (i:=i) (by rw[List.getElem?_set_self y])) A (I w' u.fr)
abbrev Sup:=Int×List Int
def supZero:Sup:=(0,zs 27)
def readSV (place:Int) (l:List Int):Sup×Int:=
 if (openV place l).2.2≠0 then (supZero,(openV place l).2.2)
 else if (openV place l).1≠1\/(openV place l).2.1.length≠116 then (supZero,2)
 else if Int.tmod (parseQ (openV place l).2.1) 2≠place then (supZero,2)
 else ((parseQ (openV place l).2.1,parseT (openV place l).2.1),0)
theorem qb0(place:Int)(l:List Int):(readSV place l).1.2.length=27:=by unfold readSV;split<;>(try rfl);split<;>(try rfl);split<;>rfl
def newestV (a b:List Int):Sup×Int:=
 if (readSV 0 a).2≠0/\(readSV 1 b).2≠0 then (supZero,5)
 else if (readSV 0 a).2≠0\/((readSV 1 b).2=0/\(readSV 1 b).1.1>(readSV 0 a).1.1) then ((readSV 1 b).1,0)
 else ((readSV 0 a).1,0)
theorem qkF(a b:List Int):(newestV a b).1.2.length=27:=by unfold newestV;split<;>(try rfl);split<;>exact qb0 _ _
theorem qo4{place:Int}{K:List Value×Int->WP}(h:RdB S w s l)(hv:Hv w)(hB:IsB l)(hl:l.length<=100000)(I:place=0\/place=1)(hk:∀w',Fr [] w w'->K (supV (readSV place l).1.1 (readSV place l).1.2,(readSV place l).2) w'): cW 162 [.i place,s.v] [.raw,.one .i] w K:=by
 refine qoJ ?_;unfold qkU;refine oI (oE [] w) qfw fun r1 w1 e1 u=>?_;have J:wrap .u32 place=place:=by rcases I with rfl|rfl<;>kernel_rfl
 have O:wrap .u64 place=place:=by rcases I with rfl|rfl<;>kernel_rfl
 rw[J,O];refine qaf (fun b w'=>b=false/\w'=w1) ?_ ?_;rcases I with rfl|rfl;exact cond_false rfl ⟨rfl,rfl⟩;exact cond_true rfl ⟨rfl,rfl⟩;rintro b w2 ⟨rfl,rfl⟩;refine cond_false rfl ?_;have z:∀ {e:Int} {w':World},readSV place l=(supZero,e)->Fr [] w w'->K (supV 0 (zs 27),e) w':=by
  intro e w' A hf
  have:=hk w' hf
  rw[A] at this;exact this
 refine qne (h.frame0 u.fr) (hv.frame0 u.fr) hB hl fun s3 B3 w3 b3 f3 n3=>?_;have u:=u.frame0 f3;apply qaa<;>intro y;have A:(openV place l).2.2≠0:=(by simpa using y);exact qe7<|qcI u 0 rfl rfl rfl fun w4 f4=>z (by rw[readSV,if_pos A]) f4;have A:¬(openV place l).2.2≠0:=(by simpa using y);refine qaf (fun b w'=>b=decide ((openV place l).1≠1\/(openV place l).2.1.length≠116)/\w'=w3) ?_ ?_;apply qaa<;>intro y;have G:(openV place l).1≠1:=(by simpa using y);exact⟨by simp[G],rfl⟩;have G:(openV place l).1=1:=(by simpa using y);have R:s3.len=(openV place l).2.1.length:=b3.len;refine⟨?_,rfl⟩;dsimp only;rw[R];by_cases hx:(openV place l).2.1.length=116;rw[hx];simp[G];have:¬(((openV place l).2.1.length:Int)=116):=(by omega);simp[G,hx,this];rintro b w4 ⟨rfl,rfl⟩;apply qaa<;>intro y;exact qe7<|qcI u 0 rfl rfl rfl fun w5 U=>z (by rw[readSV,if_neg A,if_pos (zC y)]) U;have C:=zB y;have E:(openV place l).2.1.length=116:=by rcases Nat.decEq (openV place l).2.1.length 116 with h|h;exact absurd (Or.inr h) C;exact h
 have V:=b3.rds (S:=[]) qat (by simp);refine qtz V E fun w5 U=>?_;have u:=u.frame0 U;refine oI u qfw fun r6 w6 e6 u=>qg7 u 0 rfl rfl (qaT _) fun w7 u=>oA u 0 rfl (parseQ (openV place l).2.1) rfl ?_;apply qaa<;>intro y;have hq:Int.tmod (parseQ (openV place l).2.1) 2≠place:=(by simpa using y);exact qe7<|qcI u 1 rfl rfl rfl fun w8 f8=>z (by rw[readSV,if_neg A,if_neg C,if_pos hq]) f8;have hq:¬Int.tmod (parseQ (openV place l).2.1) 2≠place:=(by simpa using y);refine qeT (u.at (i:=0) rfl) (qaT _)<|qcI u 1 rfl rfl (qaT _) fun w8 f8=>?_
 have:=hk w8 f8
 rw[readSV,if_neg A,if_neg C,if_neg hq] at this;exact this
theorem qso{R sb:Sl}{a b:List Int}{K:List Value×Int->WP}(ha:RdB S w R a)(hb:RdB S w sb b)(U:Hv w)(E:IsB a)(G:IsB b)(I:a.length<=100000)(J:b.length<=100000)(O:∀w',Fr [] w w'->K (supV (newestV a b).1.1 (newestV a b).1.2,(newestV a b).2) w'): cW 129 [R.v,sb.v] [.raw,.one .i] w K:=by
 refine qmN ?_;unfold qim;refine oI (oE [] w) qfw fun r1 w1 e1 h=>qo4 (ha.frame0 h.fr) (U.frame0 h.fr) E I (.inl rfl) fun w2 f2=>?_;have h:=h.frame0 f2;refine oI h qfw fun r3 w3 e3 h=>qg7 h 0 rfl rfl (qb0 _ _) fun w4 h=>qo4 (hb.frame0 h.fr) (U.frame0 h.fr) G J (.inr rfl) fun w5 f5=>?_;have h:=h.frame0 f5;refine oI h qfw fun r6 w6 e6 h=>qg7 h 0 rfl rfl (qb0 _ _) fun w7 h=>qaf (fun c w'=>c=decide ((readSV 0 a).2≠0/\(readSV 1 b).2≠0)/\w'=w7) ?_ ?_;apply qaa<;>intro u;have y:(readSV 0 a).2≠0:=(by simpa using u);refine⟨?_,rfl⟩;by_cases C:(readSV 1 b).2=0<;>simp[y,C];have y:(readSV 0 a).2=0:=(by simpa using u);exact⟨by simp[y],rfl⟩;rintro c w8 ⟨rfl,rfl⟩;apply qaa<;>intro u;refine qe7<|qcI h 2 rfl rfl rfl fun V f9=>?_
 have:=O V f9
 rw[newestV,if_pos (zC u)] at this;exact this;have hn:=zB u;refine qaf (fun c w'=>c=decide ((readSV 0 a).2≠0\/((readSV 1 b).2=0/\(readSV 1 b).1.1>(readSV 0 a).1.1))/\w'=w8) ?_ ?_;apply qaa<;>intro u;have y:(readSV 0 a).2≠0:=(by simpa using u);exact⟨by simp[y],rfl⟩;have y:(readSV 0 a).2=0:=(by simpa using u);apply qaa<;>intro u;have C:(readSV 1 b).2=0:=(by simpa using u);refine oA h 0 rfl (readSV 1 b).1.1 rfl<|oA h 1 rfl (readSV 0 a).1.1 rfl<|⟨?_,rfl⟩;by_cases h3:(readSV 1 b).1.1>(readSV 0 a).1.1<;>simp[y,C,h3];have C:(readSV 1 b).2≠0:=(by simpa using u);exact⟨by simp[y,C],rfl⟩;rintro c V ⟨rfl,rfl⟩;apply qaa<;>intro u;refine qeT (h.at (i:=0) rfl) (qb0 _ _)<|qcI h 2 rfl rfl (qb0 _ _) fun z A=>?_
 have:=O z A
 rw[newestV,if_neg hn,if_pos (zC u)] at this;exact this;refine qeT (h.at (i:=1) rfl) (qb0 _ _)<|qcI h 2 rfl rfl (qb0 _ _) fun z A=>?_
 have:=O z A
 rw[newestV,if_neg hn,if_neg (zB u)] at this;exact this
abbrev PGT:TypeId:=127
abbrev MLT:TypeId:=123
def look {β:Type} (n:Int):List (Int×β)->Option (Nat×β)
 | []=>none
 | p::r=>if n=p.1 then some (0,p.2) else (look n r).map fun q=>(q.1+1,q.2)
def setL {β:Type} (n:Int) (v:β) (l:List (Int×β)):List (Int×β):=match look n l with|some q=>l.set q.1 (n,v)|none=>l++[(n,v)]
def delL {β:Type} (n:Int) (l:List (Int×β)):List (Int×β):=match look n l with|some q=>l.eraseIdx q.1|none=>l
theorem qcm{β γ:Type}(g:β->γ)(n:Int):∀l:List (Int×β),look n (l.map fun e=>(e.1,g e.2))=(look n l).map fun q=>(q.1,g q.2)
 | []=>rfl
 | p::r=>by simp only[xK,look];by_cases h:n=p.1;simp[h];rw[if_neg h,if_neg h,qcm g n r];cases look n r<;>rfl
theorem qbZ(n:Int):∀l:List (Int×Value),posOf n l=look n l
 | []=>rfl
 | p::r=>by simp only[posOf,look,qbZ n r]
theorem qa1{β:Type}{n:Int}:∀ {l:List (Int×β)} {q:Nat×β},look n l=some q->l[q.1]?=some (n,q.2)/\(n,q.2)∈l
 | p::r,q,h=>by simp only[look] at h;by_cases hp:n=p.1;rw[if_pos hp] at h;cases h;subst hp;exact⟨rfl,by simp⟩;rw[if_neg hp] at h;obtain⟨x,u,rfl⟩:=yS.1 h;obtain⟨y,z⟩:=qa1 u;exact⟨by simpa using y,zN _ z⟩
theorem qbl{β:Type}{n:Int}:∀ {l:List (Int×β)},look n l=none↔n∉l.map (·.1)
 | []=>by simp[look]
 | p::r=>by simp only[look,xK,zG,not_or];by_cases hp:n=p.1;simp[hp];rw[if_neg hp,Option.map_eq_none_iff,qbl (l:=r)];simp[hp]
theorem qhY{β γ:Type}(g:β->γ)(n:Int)(v:β)(l:List (Int×β)):(setL n v l).map (fun e=>(e.1,g e.2))=setL n (g v) (l.map fun e=>(e.1,g e.2)):=by
 unfold setL;rw[qcm];cases look n l with
 | none=>simp
 | some q=>simp[map_set]
theorem qpi{β γ:Type}(g:β->γ)(n:Int)(l:List (Int×β)):(delL n l).map (fun e=>(e.1,g e.2))=delL n (l.map fun e=>(e.1,g e.2)):=by
 unfold delL;rw[qcm];cases look n l with
 | none=>rfl
 | some q=>simp only[Option.map_some];exact qby _ l q.1
theorem qhI{β:Type}{v:β}{l:List (Int×β)}{e:Int×β}(h:e∈setL n v l):e∈l\/e=(n,v):=by unfold setL at h;split at h;exact mem_or_eq_of_mem_set h;rcases zD.1 h with h|h;exact .inl h;exact .inr (by simpa using h)
theorem qpT{β:Type}{l:List (Int×β)}{e:Int×β}(h:e∈delL n l):e∈l:=by unfold delL at h;split at h;exact mem_of_mem_eraseIdx h;exact h
theorem qhX{t et:TypeId}{v:Value}(R:prog.underlying t=some (.map 37 et)){b:Nat}(h:MapS u32V w b f)(x:Int): ∃o,(Instr.mapUpdate t (.map (some b)) (u32V x) v).run prog w=.ok () (upd w b o)/\MapS u32V (upd w b o) b (setL x v f):=by
 have K:=qcs;cases C:posOf x f with
 | none=>
  obtain⟨o,E,h2⟩:=MapS.new R K h x (v:=v) C;refine⟨o,E,?_⟩;rw[qbZ] at C;rw[setL,C];exact h2
 | some q=>
  obtain⟨y,c,I,U,hs,V⟩:=h;have J:=C;rw[qbZ] at J;obtain⟨E,_⟩:=qa1 J;have A:=U;simp only[Ents] at A;have hi:y[q.1]?.map (·.key)=some (u32V x):=by
   have:=congrArg (·[q.1]?) A
   simp only[zQ,E,Option.map_some] at this;rw[<- Array.getElem?_toList];cases z:y.toList[q.1]? with
   | none=>rw[z] at this;cases this
   | some e=>rw[z] at this;simp at this;simp[this.1]
  refine⟨.map (y.modify q.1 fun e=>{ e with key:=u32V x,val:=v }) c,?_,y.modify q.1 fun e=>{ e with key:=u32V x,val:=v },c,?_,?_,?_,?_⟩;simp[Instr.mapUpdate,run_underlying R,Go.MapKept.run_getObj_map I,K.check,qaR K U,C,hi,Instr.keyThatStays,Instr.sameBits,Go.MapKept.run_setObj_map _ I];rfl;rw[qax _ _ _ _ (qab I),if_pos rfl];rw[setL,J];show ((y.modify q.1 _).toList).map _=(f.set q.1 (x,v)).map _;rw[Array.toList_modify];apply ext_getElem?;intro j;have u:=congrArg (·[j]?) A;simp only[zQ] at u;rw[zQ,zQ,List.getElem?_modify,xU];by_cases hqj:q.1=j;subst hqj;have O:=(zP.1 E).1;rw[E] at u;cases z:y.toList[q.1]? with
  | none=>rw[z] at u;cases u
  | some e=>simp[O]
  simp only[hqj,if_false];rw[<- u];cases y.toList[j]?<;>rfl;have e:(y.modify q.1 fun e=>{ e with key:=u32V x,val:=v }).toList.map (·.born)=y.toList.map (·.born):=by rw[Array.toList_modify];apply ext_getElem?;intro j;rw[zQ,zQ,List.getElem?_modify];by_cases hqj:q.1=j;subst hqj;cases y.toList[q.1]?<;>simp;simp[hqj]
  rw[e];exact hs;intro e G;rw[Array.toList_modify] at G;obtain⟨j,u⟩:=mem_iff_getElem?.1 G;rw[List.getElem?_modify] at u;by_cases hqj:q.1=j;subst hqj;cases z:y.toList[q.1]? with
  | none=>rw[z] at u;simp at u
  | some e0=>
   rw[z] at u;simp at u;subst u;exact V e0 (yE z)
  simp[hqj] at u;exact V e (yE (by rw[Array.getElem?_toList];exact u))
section
structure PgM where
 sup:Sup
 lists:List Int
 named:List Int
 turn:Int
 over:Bool
 free:List Int
 deferred:List Int
 fresh:List (Int×Int×List Int)
 roots:List Int
abbrev Leaf:=Int×Sl×List Int
def leafV (x:Leaf):Value:=.agg #[.b x.1,x.2.1.v]
def pgRest (sl sn:Sl) (turn:Int) (over:Bool) (fb defb mb:Nat):List Value:=
 [sl.v,sn.v,.i turn,.bool over,.pointer (pW fb),.pointer (pW defb),.map (some mb)]
def pgCells (db:Option Addr) (sup:Sup) (sl sn:Sl) (turn:Int) (over:Bool) (fb defb mb:Nat) (roots:List Int):Array Value:=
 ((.pointer db::supV sup.1 sup.2)++pgRest sl sn turn over fb defb mb++roots.map (Value.int .u32)).toArray
section
variable {db:Option Addr} {sup:Sup} {sl sn:Sl} {turn:Int} {over:Bool} {fb defb mb:Nat} {roots:List Int}
theorem qa2(h:sup.2.length=27):(Value.pointer db::supV sup.1 sup.2).length=29:=by rw[yH,qaG h]
theorem qng(h:sup.2.length=27):(pgCells db sup sl sn turn over fb defb mb roots).size=36+roots.length:=by rw[pgCells,size_toArray,zF,zF,qa2 h,zK];rfl
theorem qsX:(pgCells db sup sl sn turn over fb defb mb roots)[0]?=some (.pointer db):=rfl
theorem quw:(pgCells db sup sl sn turn over fb defb mb roots)[1]?=some (.int .u64 sup.1):=rfl
theorem qp8(y:sup.2.length=27)(n:Nat)(h:n<27:=by decide):(pgCells db sup sl sn turn over fb defb mb roots)[n+2]?=some (.u (sup.2.getD n 0)):=by
 rw[pgCells,List.getElem?_toArray,zV,yY (by rw[qa2 y];omega),List.getElem?_cons_succ]
 have:=qhg (q:=sup.1) (t:=sup.2) n
 rw[List.getElem?_toArray] at this;exact this
theorem qhU(u:sup.2.length=27)(j:Nat)(h:j<7:=by decide):(pgCells db sup sl sn turn over fb defb mb roots)[29+j]?=(pgRest sl sn turn over fb defb mb)[j]?:=by rw[pgCells,List.getElem?_toArray,zV,yX (by rw[qa2 u];omega),qa2 u,xY,yY (by exact h)]
theorem qlq(h:sup.2.length=27):(pgCells db sup sl sn turn over fb defb mb roots)[29]?=some sl.v:=qhU h 0
theorem qvP(h:sup.2.length=27):(pgCells db sup sl sn turn over fb defb mb roots)[30]?=some sn.v:=qhU h 1
theorem qnh(h:sup.2.length=27):(pgCells db sup sl sn turn over fb defb mb roots)[31]?=some (.i turn):=qhU h 2
theorem qc6(h:sup.2.length=27):(pgCells db sup sl sn turn over fb defb mb roots)[32]?=some (.bool over):=qhU h 3
theorem qe3(h:sup.2.length=27):(pgCells db sup sl sn turn over fb defb mb roots)[33]?=some (.pointer (pW fb)):=qhU h 4
theorem qmw(h:sup.2.length=27):(pgCells db sup sl sn turn over fb defb mb roots)[34]?=some (.pointer (pW defb)):=qhU h 5
theorem qbP(h:sup.2.length=27):(pgCells db sup sl sn turn over fb defb mb roots)[35]?=some (.map (some mb)):=qhU h 6
end
structure Rows (F:List Nat) (w:World) (sl sn:Sl) (lists named:List Int) (fs:List (Int×Leaf)):Prop where
 lists:Rd F w sl lists
 named:Rd F w sn named
 bodies:∀ e∈fs,RdB F w e.2.2.1 e.2.2.2
theorem Rows.frame{F F':List Nat}{w w':World}{sl sn:Sl}{lists named:List Int}{y:List (Int×Leaf)}(h:Rows F w sl sn lists named y)(f:Fr F w w')(u:∀b∈F',b∈F\/w.heap.size<=b):Rows F' w' sl sn lists named y:=
 ⟨h.lists.frame f u,h.named.frame f u,fun e z=>(h.bodies e z).frame f u⟩
structure PgX (w:World) (X:List Nat) (pb:Nat) (db:Option Addr) (M:PgM) (fb defb mb:Nat) (sl sn:Sl) (F1 F2:List Nat) (fs:List (Int×Leaf)):Prop where
 cell:w.heap[pb]?=some (.cells (pgCells db M.sup sl sn M.turn M.over fb defb mb M.roots) PGT (0,0))
 free:PoolAt w fb F1 M.free
 deferred:PoolAt w defb F2 M.deferred
 map:MapS u32V w mb (fs.map fun e=>(e.1,leafV e.2))
 fresh:M.fresh=fs.map fun e=>(e.1,e.2.1,e.2.2.2)
 rows:Rows (X++pb::mb::(F1++F2)) w sl sn M.lists M.named fs
 xlt:∀ b∈X,b<w.heap.size
 xsep:∀ b∈X,b∉pb::mb::(F1++F2)
 sep:pb≠mb/\(∀ b∈F1,b≠pb/\b≠mb/\b∉F2)/\(∀ b∈F2,b≠pb/\b≠mb)
 suplen:M.sup.2.length=27
 rootlen:M.roots.length=24
def PagerAt (w:World) (X:List Nat) (pb:Nat) (db:Option Addr) (F:List Nat) (M:PgM):Prop:=
 ∃fb defb mb sl sn h u y,F=pb::mb::(h++u)/\PgX w X pb db M fb defb mb sl sn h u y
theorem PgX.lt_mb{M:PgM}{u:List (Int×Leaf)}(h:PgX w X pb db M fb defb mb sl sn F1 F2 u):mb<w.heap.size:=by exact h.map.lt
theorem PgX.lt{w:World}{X:List Nat}{pb:Nat}{db:Option Addr}{M:PgM}{fb defb mb:Nat}{sl sn:Sl}{F1 F2:List Nat}{y:List (Int×Leaf)}(h:PgX w X pb db M fb defb mb sl sn F1 F2 y):∀b∈pb::mb::(F1++F2),b<w.heap.size:=by intro b u;rcases zG.1 u with rfl|u;exact qab h.cell;rcases zG.1 u with rfl|u;exact h.lt_mb;rcases zD.1 u with u|u;exact h.free.lt b u;exact h.deferred.lt b u
theorem PagerAt.lt{w:World}{X:List Nat}{pb:Nat}{db:Option Addr}{F:List Nat}{M:PgM}(h:PagerAt w X pb db F M):∀b∈F,b<w.heap.size:=by obtain⟨fb,defb,mb,sl,sn,y,z,A,rfl,u⟩:=h;exact u.lt
theorem PgX.frame{w w':World}{S X:List Nat}{pb:Nat}{db:Option Addr}{M:PgM}{fb defb mb:Nat}{sl sn:Sl}{F1 F2:List Nat}{z:List (Int×Leaf)}(h:PgX w X pb db M fb defb mb sl sn F1 F2 z)(f:Fr S w w')(y:∀b∈pb::mb::(F1++F2),b∉S)(A:Rows (X++pb::mb::(F1++F2)) w' sl sn M.lists M.named z):PgX w' X pb db M fb defb mb sl sn F1 F2 z where
 cell:=by rw[f.block pb (qab h.cell) (y pb (by simp))];exact h.cell
 free:=h.free.frame f fun b u=>y b (by simp[u])
 deferred:=h.deferred.frame f fun b u=>y b (by simp[u])
 map:=h.map.frame f (y mb (by simp))
 fresh:=h.fresh
 rows:=A
 xlt:=fun b u=>yC (h.xlt b u) f.size
 xsep:=h.xsep
 sep:=h.sep
 suplen:=h.suplen
 rootlen:=h.rootlen
theorem PgX.frame0{M:PgM}{y:List (Int×Leaf)}(h:PgX w X pb db M fb defb mb sl sn F1 F2 y)(f:Fr [] w w'):PgX w' X pb db M fb defb mb sl sn F1 F2 y:=
 h.frame f (by simp) (h.rows.frame (f.mono (fun b u=>by cases u)) (fun b u=>.inl u))
theorem PagerAt.frame0{w w':World}{X:List Nat}{pb:Nat}{db:Option Addr}{F:List Nat}{M:PgM}(h:PagerAt w X pb db F M)(f:Fr [] w w'):PagerAt w' X pb db F M:=by obtain⟨fb,defb,mb,sl,sn,u,y,z,rfl,A⟩:=h;exact⟨fb,defb,mb,sl,sn,u,y,z,rfl,A.frame0 f⟩
theorem qoO{u:List Nat}(n1:∀b∈u,b∈F1\/w.heap.size<=b):∀b∈pb::mb::(u++F2),b∈pb::mb::(F1++F2)\/w.heap.size<=b:=fun b h=>by simp only[zG,zD] at h⊢;rcases h with h|h|h|h;exact .inl (.inl h);exact .inl (.inr (.inl h));rcases n1 b h with y|y;exact .inl (.inr (.inr (.inl y)));exact .inr y;exact .inl (.inr (.inr (.inr h)))
theorem qsT{u:List Nat}(n1:∀b∈u,b∈F2\/w.heap.size<=b):∀b∈pb::mb::(F1++u),b∈pb::mb::(F1++F2)\/w.heap.size<=b:=fun b h=>by simp only[zG,zD] at h⊢;rcases h with h|h|h|h;exact .inl (.inl h);exact .inl (.inr (.inl h));exact .inl (.inr (.inr (.inl h)));rcases n1 b h with y|y;exact .inl (.inr (.inr (.inr y)));exact .inr y
theorem qna{F':List Nat}(n:∀b∈F',b∈F\/w.heap.size<=b):∀b∈X++F',b∈X++F\/w.heap.size<=b:=fun b u=>by rcases zD.1 u with h|h;exact .inl (zH _ h);rcases n b h with h|h;exact .inl (zI _ h);exact .inr h
theorem qv0{F':List Nat}(y:∀b∈X,b<w.heap.size)(z:∀b∈X,b∉F)(n:∀b∈F',b∈F\/w.heap.size<=b):∀b∈X,b∉F':=fun b u h=>by
 rcases n b h with h|h;exact z b u h
 have:=y b u;omega
theorem PgX.setFree{M:PgM}{y:List Nat}{C:List (Int×Leaf)}(h:PgX w X pb db M fb defb mb sl sn F1 F2 C)(f:Fr F1 w w')(G:PoolAt w' fb y l)(z:∀b∈y,b∈F1\/w.heap.size<=b): PgX w' X pb db { M with free:=l } fb defb mb sl sn y F2 C where
 cell:=by rw[f.block pb (qab h.cell) (fun u=>(h.sep.2.1 pb u).1 rfl)];exact h.cell
 free:=G
 deferred:=h.deferred.frame f fun b u A=>(h.sep.2.1 b A).2.2 u
 map:=h.map.frame f (fun u=>(h.sep.2.1 mb u).2.1 rfl)
 fresh:=h.fresh
 rows:=h.rows.frame (f.mono fun b u _=>by simp[u]) (qna (qoO z))
 xlt:=fun b u=>yC (h.xlt b u) f.size
 xsep:=qv0 h.xlt h.xsep (qoO z)
 sep:=⟨h.sep.1,fun b u=>by rcases z b u with E|E;exact h.sep.2.1 b E;have J:=qab h.cell;have K:=h.lt_mb;exact⟨by omega,by omega,fun I=>by have:=h.deferred.lt b I;omega⟩,h.sep.2.2⟩
 suplen:=h.suplen
 rootlen:=h.rootlen
theorem PgX.setDef{M:PgM}{y:List Nat}{E:List (Int×Leaf)}(h:PgX w X pb db M fb defb mb sl sn F1 F2 E)(f:Fr F2 w w')(G:PoolAt w' defb y l)(A:∀b∈y,b∈F2\/w.heap.size<=b): PgX w' X pb db { M with deferred:=l } fb defb mb sl sn F1 y E where
 cell:=by rw[f.block pb (qab h.cell) (fun u=>(h.sep.2.2 pb u).1 rfl)];exact h.cell
 free:=h.free.frame f fun b u C=>(h.sep.2.1 b u).2.2 C
 deferred:=G
 map:=h.map.frame f (fun u=>(h.sep.2.2 mb u).2 rfl)
 fresh:=h.fresh
 rows:=h.rows.frame (f.mono fun b u _=>by simp[u]) (qna (qsT A))
 xlt:=fun b u=>yC (h.xlt b u) f.size
 xsep:=qv0 h.xlt h.xsep (qsT A)
 sep:=⟨h.sep.1,fun b u=>⟨(h.sep.2.1 b u).1,(h.sep.2.1 b u).2.1,fun I=>by
  rcases A b I with z|z;exact (h.sep.2.1 b u).2.2 z
  have:=h.free.lt b u;omega⟩,fun b u=>by
  rcases A b u with z|z;exact h.sep.2.2 b z;have J:=qab h.cell;have K:=h.lt_mb;exact⟨by omega,by omega⟩⟩
 suplen:=h.suplen
 rootlen:=h.rootlen
theorem PgX.setMap{o:Obj}{M:PgM}{C y:List (Int×Leaf)}(h:PgX w X pb db M fb defb mb sl sn F1 F2 C)(G:MapS u32V (upd w mb o) mb (y.map fun e=>(e.1,leafV e.2)))(u:∀e∈y,e∈C\/RdB (X++pb::mb::(F1++F2)) w e.2.2.1 e.2.2.2): PgX (upd w mb o) X pb db { M with fresh:=y.map fun e=>(e.1,e.2.1,e.2.2.2) } fb defb mb sl sn F1 F2 y:=by
 have f:Fr [mb] w (upd w mb o):=qfF h.lt_mb o;have E:Fr (X++pb::mb::(F1++F2)) w (upd w mb o):=f.mono fun b u _=>by simp only[zE] at u;subst u;simp
 have z:=h.rows.frame E (F':=X++pb::mb::(F1++F2)) (fun b u=>.inl u);exact {
  cell:=by rw[f.block pb (qab h.cell) (by simpa using h.sep.1)];exact h.cell
  free:=h.free.frame f fun b u=>by simpa using (h.sep.2.1 b u).2.1
  deferred:=h.deferred.frame f fun b u=>by simpa using (h.sep.2.2 b u).2
  map:=G
  fresh:=rfl
  rows:=⟨z.lists,z.named,fun e I=>by rcases u e I with A|A;exact z.bodies e A;exact A.frame E (fun b u=>.inl u)⟩
  xlt:=fun b u=>yC (h.xlt b u) f.size
  xsep:=h.xsep
  sep:=h.sep
  suplen:=h.suplen
  rootlen:=h.rootlen }
theorem PagerAt.frameX{X':List Nat}{M:PgM}(h:PagerAt w X pb db F M)(f:Fr X w w')(y:∀b∈X',b<w'.heap.size)(A:∀b∈X',b∈X\/w.heap.size<=b):PagerAt w' X' pb db F M:=by
 obtain⟨fb,defb,mb,sl,sn,C,E,I,rfl,h⟩:=h;have J:∀b∈pb::mb::(C++E),b∉X:=fun b u y=>h.xsep b y u;have z:=h.frame (w':=w') f J (h.rows.frame (f.mono fun b u _=>zH _ u) (fun b u=>.inl u));refine⟨fb,defb,mb,sl,sn,C,E,I,rfl,{ z with rows:=h.rows.frame (f.mono fun b u _=>zH _ u) (fun b u=>?_),xlt:=y,xsep:=fun b u G=>?_ }⟩;rcases zD.1 u with u|u;rcases A b u with u|u;exact .inl (zH _ u);exact .inr u;exact .inl (zI _ u);rcases A b u with u|u;exact h.xsep b u G
 have:=h.lt b G;omega
theorem PagerAt.sep{M:PgM}(h:PagerAt w X pb db F M):∀b∈X,b∉F:=by obtain⟨fb,defb,mb,sl,sn,u,y,z,rfl,h⟩:=h;exact h.xsep
end
section
theorem qu5(h:Rd S w s l)(I:l.length<=1000000)(C:∀x:Int,(decide (x>=0)=decide (n∈l))->K x w): cW 201 [s.v,.u n] [.one .i] w K:=by refine qmI ?_;unfold qil;have E:=h.1;refine qah (fun x w'=>w'=w/\∃i:Nat,x=i/\i<=l.length/\n∉l.take i) (fun x _=>((l.length:Int)-x).toNat) ⟨rfl,0,rfl,by omega,by simp⟩ ?_;rintro x w' ⟨rfl,i,rfl,J,y⟩ X G;apply qaa<;>intro z;have A:i<l.length:=(by have:=zC z;omega);refine Rd.at h i rfl (zA A) ?_;apply qaa<;>intro z;have e:n=l[i]:=(by simpa using z);refine C _ ?_;rw[zZ (show (i:Int)>=0 by omega),zZ (by rw[e];exact zW A)];have e:n≠l[i]:=(by simpa using z);rw[wi' _ (by omega)];refine G _ _ ⟨rfl,i+1,by simp,by omega,?_⟩ (by omega);rw[yF A];simp only[zD,zE,not_or];exact⟨y,e⟩;have:i=l.length:=(by have:=zB z;omega);subst this;rw[xX] at y;refine C _ ?_;rw[zU (by decide),zU y]
theorem qqN{K:Bool->WP}(h:Rd S w s l)(y:l.length<=1000000)(z:K (decide (n∈l)) w): cW 155 [s.v,.u n] [.one .bool] w K:=by refine qjt ?_;unfold qfs;refine qu5 h y fun x A=>?_;rw[A];exact z
theorem qxC:∀w,(zeroValue 161).run prog w=.ok (.agg #[.b 0,.slice none 0 0]) w:=fun w=>by kernel_rfl
theorem qm8:prog.underlying MLT=some (.map 37 161):=by kernel_rfl
theorem qjT{y:List (Int×Leaf)}{K:((Int×Sl)×Bool)->Prop}(h:MapAt u32V w mb (y.map fun e=>(e.1,leafV e.2)))(A:∀q,look n y=some q->K ((q.2.1,q.2.2.1),true))(C:look n y=none->K ((0,⟨none,0,0⟩),false)): runQ [Ty1.agg [Cell.int .u8,Cell.slice],Ty1.one Cell.bool] (fun w'=>(Instr.lookup MLT (.map (some mb)) (.u n) true).run prog w') w K:=by
 have:=qqm (P:=prog) qm8 qxC qcs h n
 rw[qbZ,qcm] at this;cases z:look n y with
 | none=>
  rw[z] at this;exact qaQ (ts:=[Ty1.agg [Cell.int .u8,Cell.slice],Ty1.one Cell.bool]) ((0,⟨none,0,0⟩),false) this (C z)
 | some q=>
  rw[z] at this;exact qaQ (ts:=[Ty1.agg [Cell.int .u8,Cell.slice],Ty1.one Cell.bool]) ((q.2.1,q.2.2.1),true) this (A q z)
section
variable {w:World} {X:List Nat} {pb:Nat} {db:Option Addr} {F:List Nat} {M:PgM}
theorem qvd(h:PagerAt w X pb db F M)(y:K M.free.length w):cW 46 [.pointer (pW pb)] [.one .i] w K:=by obtain⟨fb,defb,mb,sl,sn,z,A,C,rfl,u⟩:=h;refine qiv ?_;unfold qeH;refine qae (qai u.cell (pW fb) (qe3 u.suplen) ?_);exact qrz u.free y
def usedV (M:PgM) (n:Int):Bool:=!(decide (n<2)||decide (n>=M.sup.2.getD 0 0)||decide (n∈M.lists)||decide (n∈M.free)||decide (n∈M.deferred))&&(look n M.fresh).isNone
theorem qo2{K:Bool->WP}(h:PagerAt w X pb db F M)(V:M.lists.length<=1000000)(J:∀w',Fr [] w w'->K (usedV M n) w'):cW 124 [.pointer (pW pb),.u n] [.one .bool] w K:=by
 obtain⟨fb,defb,mb,sl,sn,F1,F2,U,rfl,y⟩:=h;refine qiA ?_;unfold qeM;refine qaf (fun b w'=>b=(decide (n<2)||decide (n>=M.sup.2.getD 0 0)||decide (n∈M.lists)||decide (n∈M.free)||decide (n∈M.deferred))/\w'=w) ?_ ?_;refine qaa (fun z=>⟨by rw[z];rfl,rfl⟩) fun z=>qae ?_;simp only[Addr.add_mk];refine qai y.cell (M.sup.2.getD 0 0) (qp8 y.suplen 0)<|qaa (fun A=>⟨by rw[z,A];rfl,by trivial⟩) fun A=>qae (qai y.cell sl (qlq y.suplen) ?_);refine qqN y.rows.lists V<|qaa (fun C=>⟨by rw[z,A,C];rfl,by trivial⟩) fun C=>qae (qai y.cell (pW fb) (qe3 y.suplen) ?_);refine qoY y.free<|qaa (fun E=>⟨by rw[z,A,C,E];rfl,by trivial⟩) fun E=>qae<|qai y.cell (pW defb) (qmw y.suplen)<|qoY y.deferred ⟨by rw[z,A,C,E];rfl,by trivial⟩;rintro b w' ⟨rfl,rfl⟩;have I:(look n M.fresh).isNone=(look n U).isNone:=by rw[y.fresh,qcm (fun x:Leaf=>(x.1,x.2.2))];cases look n U<;>rfl
 apply qaa<;>intro z
 have:=J w' (.refl _ _)
 rw[usedV,z] at this;exact this;refine qae ?_;simp only[Addr.add_mk];refine qai y.cell (some mb) (qbP y.suplen)<|qjT y.map.at (fun q O=>?_) (fun O=>?_);refine oB (oE [] w') fun r w1 e1 f1 G=>oH G 0 rfl _ rfl rfl rfl fun R G _=>?_
 have:=J R G.fr
 rw[usedV,z,I,O] at this;exact this;refine oB (oE [] w') fun r w1 e1 f1 G=>oH G 0 rfl _ rfl rfl rfl fun R G _=>?_
 have:=J R G.fr
 rw[usedV,z,I,O] at this;exact this
def makeV (M:PgM) (kind:Int) (body:List Int):(Int×Int)×PgM:=
 if M.over then ((0,7),M) else if body.length>500 then ((0,3),M) else
 match M.free with
 | []=>((0,6),M)
 | n::r=>((n,0),{ M with free:=r,fresh:=setL n (kind,body) M.fresh })
theorem qvb{kind:Int}{K:Int×Int->WP}(h:PagerAt w X pb db F M)(hb:RdB (X++F) w s body)(hl:body.length<=100000)(hf:M.free.length<=1000000)(hk:∀F' w',PagerAt w' X pb db F' (makeV M kind body).2->Fr F w w'->(∀b∈F',b∈F\/w.heap.size<=b)->K (makeV M kind body).1 w'): cW 137 [.pointer (pW pb),.b kind,s.v] [.one .u,.one .i] w K:=by
 have h0:=h;obtain⟨fb,defb,mb,sl,sn,F1,F2,fs,rfl,hx⟩:=h;have hlen:=hb.1;refine qit (p:=pW pb) (body:=s) ?_;unfold qeF;have same:∀ {e:Int},makeV M kind body=((0,e),M)->K (0,e) w:=by
  intro e he
  have:=hk _ w (by rw[he];exact h0) (.refl _ _) (fun b hb=>.inl hb)
  rw[he] at this;exact this
 refine qae (qai (c:=.bool) hx.cell M.over (qc6 hx.suplen) ?_);refine qaa (fun hc=>same (by rw[makeV,if_pos hc])) (fun hc=>?_);have ho:¬M.over=true:=(by rw[hc];decide);apply qaa<;>intro hc
 have:=zC hc
 exact same (by rw[makeV,if_neg ho,iP]);have hb5:¬body.length>500:=(by have:=zB hc;omega);refine qae (qai (c:=.ptr) hx.cell (pW fb) (qe3 hx.suplen) ?_);refine qwt hx.free hf fun F1' w1 hp1 f1 n1=>?_;have hx1:=hx.setFree f1 hp1 n1;have fF:Fr (pb::mb::(F1++F2)) w w1:=f1.mono fun b hb _=>by simp[hb]
 have nF:=qoO (w:=w) (pb:=pb) (mb:=mb) (F2:=F2) n1;cases hfr:M.free with
 | nil=>
  have hmv:makeV M kind body=((0,6),M):=(by rw[makeV,if_neg ho,if_neg hb5,hfr]);rw[hfr] at hp1 hx1;refine cond_true rfl ?_;have hM:{ M with free:=(takeV []).2 }=M:=(by show { M with free:=[] }=M;rw[<- hfr]);rw[hM] at hx1
  have:=hk _ w1 (by rw[hmv];exact⟨fb,defb,mb,sl,sn,F1',F2,fs,rfl,hx1⟩) fF nF
  rw[hmv] at this;exact this
 | cons n r=>
  have hmv:makeV M kind body=((n,0),{ M with free:=r,fresh:=setL n (kind,body) M.fresh }):=(by rw[makeV,if_neg ho,if_neg hb5,hfr]);rw[hfr] at hp1 hx1;refine cond_false rfl<|qae ?_;simp only[Addr.add_mk];have c1:w1.heap[pb]?=_:=hx1.cell;refine qai (w:=w1.drew) (c:=.map) c1 (some mb) (qbP hx.suplen) ?_;have hb1:RdB (X++pb::mb::(F1'++F2)) w1.drew s body:=hb.frame (fF.drew.mono fun b hb _=>zI _ hb) (qna nF);refine qa3 hb1 (by omega) fun s2 B2 w2 b2 f2 n2 _ _=>?_;have f12:Fr [] w1 w2:=((Fr.refl [] w1).drew).trans f2;have hx2:=hx1.frame0 f12;refine qaj (by show _=_;rw[qag hx2.cell];exact qbP hx.suplen) ?_;obtain⟨o,hr,hm⟩:=qhX (v:=leafV (kind,s2,body)) qm8 hx2.map n;refine qjW _ hr ?_;have hm':MapS u32V (upd w2 mb o) mb ((setL n (kind,s2,body) fs).map fun e=>(e.1,leafV e.2)):=(by rw[qhY leafV];exact hm);have hx3:=hx2.setMap hm' fun e he=>by
   rcases qhI he with h1|h1;exact .inl h1;subst h1;refine .inr (b2.rds qat fun b hb hb2=>?_);have l2:w1.heap.size<=b:=n2 b hb;rcases zD.1 hb2 with hb2|hb2
   have:=hx1.xlt b hb2;omega
   have:=hx1.lt b hb2;omega
  have hM:(setL n (kind,s2,body) fs).map (fun e=>(e.1,e.2.1,e.2.2.2))=setL n (kind,body) M.fresh:=(by rw[hx.fresh];exact qhY (fun x:Leaf=>(x.1,x.2.2)) n (kind,s2,body) fs);rw[hM] at hx3;have f3:Fr (pb::mb::(F1++F2)) w (upd w2 mb o):=(fF.trans' f12 (by simp)).trans' (qfF hx2.lt_mb o) fun b hb=>by simp only[zE] at hb;subst hb;exact .inl (by simp)
  have:=hk _ (upd w2 mb o) (by rw[hmv];exact⟨fb,defb,mb,sl,sn,F1',F2,_,rfl,hx3⟩) f3 nF
  rw[hmv] at this;exact this
end
end
section
theorem PgX.fresh_look{M:PgM}{u:List (Int×Leaf)}(h:PgX w X pb db M fb defb mb sl sn F1 F2 u)(n:Int):look n M.fresh=(look n u).map fun q=>(q.1,q.2.1,q.2.2.2):=by rw[h.fresh,qcm (fun x:Leaf=>(x.1,x.2.2))]
section
variable {w:World} {X:List Nat} {pb:Nat} {db:Option Addr} {F:List Nat} {M:PgM}
def putV (M:PgM) (n kind:Int) (body:List Int):Int×PgM:=
 if M.over then (7,M) else match look n M.fresh with
 | none=>(10,M)
 | some _=>if body.length>500 then (3,M) else (0,{ M with fresh:=setL n (kind,body) M.fresh })
theorem qwo{kind:Int}(h:PagerAt w X pb db F M)(z:RdB (X++F) w s body)(hl:body.length<=100000)(hk:∀w',PagerAt w' X pb db F (putV M n kind body).2->Fr F w w'->K (putV M n kind body).1 w'): cW 136 [.pointer (pW pb),.u n,.b kind,s.v] [.one .i] w K:=by
 have h0:=h;obtain⟨fb,defb,mb,sl,sn,F1,F2,fs,rfl,A⟩:=h;have an:=z.1;refine qji ?_;unfold qfp;have C:∀ {e:Int} {w':World},putV M n kind body=(e,M)->Fr [] w w'->K e w':=by
  intro e w' he hf
  have:=hk w' (by rw[he];exact h0.frame0 hf) (hf.mono (fun b z=>by cases z))
  rw[he] at this;exact this
 have E:=A.fresh_look n;refine qae (qai A.cell M.over (qc6 A.suplen) ?_);refine qaa (fun O=>C (by rw[putV,if_pos O]) (.refl _ _)) (fun O=>?_);have ho:¬M.over=true:=(by rw[O];decide);refine qae ?_;simp only[Addr.add_mk];refine qai A.cell (some mb) (qbP A.suplen)<|qjT A.map.at (fun q hq=>?_) (fun hq=>?_);rw[hq] at E;refine oB (oE [] w) fun r w1 e1 f1 y=>oH y 0 rfl _ rfl rfl rfl fun I y _=>cond_false rfl ?_;apply qaa<;>intro O
 have:=zC O
 exact C (by rw[putV,if_neg ho,E];dsimp only [Option.map_some];rw[iP]) y.fr;have aj:¬body.length>500:=(by have:=zB O;omega);have U:putV M n kind body=(0,{ M with fresh:=setL n (kind,body) M.fresh }):=(by rw[putV,if_neg ho,E];dsimp only [Option.map_some];rw[if_neg aj]);have R:=A.frame0 y.drew.fr;refine qae<|qai (w:=I.drew) (c:=.map) R.cell (some mb) (qbP A.suplen)<|qa3 (z.frame0 y.drew.fr) (by omega) fun s2 B2 w3 b2 f2 n2 _ _=>?_;have V:Fr [] w w3:=y.drew.fr.trans f2;have J:=A.frame0 V;refine qaj (by show _=_;simp only[Addr.add_mk];rw[qag J.cell];exact qbP A.suplen) ?_;obtain⟨o,hr,hm⟩:=qhX (v:=leafV (kind,s2,body)) qm8 J.map n;refine qjW _ hr ?_;have ak:MapS u32V (upd w3 mb o) mb ((setL n (kind,s2,body) fs).map fun e=>(e.1,leafV e.2)):=(by rw[qhY leafV];exact hm);have aa:=J.setMap ak fun e he=>by rcases qhI he with h1|h1;exact .inl h1;subst h1;refine .inr (b2.rds qat fun b z G=>?_);have l2:I.drew.heap.size<=b:=n2 b z;rcases zD.1 G with G|G;have:b<I.heap.size:=R.xlt b G;have:I.drew.heap.size=I.heap.size:=rfl;omega;have:b<I.heap.size:=R.lt b G;have:I.drew.heap.size=I.heap.size:=rfl;omega
 have hM:(setL n (kind,s2,body) fs).map (fun e=>(e.1,e.2.1,e.2.2.2))=setL n (kind,body) M.fresh:=(by rw[A.fresh];exact qhY (fun x:Leaf=>(x.1,x.2.2)) n (kind,s2,body) fs);rw[hM] at aa;have f4:Fr (pb::mb::(F1++F2)) w (upd w3 mb o):=(V.mono (T:=pb::mb::(F1++F2)) (fun b z=>by cases z)).trans' (qfF J.lt_mb o) fun b z=>by simp only[zE] at z;subst z;exact .inl (by simp)
 have:=hk (upd w3 mb o) (by rw[U];exact⟨fb,defb,mb,sl,sn,F1,F2,_,rfl,aa⟩) f4
 rw[U] at this;exact this;rw[hq] at E;exact oB (oE [] w) fun r w1 e1 f1 y=>oH y 0 rfl _ rfl rfl rfl fun I y _=>cond_true rfl<|C (by rw[putV,if_neg ho,E];rfl) y.fr
def dropV (M:PgM) (n:Int):Int×PgM:=
 if M.over then (7,M) else match look n M.fresh with
 | some _=>(0,{ M with fresh:=delL n M.fresh,free:=ins n M.free })
 | none=>if usedV M n then (0,{ M with deferred:=ins n M.deferred }) else (10,M)
theorem qu9(h:PagerAt w X pb db F M)(hl:M.lists.length<=1000000)(hf:M.free.length<=1000000)(hd:M.deferred.length<=1000000)(hk:∀F' w',PagerAt w' X pb db F' (dropV M n).2->Fr F w w'->(∀b∈F',b∈F\/w.heap.size<=b)->K (dropV M n).1 w'): cW 110 [.pointer (pW pb),.u n] [.one .i] w K:=by
 have h0:=h;obtain⟨fb,defb,mb,sl,sn,F1,F2,fs,rfl,C⟩:=h;refine qis ?_;unfold qeE;have O:∀ {e:Int} {w':World},dropV M n=(e,M)->Fr [] w w'->K e w':=by
  intro e w' he hf
  have:=hk _ w' (by rw[he];exact h0.frame0 hf) (hf.mono (fun b z=>by cases z)) (fun b z=>.inl z)
  rw[he] at this;exact this
 have E:=C.fresh_look n;refine qae (qai C.cell M.over (qc6 C.suplen) ?_);refine qaa (fun R=>O (by rw[dropV,if_pos R]) (.refl _ _)) (fun R=>?_);have ho:¬M.over=true:=(by rw[R];decide);refine qae ?_;simp only[Addr.add_mk];refine qai C.cell (some mb) (qbP C.suplen)<|qjT C.map.at (fun q hq=>?_) (fun hq=>?_);rw[hq] at E;refine oB (oE [] w) fun r w1 e1 f1 y=>oH y 0 rfl _ rfl rfl rfl fun w2 y _=>cond_true rfl ?_;have G:dropV M n=(0,{ M with fresh:=delL n M.fresh,free:=ins n M.free }):=(by rw[dropV,if_neg ho,E];rfl);have I:=C.frame0 y.fr;refine qae<|qai I.cell (some mb) (qbP C.suplen) ?_;obtain⟨o,hr,hm⟩:=MapS.del (ty:=0) qm8 qcs I.map n;refine qqn (ts:=[]) () _ hr ?_;have ao:MapS u32V (upd w2 mb o) mb ((delL n fs).map fun e=>(e.1,leafV e.2)):=by
  rw[qpi leafV];rw[qbZ] at hm;unfold delL;cases hl:look n (fs.map fun e=>(e.1,leafV e.2)) with
  | none=>rw[hl] at hm;exact hm
  | some q=>rw[hl] at hm;exact hm
 have A:=I.setMap ao fun e he=>.inl (qpT he);have hM:(delL n fs).map (fun e=>(e.1,e.2.1,e.2.2.2))=delL n M.fresh:=by rw[C.fresh];exact qpi (fun x:Leaf=>(x.1,x.2.2)) n fs
 rw[hM] at A;have f3:Fr (pb::mb::(F1++F2)) w (upd w2 mb o):=(y.fr.mono (T:=pb::mb::(F1++F2)) (fun b z=>by cases z)).trans' (qfF I.lt_mb o) fun b z=>by simp only[zE] at z;subst z;exact .inl (by simp)
 refine qae (qai A.cell (pW fb) (qe3 C.suplen) ?_);refine qlL A.free hf fun aq w4 U f4 n4=>?_;have V:=A.setFree f4 U n4;have hs:w.heap.size<=(upd w2 mb o).heap.size:=by rw[qb1];exact y.fr.size
 have:=hk _ w4 (by rw[G];exact⟨fb,defb,mb,sl,sn,aq,F2,_,rfl,V⟩) (f3.trans' f4 fun b z=>.inl (by simp[z])) fun b z=>by rcases qoO n4 b z with h1|h1;exact .inl h1;exact .inr (zL hs h1)
 rw[G] at this;exact this;rw[hq] at E;refine oB (oE [] w) fun r w1 e1 f1 y=>oH y 0 rfl _ rfl rfl rfl fun w2 y _=>cond_false rfl<|qo2 (h0.frame0 y.fr) hl fun w3 f3=>?_;have J:=y.fr.trans f3;apply qaa<;>intro R;have hu:usedV M n=false:=(by simpa using R);exact O (by rw[dropV,if_neg ho,E];show (if usedV M n then _ else _)=_;rw[hu];rfl) J;have hu:usedV M n=true:=(by simpa using R);have G:dropV M n=(0,{ M with deferred:=ins n M.deferred }):=by rw[dropV,if_neg ho,E];show (if usedV M n then _ else _)=_;rw[hu];rfl
 have A:=C.frame0 J;refine qae (qai A.cell (pW defb) (qmw C.suplen) ?_);refine qlL A.deferred hd fun av w4 U f4 n4=>?_;have V:=A.setDef f4 U n4
 have:=hk _ w4 (by rw[G];exact⟨fb,defb,mb,sl,sn,F1,av,_,rfl,V⟩) ((J.mono (T:=pb::mb::(F1++F2)) (fun b z=>by cases z)).trans' f4 fun b z=>.inl (by simp[z])) fun b z=>by rcases qsT n4 b z with h1|h1;exact .inl h1;exact .inr (zL J.size h1)
 rw[G] at this;exact this
end
end
def keyI (e:MapEntry):Int:=match e.key with | .int _ n=>n|_=>0
theorem qvH{es:List MapEntry}(h:Ents u32V es f):es.map keyI=f.map (·.1)/\∀e∈es,e.key=u32V (keyI e):=by
 induction es generalizing f with
 | nil=>cases f with
  | nil=>exact⟨rfl,by simp⟩
  | cons p f=>simp[Ents] at h
 | cons e es ih=>cases f with
  | nil=>simp[Ents] at h
  | cons p f=>
   simp only[Ents,xK,List.cons.injEq,Prod.mk.injEq] at h;obtain⟨⟨y,I⟩,A⟩:=h;obtain⟨C,E⟩:=ih A;have z:keyI e=p.1:=(by unfold keyI;rw[y]);refine⟨by rw[xK,xK,z,C],fun G u=>?_⟩;rcases zG.1 u with rfl|u;rw[z];exact y;exact E G u
theorem qn7{β:Type}{g:β->Nat}:∀ {l:List β} {e:β},(l.map g).Pairwise (· < ·)->e∈l->l.Perm (e::l.filter fun x=>!(g x==g e))
 | x::l,e,u,z=>by
  rw[xK,yI] at u;rcases zG.1 z with rfl|z;have:(e::l).filter (fun x=>!(g x==g e))=l:=by
   rw[filter_cons_of_neg (by simp)];exact filter_eq_self.2 fun y A=>by
    have:=u.1 (g y) (zY A)
    have h:g y≠g e:=(by omega);simp[h]
  rw[this];have C:=u.1 (g e) (zY z);have h:g x≠g e:=(by omega);rw[filter_cons_of_pos (by simp[h])];exact ((qn7 u.2 z).cons x).trans (List.Perm.swap e x _)
def left (es:Array MapEntry) (seen:Array Nat):List MapEntry:=es.toList.filter fun e=>!seen.toList.contains e.born
theorem quh{es:Array MapEntry}{seen:Array Nat}{e:MapEntry}(hs:(es.toList.map (·.born)).Pairwise (· < ·))(he:e∈es.toList)(hn:e.born∉seen.toList):(left es seen).Perm (e::left es (seen.push e.born)):=by have h1:left es (seen.push e.born)=(left es seen).filter fun x=>!(x.born==e.born):=(by rw[left,left,filter_filter];congr 1;funext x;rw[Array.toList_push];by_cases h:x.born=e.born<;>simp[h]);rw[h1];refine qn7 (g:=fun x:MapEntry=>x.born) ?_ (mem_filter.2 ⟨he,by simpa using hn⟩);exact hs.sublist (filter_sublist.map _)
def seenAt (w:World) (u:Nat):Nat:=match w.heap[u]? with|some (.mapIter _ _ h _)=>h.size|_=>0
theorem qoi{y:Nat}{a:Option Nat}{b c:Nat}{u:Array Nat}(h:w.heap[y]?=some (.mapIter a b u c)):seenAt w y=u.size:=by unfold seenAt;rw[h]
theorem qou{rk:Nat}{K:Sl->WP}(hm:MapS u32V w mb f)(hrk:w.heap[rk]?=some (.cells #[.map (some mb)] T (0,0)))(hf:f.length<=100000)(hk:∀s' B l' w',BufU w' s' l' B->l'.Perm (f.map (·.1))->Fr [] w w'->(∀b∈B,w.heap.size<=b)->K s' w'): cW 154 [.slice none 0 0,.func (.func 122) #[] #[.pointer (pW rk)]] [.one .slice] w K:=by
 refine qiB (s:=⟨none,0,0⟩) ?_;unfold qeN;obtain⟨es,c,hb,he,hs,hc⟩:=hm;obtain⟨hkm,hkey⟩:=qvH he;have hesl:es.toList.length=f.length:=(by have:=congrArg List.length hkm;simpa using this);have hbW:∀ {w':World},Fr [] w w'->w'.heap[mb]?=some (.map es c):=fun f=>by rw[f.block mb (qab hb) (by simp)];exact hb
 have hrW:∀ {w':World},Fr [] w w'->w'.heap[rk]?=some (.cells #[.map (some mb)] T (0,0)):=fun f=>by rw[f.block rk (qab hrk) (by simp)];exact hrk
 refine oB (oE [] w) fun r1 w1 e1 f1 ho=>Own.rng (lb:=[.pointer (pW rk)]) ho rfl (by kernel_rfl) fun Dm l R Bz J E E0 w6 el eD f56 ho6 hy=>qmi ?_;unfold qic;refine qai (c:=.map) (hrW ho6.fr) (some mb) rfl<|qqn (ts:=[.one .any]) _ _ (quN qm8 (hbW ho6.fr)) ?_;have ho7:=ho6.alloc (.mapIter (some mb) c #[] c);generalize hit:w6.heap.size=it at ho7;refine qah (fun _ w'=>∃(seen:Array Nat) (so:Sl) (xs:List Int) (Bo:List Nat),
   Own [] w w' [(it,.mapIter (some mb) c seen c),(l,R),(Dm,.deferred (some [])),(r1,.cells #[so.v] 92 (0,0))]/\(xs++(left es seen).map keyI).Perm (f.map (·.1))/\xs.length=seen.size/\BufU w' so xs Bo/\
   ∀b∈Bo,w.heap.size<=b/\b∉[it,l,Dm,r1]) (fun _ w'=>f.length-seenAt w' it)
  ⟨#[],⟨none,0,0⟩,[],[],ho7,?_,rfl,.nil _ _ _,by simp⟩ ?_
 have:left es #[]=es.toList:=(by unfold left;exact filter_eq_self.2 (by simp));rw[this,hkm];exact .refl _;rintro _ w8 ⟨seen,so,xs,Bo,ho8,hperm,hxl,hbu,hBo⟩ X hX;have hxs:xs.length+(left es seen).length=f.length:=(by have:=hperm.length_eq;simpa using this);refine qxF (hbW ho8.fr) (ho8.at (i:=0) rfl) hc (fun hall=>?_) (fun e hem hne w9 hsame=>?_);have hl0:left es seen=[]:=filter_eq_nil_iff.2 fun e he=>by simpa using hall e he
 rw[hl0,map_nil,xF] at hperm;refine .inl ⟨ho8.at (i:=1) rfl,?_⟩;have ho9:=ho8.upd (o':=E0) 1 rfl;have hbu9:=hbu.frame (qbu (qab (ho8.at (i:=1) rfl)) E0) (fun b hb hm=>by simp only[zE] at hm;subst hm;exact (hBo _ hb).2 (by simp));exact oA (c:=.slice) ho9 3 rfl so rfl<|Own.undefer ho9.rebase 2 rfl fun w10 hd=>hk so Bo xs w10 (hbu9.frame hd.fr (fun b hb=>(hBo b hb).2)) hperm (ho9.back hd.fr) (fun b hb=>(hBo b hb).1);have ho9:=(ho8.frame0 (.of_same hsame)).upd (o':=.mapIter (some mb) c (seen.push e.born) c) 0 rfl;have hbu9:BufU (Pt.upd w9 it (.mapIter (some mb) c (seen.push e.born) c)) so xs Bo:=(hbu.frame0 (.of_same hsame)).frame (qbu (qab ((ho8.frame0 (.of_same hsame)).at (i:=0) rfl)) _) (fun b hb hm=>by simp only[zE] at hm;subst hm;exact (hBo _ hb).2 (by simp));generalize hw10:Pt.upd w9 it (.mapIter (some mb) c (seen.push e.born) c)=w10 at ho9 hbu9;refine qxt (hbW ho9.fr) (ho9.at (i:=0) rfl) hem hs ?_;rw[hkey e hem];refine hy (keyI e) w10 _ (ho9.at (i:=1) rfl) ?_;dsimp only;refine⟨ho9.at (i:=1) rfl,?_⟩;have hoA:=ho9.upd (o':=Bz) 1 rfl;have hbuA:=hbu9.frame (qbu (qab (ho9.at (i:=1) rfl)) Bz) (fun b hb hm=>by simp only[zE] at hm;subst hm;exact (hBo _ hb).2 (by simp));refine oA (c:=.slice) hoA 3 rfl so rfl<|qs0 hbuA (by omega) fun s11 B11 w11 b11 f11 n11=>?_;have hLlt:∀p∈[it,l,Dm,r1],p<(Pt.upd w10 l Bz).heap.size:=fun p hp=>by have hlt:=fun (k:Nat) (q:Nat×Obj) (hq:_[k]?=some q)=>qab (hoA.at (i:=k) hq);simp only[zG,xV,or_false] at hp;rcases hp with rfl|rfl|rfl|rfl;exact hlt 0 _ rfl;exact hlt 1 _ rfl;exact hlt 2 _ rfl;exact hlt 3 _ rfl
 have hB11:∀b∈B11,w.heap.size<=b/\b∉[it,l,Dm,r1]:=fun b hb=>by rcases n11 b hb with h|h;exact hBo b h;refine⟨zL hoA.fr.size h,fun hm=>?_⟩;exact Nat.lt_irrefl _ (yC (hLlt b hm) h)
 have hoB:=hoA.frame f11 (fun b hb=>.inr (hBo b hb).1) (fun p hp hb=>(hBo _ hb).2 (zY (f:=(·.1)) hp));refine oD hoB 3 rfl _ fun w12 hoC f12=>⟨hoC.at (i:=1) rfl,?_⟩;have hoD:=hoC.upd (o':=R) 1 rfl;have b12:=(b11.frame f12 (fun b hb hm=>by simp only[zE] at hm;subst hm;exact (hB11 _ hb).2 (by simp))).frame (qbu (qab (hoC.at (i:=1) rfl)) R) (fun b hb hm=>by simp only[zE] at hm;subst hm;exact (hB11 _ hb).2 (by simp));refine cond_false rfl ?_;have hpk:=quh hs hem hne;refine hX _ _ ⟨seen.push e.born,s11,xs++[keyI e],B11,hoD,?_,by simp[hxl],b12,hB11⟩ ?_;refine List.Perm.trans ?_ hperm;rw[zV];exact (hpk.symm.map keyI).append_left xs;have h1:=qoi (ho8.at (i:=0) rfl);have h2:seenAt (Pt.upd w12 l R) it=(seen.push e.born).size:=qoi (hoD.at (i:=0) rfl);have h3:=hpk.length_eq;rw[yH] at h3;show f.length-seenAt (Pt.upd w12 l R) it<f.length-seenAt w8 it;rw[h1,h2,Array.size_push];omega
abbrev Blk:={l:List Int // l.length=512}
def encK (b:Blk):List Value:=b.1.map (Value.int .u8)
theorem qaO(b:Blk):(encK b).length=512:=by rw[encK,zK,b.2]
def encW (x:Int×Blk):List Value:=Value.int .i64 x.1::encK x.2
theorem qbb(x:Int×Blk):(encW x).length=513:=by rw[encW,yH,qaO]
def Blk.zero:Blk:=⟨zs 512,qaI 512⟩
structure DiskM where
 safe:List Blk
 waits:List (Int×Blk)
 fuse:Int
 down:Bool
 writes:Int
variable {D:DiskM}
structure DiskM.Ok (D:DiskM):Prop where
 at_:∀ x∈D.waits,0<=x.1/\x.1<D.safe.length
 fuse:-1<=D.fuse/\D.fuse<=1000000000
 safe:D.safe.length<=4096
 waits:D.waits.length<=1000000
 writes:0<=D.writes/\D.writes<=1000000000
 bytesS:∀ b∈D.safe,IsB b.1
 bytesW:∀ x∈D.waits,IsB x.2.1
abbrev DT:TypeId:=175
def dCells (D:DiskM) (sb:Nat) (h:Sl):Array Value:=#[.slice (pW sb) D.safe.length D.safe.length,h.v,.i D.fuse,.bool D.down,.i D.writes]
def DiskAt (w:World) (db:Nat) (F:List Nat) (D:DiskM):Prop:=
 ∃(sb:Nat) (T:TypeId) (h:Sl) (B:List Nat),F=db::sb::B/\(db::sb::B).Nodup/\w.heap[db]?=some (.cells (dCells D sb h) DT (0,0))/\w.heap[sb]?=some (.cells (D.safe.flatMap encK).toArray T (0,0))/\Buf encW 513 w h D.waits B
theorem DiskAt.frame{w w':World}{db:Nat}{F S:List Nat}{D:DiskM}(h:DiskAt w db F D)(f:Fr S w w')(u:∀b∈F,b∉S):DiskAt w' db F D:=by obtain⟨sb,T,y,B,rfl,C,z,A,E⟩:=h;exact⟨sb,T,y,B,rfl,C,by rw[f.block db (qab z) (u _ (by simp))];exact z,by rw[f.block sb (qab A) (u _ (by simp))];exact A,E.frame f (fun b G=>u b (by simp[G]))⟩
theorem DiskAt.frame0{db:Nat}(h:DiskAt w db F D)(f:Fr [] w w'):DiskAt w' db F D:=h.frame f (fun _ _ h=>by cases h)
theorem DiskAt.lt{w:World}{db:Nat}{F:List Nat}{D:DiskM}(h:DiskAt w db F D):∀b∈F,b<w.heap.size:=by obtain⟨sb,T,y,B,rfl,E,z,A,C⟩:=h;intro b u;simp only[zG] at u;rcases u with rfl|rfl|u;exact qab z;exact qab A;exact C.lt b u
theorem DiskAt.cell{db:Nat}(h:DiskAt w db F D):∃sb u,w.heap[db]?=some (.cells (dCells D sb u) DT (0,0)):=by obtain⟨sb,T,u,B,rfl,z,y,A,C⟩:=h;exact⟨sb,u,y⟩
theorem DiskAt.mem{db:Nat}(h:DiskAt w db F D):db∈F:=by obtain⟨sb,T,u,B,rfl,_⟩:=h;simp
def dCellsC (D:DiskM) (sb c:Nat) (h:Sl):Array Value:=#[.slice (pW sb) D.safe.length c,h.v,.i D.fuse,.bool D.down,.i D.writes]
def DiskZ (w:World) (db:Nat) (F:List Nat) (D:DiskM) (c:Nat) (Z:List Value):Prop:=
 ∃(sb:Nat) (T:TypeId) (h:Sl) (B:List Nat),F=db::sb::B/\(db::sb::B).Nodup/\w.heap[db]?=some (.cells (dCellsC D sb c h) DT (0,0))/\w.heap[sb]?=some (.cells (D.safe.flatMap encK++Z).toArray T (0,0))/\Buf encW 513 w h D.waits B
theorem DiskAt.z{db:Nat}(h:DiskAt w db F D):DiskZ w db F D D.safe.length []:=by obtain⟨sb,T,u,B,rfl,y,A,C,E⟩:=h;exact⟨sb,T,u,B,rfl,y,A,by rw[xF];exact C,E⟩
theorem DiskZ.at{w:World}{db:Nat}{F:List Nat}{D:DiskM}(h:DiskZ w db F D D.safe.length []):DiskAt w db F D:=by obtain⟨sb,T,u,B,rfl,z,A,y,C⟩:=h;exact⟨sb,T,u,B,rfl,z,A,by rw[xF] at y;exact y,C⟩
theorem DiskAt.turn{db:Nat}{D':DiskM}{sb:Nat}{y:Sl}(h:DiskAt w db F D)(O:w.heap[db]?=some (.cells (dCells D sb y) DT (0,0)))(f:Fr [db] w w')(R:D'.safe=D.safe)(U:D'.waits=D.waits)(E:w'.heap[db]?=some (.cells (dCells D' sb y) DT (0,0))):DiskAt w' db F D':=by
 obtain⟨z,T,u,B,rfl,A,V,J,h3⟩:=h;have C:z=sb/\u=y:=by have q:=V.symm.trans O;have q0:=congrArg (fun o=>match o with|some (Obj.cells G _ _)=>(match G[0]? with|some (Value.slice (some a) _ _)=>a.block|_=>0)|_=>0) q;have q1:=congrArg (fun o=>match o with|some (Obj.cells G _ _)=>G[1]? | _=>none) q;refine⟨q0,?_⟩;have K:Value.slice u.a u.len u.cap=Value.slice y.a y.len y.cap:=yN q1;cases y;cases u;simp only[Value.slice.injEq] at K;obtain⟨rfl,rfl,rfl⟩:=K;rfl
 obtain⟨rfl,rfl⟩:=C;have I:z≠db:=fun e=>by rw[e] at A;simp at A
 have hB:∀b∈B,b∉[db]:=fun b hb C=>by simp at C;subst C;simp at A;exact A.1.2 hb
 exact⟨z,T,u,B,rfl,A,E,by rw[R,f.block z (qab J) (by simpa using I)];exact J,by rw[U];exact h3.frame f hB⟩
theorem qiF{db:Nat}(h:DiskAt w db F D)(u:K D.safe.length w):cW 97 [.pointer (pW db)] [.one .i] w K:=by refine qip ?_;unfold qeC;obtain⟨sb,y,z⟩:=h.cell;refine qae (qai z ⟨pW sb,D.safe.length,D.safe.length⟩ rfl ?_);exact u
def newM (h:Nat):DiskM:=⟨List.replicate h .zero,[],-1,false,0⟩
theorem qwZ{n:Nat}(h:n<=4096):(newM n).Ok:=
 ⟨fun _ h=>(by cases h),⟨by show (-1:Int)<=-1;decide,by show (-1:Int)<=1000000000;decide⟩,by rw[newM];simpa using h,by simp[newM],by simp[newM],fun b u=>by rw[eq_of_mem_replicate u];exact IsB.zs 512,fun _ h=>(by cases h)⟩
theorem qq2(n:Nat)(b:Blk):(List.replicate n (encK b)).flatten=(List.replicate n b).flatMap encK:=by rw[flatMap_def,map_replicate]
set_option maxRecDepth 100000 in
theorem qwh{h:Int}{K:Option Addr×Int->WP}(z:(h<8\/h>4096)->K (none,1) w)(E:8<=h->h<=4096->∀db F w',DiskAt w' db F (newM h.toNat)->Fr [] w w'->(∀b∈F,w.heap.size<=b)->K (pW db,0) w'): cW 57 [.i h] [.one .ptr,.one .i] w K:=by
 refine qqX ?_;unfold qnJ;refine qaf (fun b w'=>b=decide (h<8\/h>4096)/\w'=w) ?_ ?_;apply qaa<;>intro y;exact⟨by rw[zZ (Or.inl (zC y))],rfl⟩
 have:=zB y
 exact⟨by simp[this],rfl⟩;rintro b G ⟨rfl,rfl⟩;refine qaa (fun y=>z (zC y)) (fun y=>?_);have R:=zB y;have I:8<=h:=(by omega);have J:h<=4096:=(by omega);obtain⟨n,rfl⟩:∃n:Nat,h=n:=⟨h.toNat,by omega⟩;refine Own.mkN (zero:=encK Blk.zero) (oE [] G) (qaO _) (by omega) (by omega) (by omega) (by omega) fun sb U V u=>Own.new u fun db O e3 s3 u=>?_;have A:(List.replicate (n:Int).toNat (encK Blk.zero)).flatten=((newM n).safe).flatMap encK:=(by rw[zJ];exact qq2 n _);refine E I J db [db,sb] O ⟨sb,177,⟨none,0,0⟩,[],rfl,?_,?_,?_,.nil _ _ _⟩ u.fr (fun b C=>?_)
 have:=u.nodup;simpa using this
 have:=u.at (i:=0) rfl
 rw[this];simp[dCells,newM]
 have:=u.at (i:=1) rfl
 rw[this,zJ,<- A,zJ];simp at C
 have:=u.own
 rcases C with rfl|rfl
 have:=u.own (b,_) (yE (i:=0) rfl)
 simpa using this
 have:=u.own (b,_) (yE (i:=1) rfl)
 simpa using this
def actM (D:DiskM):DiskM×Bool:=if D.fuse=0 then ({ D with down:=true },true) else if D.fuse>0 then ({ D with fuse:=D.fuse-1 },false) else (D,false)
theorem qtD{db:Nat}{K:Bool->WP}(h:DiskAt w db F D)(U:D.fuse<=1000000000)(J:∀w',DiskAt w' db F (actM D).1->Fr [db] w w'->K (actM D).2 w'): cW 131 [.pointer (pW db)] [.one .bool] w K:=by
 refine qk9 ?_;unfold qgO;obtain⟨sb,C,E⟩:=h.cell;have u:Own [db] w w [(db,.cells (dCells D sb C) DT (0,0))]:=⟨by simpa using E,by simp,.refl _ _,by simp⟩;refine qae (oA u 0 rfl D.fuse rfl ?_);apply qaa<;>intro G;have y:D.fuse=0:=(by simpa using G);refine qae<|oH u 0 rfl _ rfl rfl rfl fun A u _=>?_
 have:=J A (by rw[actM,if_pos y];exact h.turn E u.fr rfl rfl (u.at (i:=0) rfl)) u.fr
 rw[actM,if_pos y] at this;exact this;have y:¬D.fuse=0:=(by simpa using G);refine qaf (fun _ w'=>DiskAt w' db F (actM D).1/\Fr [db] w w') ?_ ?_;refine qae (oA u 0 rfl D.fuse rfl ?_);apply qaa<;>intro I;have z:D.fuse>0:=zC I;refine qae (oA u 0 rfl D.fuse rfl ?_);refine qae ?_;rw[wi' _ (by omega)];refine oH u 0 rfl _ rfl rfl rfl fun A u _=>⟨?_,u.fr⟩;rw[actM,if_neg y,if_pos z];exact h.turn E u.fr rfl rfl (u.at (i:=0) rfl);have z:¬D.fuse>0:=zB I;refine⟨?_,.refl _ _⟩;rw[actM,if_neg y,if_neg z];exact h;rintro _ A ⟨O,R⟩
 have:=J A O R
 have e:(actM D).2=false:=(by rw[actM,if_neg y];split<;>rfl);rw[e] at this;exact this
theorem qwb:∃i,prog.info? 179=some i/\(∃z,i.zero=some z/\z.cells.size=513)/\i.size=513/\i.bytes=520:=by have h:(prog.info? 179).map (fun i=>(i.zero.map (fun z=>z.cells.size),i.size,i.bytes))=some (some 513,513,520):=(by kernel_rfl);obtain⟨i,A,u⟩:=yS.1 h;simp only[Prod.mk.injEq] at u;obtain⟨z,C,y⟩:=yS.1 u.1;exact⟨i,A,⟨z,C,y⟩,u.2.1,u.2.2⟩
def addW (D:DiskM) (n:Int) (b:Blk):DiskM:={ D with waits:=D.waits++[(n,b)],writes:=D.writes+1 }
def writeM (D:DiskM) (n:Int) (l:List Int):DiskM×Int:=
 if D.down then (D,7) else if n<0\/n>=D.safe.length then (D,4) else
 if h:l.length=512 then ((actM (addW D n ⟨l,h⟩)).1,if (actM (addW D n ⟨l,h⟩)).2 then 7 else 0) else (D,1)
theorem qqR(n:Int)(b:Blk)(w:World):(Instr.build 179 #[(0,.i n),(1,.agg (encK b).toArray)]).run prog w=.ok (.agg (encW (n,b)).toArray) w:=by
 obtain⟨z,hz,hzs⟩:∃z,(prog.info? 179).bind (·.zero)=some z/\z.cells.size=513:=by obtain⟨i,hi,⟨z,hz,hzs⟩,_⟩:=qwb;exact⟨z,by rw[hi];exact hz,hzs⟩
 have:=qtd (P:=prog) (a:=.i n) (b:=.agg (encK b).toArray) (o1:=1) (s0:=1) (s1:=512) hz (by kernel_rfl) (fun w=>by kernel_rfl) rfl (by show (encK b).toArray.size=512;rw[size_toArray,qaO]) rfl hzs w
 exact this
theorem qj1(l:List Int):((l.map (Value.int .u8)).all Value.oneCell')=true:=by rw[all_eq_true];intro v h;obtain⟨x,_,rfl⟩:=mem_map.1 h;rfl
theorem qpk(b:Blk):((encK b).all Value.oneCell')=true:=qj1 _
theorem qhA(x:Int×Blk):((encW x).all Value.oneCell')=true:=by rw[encW,all_cons,qpk];rfl
theorem quE(h:RdB S w s l)(z:l≠[]):∃b o u T y,s.a=some ⟨b,o,none⟩/\w.heap[b]?=some (.cells u T y)/\b∉S/\(u.toList.drop o).take l.length=l.map (Value.int .u8):=by
 rcases h.2.2 with A|⟨b,o,u,T,y,C,E,G,I⟩;exact absurd A z;refine⟨b,o,u,T,y,C,E,G,?_⟩;apply ext_getElem?;intro i;rw[xA,zQ];by_cases hi:i<l.length;rw[if_pos hi,yZ,zA hi]
 have:=I i l[i] (zA hi)
 rw[xQ] at this
 have:=congrArg (·[0]?) this
 simpa using this;rw[if_neg hi,yR (by omega)];rfl
theorem qnv{db:Nat}(h:DiskAt w db F D)(hD:D.Ok)(hs:RdB S w s l)(hk:∀F' w',DiskAt w' db F' (writeM D n l).1->Fr F w w'->(∀b∈F',b∈F\/w.heap.size<=b)->K (writeM D n l).2 w'): cW 99 [.pointer (pW db),.i n,s.v] [.one .i] w K:=by
 refine qiQ (d:=pW db) (b:=s) ?_;unfold qfg;have hlen:=hs.1;have hdb:=h.mem;obtain⟨sb,T,wsl,B,hF,hn,hc,hsb,hbuf⟩:=h;have h:DiskAt w db F D:=⟨sb,T,wsl,B,hF,hn,hc,hsb,hbuf⟩;have ho:Own F w w [(db,.cells (dCells D sb wsl) DT (0,0))]:=⟨by simpa using hc,by simp,.refl _ _,by simp[hdb]⟩;refine qae (oA (c:=.bool) ho 0 rfl D.down rfl ?_);have same:∀ {e:Int},writeM D n l=(D,e)->∀ {w'},w'=w->K e w':=by
  rintro e he w' rfl
  have:=hk F w' (by rw[he];exact h) (.refl _ _) (fun b hb=>.inl hb)
  rw[he] at this;exact this
 refine qaa (fun hd=>same (by rw[writeM,if_pos hd]) rfl) fun hd=>qaf (fun b w'=>b=decide (n<0\/n>=D.safe.length)/\w'=w) ?_ ?_;apply qaa<;>intro hc;exact⟨by rw[zZ (Or.inl (zC hc))],rfl⟩;refine qae (oA (c:=.slice) ho 0 rfl ⟨pW sb,D.safe.length,D.safe.length⟩ rfl ⟨?_,rfl⟩)
 have:=zB hc
 by_cases h2:n>=D.safe.length<;>simp[this,h2];rintro b w1 ⟨rfl,rfl⟩;refine qaa (fun hr=>same (by rw[writeM,if_neg (by simpa using hd),if_pos (zC hr)]) rfl) (fun hr=>?_);have hr':=zB hr;refine qaa (fun hq=>same ?_ rfl) (fun hq=>?_);have:¬l.length=512:=(by simp at hq;omega);rw[writeM,if_neg (by simpa using hd),if_neg hr',dif_neg this];have h512:l.length=512:=(by simp at hq;omega);obtain⟨blk,hblk⟩:∃blk:Blk,blk.1=l:=⟨⟨l,h512⟩,rfl⟩;have hw:writeM D n l=((actM (addW D n blk)).1,if (actM (addW D n blk)).2 then 7 else 0):=by rw[writeM,if_neg (by simpa using hd),if_neg hr',dif_pos h512];have:blk=⟨l,h512⟩:=Subtype.ext hblk;rw[this]
 rw[hw] at hk;have hd1:=ho.drew;refine qae (oA (c:=.slice) hd1 0 rfl wsl rfl ?_);obtain⟨sbk,so,scs,sT,sfr,hsa,hsbk,hsS,hscs⟩:=quE hs (by rw[<- length_pos_iff];omega);obtain⟨sa,slen,scap⟩:=s;simp only at hsa hlen;subst hsa;refine qxH (by omega)<|qa0 (n:=512) (w:=w1.drew) hsbk (encK blk) (qaO _) (by rw[<- h512,hscs,encK,hblk])<|qaQ (ts:=[.raw]) (encW (n,blk)) (qqR n blk _)<|qaN (qbb _)<|oB hd1 fun r w2 er fr2 ho2=>qaj (ho2.cell (off:=1) 1 rfl rfl) ?_;obtain⟨iW,hi,⟨z,hz,hzs⟩,hsz,hby⟩:=qwb;have hwl:=hD.waits;have hwr:=hD.writes;have hfz:=hD.fuse;have fr2':Fr [] w1 w2:=(Fr.refl [] w1).drew.trans fr2;have hbuf2:Buf encW 513 w2 wsl D.waits B:=hbuf.frame0 fr2';have hsb2:w2.heap[sb]?=some (.cells (D.safe.flatMap encK).toArray T (0,0)):=(by rw[fr2'.block sb (qab hsb) (by simp)];exact hsb);have hBF:∀b∈B,b∈F:=fun b hb=>by rw[hF];simp[hb]
 have hdbB:∀b∈B,b≠db:=fun b hb e=>by subst e;simp at hn;exact hn.1.2 hb
 have hsbB:∀b∈B,b≠sb:=fun b hb e=>by subst e;simp at hn;exact hn.2.1 hb
 have hrB:∀b∈B,b≠r:=fun b hb e=>by have:=hbuf.lt b hb;have e1:w1.drew.heap.size=w1.heap.size:=rfl;omega
 refine Buf.appSrc (ys:=[(n,blk)]) (e:=179) hbuf2 qbb (by kernel_rfl) hi hz hsz hzs (.ofSlice _ (e':=179) (by kernel_rfl) _ 1 1 _ ?_ ?_ ?_) rfl (by rw[hby];omega) (by omega) fun s' B' w3 g1 g2 g3 _=>?_;simp[qbb];intro j u hj;rw[Addr.add_mk,qag (ho2.at (i:=0) rfl),xO];have:(encW (n,blk))[j]?=some u:=(by simpa using hj);simpa using this;intro u hu;have:u∈encW (n,blk):=(by simpa using hu);exact all_eq_true.1 (qhA (n,blk)) u this;have ho3:Own F w1 w3 [(r,.cells (encW (n,blk)).toArray 179 (0,0)),(db,.cells (dCells D sb wsl) DT (0,0))]:=
  ho2.frame g2 (fun b hb=>.inl (hBF b hb)) (fun p hp=>by simp at hp;rcases hp with rfl|rfl;exact fun hb=>hrB _ hb rfl;exact fun hb=>hdbB _ hb rfl)
 have hsb3:w3.heap[sb]?=some (.cells (D.safe.flatMap encK).toArray T (0,0)):=(by rw[g2.block sb (qab hsb2) (fun hb=>hsbB _ hb rfl)];exact hsb2);have hc3:=ho3.at (i:=1) rfl;refine qae<|qd2 hc3 (dCells { D with waits:=D.waits++[(n,blk)] } sb s') rfl rfl (zO rfl) fun w4 hc4 f4=>qae (qai (c:=.i) hc4 D.writes rfl ?_);refine qae ?_;rw[wi' (D.writes+1) (by omega)];refine qd2 hc4 (dCells (addW D n blk) sb s') rfl rfl (zO rfl) fun w5 hc5 f5=>?_;have hs2:=fr2'.size;have hs3:=g2.size;have hne:sb≠db:=fun e=>by rw[e] at hn;simp at hn
 have f35:Fr [db] w3 w5:=f4.trans f5;have hB'db:∀b∈B',b≠db:=fun b hb e=>by
  rcases g3 b hb with h'|h';exact hdbB b h' e
  have:=qab hc;omega
 have hB'sb:∀b∈B',b≠sb:=fun b hb e=>by
  rcases g3 b hb with h'|h';exact hsbB b h' e
  have:=qab hsb;omega
 have hB'n:B'.Nodup:=by rcases g1 with ⟨_,_,rfl⟩|⟨b',o',cs',T',rfl,_⟩;simp;simp
 have h5:DiskAt w5 db (db::sb::B') (addW D n blk):=(by refine⟨sb,T,s',B',rfl,?_,hc5,?_,?_⟩;simp only[nodup_cons,zG,not_or];exact⟨⟨fun e=>hne e.symm,fun hb=>hB'db _ hb rfl⟩,fun hb=>hB'sb _ hb rfl,hB'n⟩;rw[f35.block sb (qab hsb3) (by simpa using hne)];exact hsb3;exact g1.frame f35 (fun b hb=>by simpa using hB'db b hb));have hF':∀b∈db::sb::B',b∈F\/w1.heap.size<=b:=fun b hb=>by simp only[zG] at hb;rcases hb with rfl|rfl|hb;exact .inl hdb;exact .inl (by rw[hF];simp);rcases g3 b hb with h'|h';exact .inl (hBF b h');exact .inr (by omega)
 have f15:Fr F w1 w5:=((fr2'.mono (fun i hi _=>by cases hi)).trans' g2 (fun b hb=>.inl (hBF b hb))).trans' f35 (fun b hb=>by simp at hb;subst hb;exact .inl hdb);refine qtD h5 (by show D.fuse<=_;omega) fun w6 h6 f6=>?_
 have:=hk (db::sb::B') w6 h6 (f15.trans' f6 (fun b hb=>by simp at hb;subst hb;exact .inl hdb)) hF'
 apply qaa<;>intro ha;rw[ha] at this;exact this;rw[ha] at this;exact this
def laySafe (s:List Blk) (x:Int×Blk):List Blk:=s.set x.1.toNat x.2
theorem qcF(l:List (Int×Blk)):∀s:List Blk,(l.foldl laySafe s).length=s.length:=by
 induction l with
 | nil=>intro s;rfl
 | cons x l ih=>intro s;rw[foldl_cons,ih,laySafe,xE]
def syncM (D:DiskM):DiskM×Int:=
 if D.down then (D,7) else if (actM D).2 then ((actM D).1,7) else ({ (actM D).1 with safe:=D.waits.foldl laySafe D.safe,waits:=[] },0)
theorem qbU(D:DiskM):(actM D).1.safe=D.safe/\(actM D).1.waits=D.waits:=by unfold actM;split;exact⟨rfl,rfl⟩;split<;>exact⟨rfl,rfl⟩
theorem qoU{db:Nat}(h:DiskAt w db F D)(hD:D.Ok)(hk:∀F' w',DiskAt w' db F' (syncM D).1->Fr F w w'->(∀b∈F',b∈F)->K (syncM D).2 w'): cW 100 [.pointer (pW db)] [.one .i] w K:=by
 refine qj4 ?_;unfold qfZ;have ad:=h.mem;have aG:=hD.fuse;refine qaf (fun b w'=>(D.down=true/\b=true/\w'=w)\/(D.down=false/\b=(actM D).2/\DiskAt w' db F (actM D).1/\Fr [db] w w')) ?_ ?_;obtain⟨sb,y,hc⟩:=h.cell;refine qae (qai hc D.down rfl ?_);exact qaa (fun I=>.inl ⟨I,rfl,rfl⟩) fun I=>qtD h (by omega) fun w1 h1 f1=>.inr ⟨I,rfl,h1,f1⟩;rintro b w1 (⟨I,rfl,rfl⟩|⟨I,rfl,h1,f1⟩);refine cond_true rfl ?_
 have:=hk F w1 (by rw[syncM,if_pos I];exact h) (.refl _ _) (fun b U=>U)
 rw[syncM,if_pos I] at this;exact this;have fF:Fr F w w1:=f1.mono (fun i z _=>by simp at z;subst z;exact ad);apply qaa<;>intro ha
 have:=hk F w1 (by rw[syncM,if_neg (by simp[I]),if_pos ha];exact h1) fF (fun b U=>U)
 rw[syncM,if_neg (by simp[I]),if_pos ha] at this;exact this;have au:syncM D=({ (actM D).1 with safe:=D.waits.foldl laySafe D.safe,waits:=[] },0):=(by rw[syncM,if_neg (by simp[I]),if_neg (by simp[ha])]);rw[au] at hk;obtain⟨O,ah⟩:=qbU D;generalize (actM D).1=D1 at h1 O ah hk;obtain⟨sb,T,y,B,hF,hn,hc,ai,A⟩:=h1;rw[O] at ai;rw[ah] at A;have V:sb≠db:=fun e=>by rw[e] at hn;simp at hn
 have hB:∀b∈B,b∉[sb]:=fun b U he=>by simp at he;subst he;simp at hn;exact hn.2.1 U
 have aI:=A.len;have av:=hD.waits;have aw:=hD.safe;refine qae (qai hc y rfl ?_);refine qah (fun x w'=>∃i:Nat,x=i/\i<=D.waits.length/\w'.heap[sb]?=some (.cells (((D.waits.take i).foldl laySafe D.safe).flatMap encK).toArray T (0,0))/\Fr [sb] w1 w') (fun x _=>((D.waits.length:Int)-x).toNat)
  ⟨0,rfl,by omega,ai,.refl _ _⟩ ?_
 rintro x w2 ⟨i,rfl,z,C,f2⟩ X hX;have aa:w2.heap[db]?=some (.cells (dCells D1 sb y) DT (0,0)):=(by rw[f2.block db (qab hc) (by simpa using fun e=>V e.symm)];exact hc);apply qaa<;>intro E;have G:i<D.waits.length:=(by have:=zC E;omega);have ax:Rds encW 513 [] w2 y D.waits:=(A.frame f2 hB).rds qbb (by simp);have aj:=zA G;have aK:=hD.at_ D.waits[i] (zW G);refine ax.getV qbb i rfl aj<|Own.newFill (oE [] w2) (by kernel_rfl) (qbb _) (qhA _) fun r J er ho=>?_;have ay:J.heap[sb]?=some (.cells (((D.waits.take i).foldl laySafe D.safe).flatMap encK).toArray T (0,0)):=(by rw[ho.fr.block sb (qab C) (by simp)];exact C);have ab:J.heap[db]?=some (.cells (dCells D1 sb y) DT (0,0)):=(by rw[ho.fr.block db (qab aa) (by simp)];exact aa);refine qae (qai (w:=J.drew) ab ⟨pW sb,D1.safe.length,D1.safe.length⟩ rfl ?_);have ak:=ho.at (i:=0) rfl;refine qai (w:=J.drew) ak D.waits[i].1 rfl<|qa0 (n:=512) (w:=J.drew) ak (encK D.waits[i].2) (qaO _) (by rw[show (encW D.waits[i]).toArray.toList.drop 1=encK D.waits[i].2 from rfl,zS (by rw[qaO];exact zM _)]) ?_;have u:=qcF (D.waits.take i) D.safe;refine qcZ (by omega) (by rw[O];omega)<|qaN (qaO _) ?_;have R:0+Int.toNat D.waits[i].1*512+(encK D.waits[i].2).length<=(((D.waits.take i).foldl laySafe D.safe).flatMap encK).toArray.size:=by rw[size_toArray,qbj qaO,qaO,u];omega
 refine qd2 (w:=J.drew) ay (((((D.waits.take i).foldl laySafe D.safe).set D.waits[i].1.toNat D.waits[i].2).flatMap encK).toArray) (by rw[xO];exact qrp qaO ((D.waits.take i).foldl laySafe D.safe) D.waits[i].1.toNat D.waits[i].2 (by rw[u];omega)) (qpk _) R fun w4 az f4=>?_;rw[wi' _ (by omega)];refine hX _ _ ⟨i+1,by simp,by omega,?_,?_⟩ (by omega);rw[yF G,foldl_append];exact az;have aA:Fr [sb] w2 J.drew:=ho.fr.drew.mono (fun i z _=>by cases z);exact f2.trans (aA.trans f4);have G:i=D.waits.length:=(by have:=zB E;omega);subst G;rw[xX] at C;refine qae ?_;have u:=qcF D.waits D.safe;refine qd2 aa (dCells { D1 with safe:=D.waits.foldl laySafe D.safe,waits:=[] } sb ⟨none,0,0⟩) (by simp[splice,dCells,u,O]) rfl (zO rfl) fun J ab f3=>?_;have aB:Fr F w J:=(fF.trans (f2.mono (fun i z _=>by simp at z;subst z;rw[hF];simp))).trans (f3.mono (fun i z _=>by simp at z;subst z;exact ad));refine hk [db,sb] J ⟨sb,T,⟨none,0,0⟩,[],rfl,by simpa using fun e=>V e.symm,ab,?_,.nil _ _ _⟩ aB (fun b U=>by rw[hF];simp at U;rcases U with rfl|rfl<;>simp);rw[f3.block sb (qab C) (by simpa using V)];exact C
def lastW (n:Int):List (Int×Blk)->Option Blk
 | []=>none
 | x::r=>match lastW n r with|some b=>some b|none=>if x.1=n then some x.2 else none
theorem qnW{n:Int}:∀(l:List (Int×Blk)) (i:Nat) (h:i<l.length),lastW n (l.drop (i+1))=none->l[i].1=n->lastW n l=some l[i].2
 | x::l,0,h,u,y=>by simp only[xO,drop_succ_cons,xD] at u;simp only[getElem_cons_zero] at y⊢;simp[lastW,u,y]
 | x::l,i+1,h,u,y=>by
  have:=qnW l i (by simpa using h) (by simpa using u) (by simpa using y)
  simp only[lastW,this,getElem_cons_succ]
theorem qsN:∀(l:List (Int×Blk)) (i:Nat) (h:i<l.length),lastW n (l.drop (i+1))=none->l[i].1≠n->lastW n (l.drop i)=none:=by intro l i h y u;rw[zX h,lastW,y];simp[u]
def readV (D:DiskM) (n:Int):List Int×Int:=
 if D.down then ([],7) else if n<0\/n>=D.safe.length then ([],4) else
 match lastW n D.waits with|some b=>(b.1,0)|none=>((D.safe.getD n.toNat .zero).1,0)
theorem qqr{b o n:Nat}{h:Nat}{K:Sl->Prop}(u:0<n)(k:K ⟨some ⟨b,o,none⟩,n,n⟩):slcP ⟨b,o,none⟩ n none none none h K:=by unfold slcP;refine⟨by simp,?_⟩;simp only[xT,zJ,Int.toNat_zero,Nat.sub_zero,Nat.zero_mul];rw[iN,qiJ];exact k
theorem qpl{b o:Nat}{h:Nat×Nat}{x:Blk}(A:w.heap[b]?=some (.cells cs T h))(C:(cs.toList.drop o).take 512=encK x)(E:b∉S:=by simp):RdB S w ⟨some ⟨b,o,none⟩,512,512⟩ x.1:=by
 refine⟨x.2.symm,zM _,.inr ⟨b,o,cs,T,h,rfl,A,E,fun i v u=>?_⟩⟩;have y:=(zP.1 u).1;rw[x.2] at y;rw[xQ];have z:(encK x)[i]?=some (.b v):=(by rw[encK,zQ,u];rfl);rw[<- C,xA,if_pos y,yZ] at z;apply ext_getElem?;intro j;rw[xA,yZ];match j with
 | 0=>simpa using z
 | j+1=>simp
theorem qqM{K:Value->WP}(u:∀rb w',(∀S w0 L,Own S w0 w L->Own S w0 w' ((rb,.cells #[s.v] 173 (0,0))::L))->K (.func (.func 202) #[] #[.pointer (pW rb)]) w'): cW 156 [s.v] [.one .any] w K:=by refine qjs ?_;unfold qfr;exact Pt.qja (u _ _ fun S w0 L h=>h.alloc _)
theorem qq1(l:List Blk)(i:Nat)(x:Blk)(h:l[i]?=some x):((l.flatMap encK++Z).drop (i*512)).take 512=encK x:=by have y:=(zP.1 h).1;have u:(l.flatMap encK).length=l.length*512:=qbj qaO l;rw[drop_append_of_le_length (by rw[u];omega),take_append_of_le_length (by rw[yB,u];omega)];exact qhC qaO l i x h
theorem qts{db c:Nat}{K:Sl×Int->WP}(h:DiskZ w db F D c Z)(hD:D.Ok)(hk:∀s' B w',BufB w' s' (readV D n).1 B->Fr [] w w'->(∀b∈B,w.heap.size<=b)->K (s',(readV D n).2) w'): cW 125 [.pointer (pW db),.i n] [.one .slice,.one .i] w K:=by
 refine qj3 ?_;unfold qfY;refine oB (oE [] w) fun r1 w1 e1 f1 z=>oB z fun r3 w2 e2 f2 z=>oB z fun r5 w3 e3 f3 z=>?_;obtain⟨sb,T,U,B,hF,hn,hc,ax,ai⟩:=h;have af:∀ {w':World},Fr [] w w'->w'.heap[db]?=some (.cells (dCellsC D sb c U) DT (0,0)):=fun f=>by rw[f.block db (qab hc) (by simp)];exact hc
 have ay:∀ {w':World},Fr [] w w'->w'.heap[sb]?=some (.cells (D.safe.flatMap encK++Z).toArray T (0,0)):=fun f=>by rw[f.block sb (qab ax) (by simp)];exact ax
 have az:∀ {e:Int} {w':World} {L'},readV D n=([],e)->Own [] w w' L'->L'[1]?=some (r3,.cells #[.slice none 0 0] 23 (0,0))->L'[0]?=some (r5,.cells #[.i e] 33 (0,0))->ld Cell.slice ⟨r3,0,none⟩ w' fun s=>ld .i ⟨r5,0,none⟩ w' fun x=>K (s,x) w':=by
  intro e w' L' he z h1 h0;refine oA z 1 h1 ⟨none,0,0⟩ rfl<|oA z 0 h0 e rfl ?_
  have:=hk ⟨none,0,0⟩ [] w' (by rw[he];exact .nil _ _ _) z.fr (by simp)
  rw[he] at this;exact this
 refine qae (qai (af z.fr) D.down rfl ?_);apply qaa<;>intro hd;exact oH z 1 rfl _ rfl rfl rfl fun w4 z _=>oH z 0 rfl _ rfl rfl rfl fun w5 z _=>az (by rw[readV,if_pos hd]) z rfl rfl;refine qaf (fun b w'=>b=decide (n<0\/n>=D.safe.length)/\w'=w3.drew) ?_ ?_;refine oA z.drew 2 rfl n rfl<|qaa (fun hc=>?_) (fun aP=>?_);exact⟨by rw[zZ (Or.inl (zC hc))],rfl⟩;refine oA z.drew 2 rfl n rfl<|qae (qai (af z.drew.fr) ⟨pW sb,D.safe.length,c⟩ rfl ⟨?_,rfl⟩)
 have:=zB aP
 by_cases h2:n>=D.safe.length<;>simp[this,h2];rintro b w4 ⟨rfl,rfl⟩;apply qaa<;>intro hr;exact oH z.drew 1 rfl _ rfl rfl rfl fun w4 z _=>oH z 0 rfl _ rfl rfl rfl fun w5 z _=>az (by rw[readV,if_neg (by simpa using hd),if_pos (zC hr)]) z rfl rfl;have aR:=zB hr;have aS:0<=n:=(by omega);have aT:n<D.safe.length:=(by omega);have aU:=hD.waits;have aV:=hD.safe;have aW:=ai.len;have aD:readV D n=match lastW n D.waits with|some b=>(b.1,0)|none=>((D.safe.getD n.toNat .zero).1,0):=by rw[readV,if_neg (by simpa using hd),if_neg aR]
 refine qae (qai (af z.drew.fr) U rfl ?_);refine qqM fun rb w5 aX=>?_;have aY:=aX _ _ _ z.drew;refine Own.rng (lb:=[.pointer (pW rb)]) aY rfl (by kernel_rfl) fun Dm l R Bz J E E0 w6 el eD bg aH hy=>qha ?_;unfold qdL;refine oA aH 2 rfl U rfl ?_;rw[wi' _ (by omega)];have aI:∀ {bl:Blk} {s7:Sl} {Bf:List Nat} {V wz:World} {ag:List (Nat×Obj)},readV D n=(bl.1,0)->Own [] w V ag->BufB V s7 bl.1 Bf->(∀b∈Bf,w.heap.size<=b)->(∀b∈Bf,b∉ag.map (·.1))->Fr (ag.map (·.1)) V wz->K (s7,0) wz:=by
  intro bl s7 Bf V wz ag he a0 ac C G fz
  have:=hk s7 Bf wz (by rw[he];exact ac.frame fz G) (a0.back fz) C
  rw[he] at this;exact this
 refine qah (fun x w'=>∃i:Nat,x=(i:Int)-1/\i<=D.waits.length/\lastW n (D.waits.drop i)=none/\Own [] w w' [(l,R),(Dm,.deferred (some [])),(rb,.cells #[U.v] 173 (0,0)),(r5,.cells #[.i 0] 33 (0,0)),(r3,.cells #[.slice none 0 0] 23 (0,0)),(r1,.cells #[.i n] 3 (0,0))]) (fun x _=>(x+1).toNat)
  ⟨D.waits.length,by rw[aW],zM _,by rw[drop_length];rfl,aH⟩ ?_
 rintro x w7 ⟨i,rfl,hi,ah,aa⟩ X hX;apply qaa<;>intro am;have bj:=zC am;obtain⟨i,rfl⟩:∃k,i=k+1:=⟨i-1,by omega⟩;have an:i<D.waits.length:=(by omega);refine oA aa 2 rfl U rfl ?_;have a1:Rds encW 513 [] w7 U D.waits:=(ai.frame0 aa.fr).rds qbb (by simp);refine a1.getV qbb i (by omega) (zA an)<|hy ((((i+1:Nat):Int)-1),encW D.waits[i]) w7 _ (aa.at (i:=0) rfl) ?_;dsimp only;refine Own.newFill aa (by kernel_rfl) (qbb _) (qhA _) fun r w8 er A=>⟨A.at (i:=1) rfl,?_⟩;have I:=A.upd (o':=Bz) 1 rfl;refine oA I 0 rfl D.waits[i].1 rfl<|oA I 6 rfl n rfl ?_;apply qaa<;>intro hm;have ap:D.waits[i].1=n:=(by simpa using hm);have aq:=qnW D.waits i an ah ap;have ad:readV D n=(D.waits[i].2.1,0):=(by rw[aD,aq]);refine qqr (by decide) ?_;have ar:RdB [] (Pt.upd w8 l Bz) ⟨some ⟨r,1,none⟩,512,512⟩ D.waits[i].2.1:=
  qpl (x:=D.waits[i].2) (I.at (i:=0) rfl) (by rw[show (encW D.waits[i]).toArray.toList.drop 1=encK D.waits[i].2 from rfl,zS (by rw[qaO];exact zM _)])
 refine qa3 (s:=⟨some ⟨r,1,none⟩,512,512⟩) ar (by rw[D.waits[i].2.2];decide) fun s7 Bf V ac au ae _ _=>?_;have O:=I.frame0 au;have u:=O.rebase;have C:∀b∈Bf,w.heap.size<=b:=fun b hb=>by have h1:(Pt.upd w8 l Bz).heap.size<=b:=ae b hb;have:=I.fr.size;omega
 have G:∀b∈Bf,b∉[r,l,Dm,rb,r5,r3,r1]:=fun b hb hm=>by
  have h1:(Pt.upd w8 l Bz).heap.size<=b:=ae b hb;have h2:∀p∈[r,l,Dm,rb,r5,r3,r1],p<(Pt.upd w8 l Bz).heap.size:=fun p hp=>by have y:=fun (k:Nat) (q:Nat×Obj) (hq:_[k]?=some q)=>qab (I.at (i:=k) hq);simp only[zG,xV,or_false] at hp;rcases hp with rfl|rfl|rfl|rfl|rfl|rfl|rfl;exact y 0 _ rfl;exact y 1 _ rfl;exact y 2 _ rfl;exact y 3 _ rfl;exact y 4 _ rfl;exact y 5 _ rfl;exact y 6 _ rfl
  have:=h2 b hm
  omega
 refine oH u 5 rfl _ rfl rfl rfl fun a3 u _=>oH u 4 rfl _ rfl rfl rfl fun a4 u _=>⟨u.at (i:=1) rfl,?_⟩;have u:=u.upd (o':=J 0) 1 rfl;refine cond_true rfl<|.inr ⟨0,_,rfl,u.at (i:=1) rfl,?_⟩;have u:=u.upd (o':=E 0) 1 rfl;exact Own.undefer u 2 rfl fun a5 u=>oA u 5 rfl s7 rfl<|oA u 4 rfl 0 rfl<|aI ad O ac C G u.fr;have ap:D.waits[i].1≠n:=(by simpa using hm);refine⟨I.at (i:=1) rfl,?_⟩;have a6:=I.upd (o':=R) 1 rfl;refine cond_false rfl ?_;rw[wi' _ (by omega)];refine hX _ _ ⟨i,by omega,by omega,qsN D.waits i an ah ap,a6.sub (sublist_cons_self _ _)⟩ (by omega);have y:=zB am;obtain rfl:i=0:=by omega
 rw[xD] at ah;refine .inl ⟨aa.at (i:=0) rfl,?_⟩;have A:=(aa.upd (o':=E0) 0 rfl).drew;have ad:readV D n=((D.safe.getD n.toNat .zero).1,0):=(by rw[aD,ah]);have aK:n.toNat<D.safe.length:=(by omega);have a7:D.safe[n.toNat]?=some (D.safe.getD n.toNat .zero):=(by rw[yQ,zA aK];rfl);refine qae (qai (af A.fr) ⟨pW sb,D.safe.length,c⟩ rfl ?_);refine oA A 5 rfl n rfl<|qcZ aS aT<|qqr (by decide) ?_;have ar:RdB [] (Pt.upd w7 l E0).drew ⟨some ⟨sb,0+n.toNat*512,none⟩,512,512⟩ (D.safe.getD n.toNat .zero).1:=
  qpl (ay A.fr) (by rw[xO];exact qq1 D.safe n.toNat _ a7)
 refine qa3 (s:=⟨some ⟨sb,0+n.toNat*512,none⟩,512,512⟩) ar (by rw[(D.safe.getD n.toNat .zero).2];decide) fun s7 Bf V ac au ae _ _=>?_;have O:=A.frame0 au;have u:=O.rebase;have C:∀b∈Bf,w.heap.size<=b:=fun b hb=>by have h1:(Pt.upd w7 l E0).drew.heap.size<=b:=ae b hb;have:=A.fr.size;omega
 have G:∀b∈Bf,b∉[l,Dm,rb,r5,r3,r1]:=fun b hb hm=>by
  have h1:(Pt.upd w7 l E0).drew.heap.size<=b:=ae b hb;have h2:∀p∈[l,Dm,rb,r5,r3,r1],p<(Pt.upd w7 l E0).drew.heap.size:=fun p hp=>by have y:=fun (k:Nat) (q:Nat×Obj) (hq:_[k]?=some q)=>qab (A.at (i:=k) hq);simp only[zG,xV,or_false] at hp;rcases hp with rfl|rfl|rfl|rfl|rfl|rfl;exact y 0 _ rfl;exact y 1 _ rfl;exact y 2 _ rfl;exact y 3 _ rfl;exact y 4 _ rfl;exact y 5 _ rfl
  have:=h2 b hm
  omega
 exact oH u 4 rfl _ rfl rfl rfl fun a3 u _=>oH u 3 rfl _ rfl rfl rfl fun a4 u _=>Own.undefer u 1 rfl fun a5 u=>oA u 4 rfl s7 rfl<|oA u 3 rfl 0 rfl<|aI ad O ac C G u.fr
theorem qhp{db:Nat}{K:Sl×Int->WP}(h:DiskAt w db F D)(y:D.Ok)(A:∀u B w',BufB w' u (readV D n).1 B->Fr [] w w'->(∀b∈B,w.heap.size<=b)->K (u,(readV D n).2) w'): cW 125 [.pointer (pW db),.i n] [.one .slice,.one .i] w K:=qts h.z y A
abbrev U32 (n:Int):Prop:=0<=n/\n<4294967296
theorem qf0(h:U32 n)(r:List Int):first4 (be n 4++r)=n:=by rw[be4 h.1];exact qvm h
theorem qnM:∀(c:List Int) (i:Nat),(c.flatMap (be · 4)).drop (4*i)=(c.drop i).flatMap (be · 4)
 | [],i=>by simp
 | a::c,0=>by simp
 | a::c,i+1=>by rw[yG,drop_succ_cons,<- qnM c i,drop_append,qao,xZ (by rw[qao];omega),xG];congr 1
theorem qvx(c:List Int):(c.flatMap (be · 4)).length=4*c.length:=by
 induction c with
 | nil=>rfl
 | cons a c ih=>rw[yG,zF,qao,ih,yH];omega
theorem qku{i:Nat}(h:i<c.length)(u:∀x∈c,U32 x):first4 ((c.flatMap (be · 4)).drop (4*i))=c[i]:=by rw[qnM,zX h,yG];exact qf0 (u _ (zW h)) _
theorem qd8(next:Int)(c:List Int):(bodyV next c).length=6+4*c.length:=by rw[bodyV,zF,zF,qao,qvx];rfl
theorem qpu(c:List Int):IsB (c.flatMap (be · 4)):=by
 induction c with
 | nil=>exact fun x h=>by cases h
 | cons a c ih=>rw[yG];exact (qbN _ _).append ih
theorem qxj(x:Int):0<=wrap .u8 x/\wrap .u8 x<256:=by rw[wu8];omega
theorem qnA(next:Int)(c:List Int):IsB (bodyV next c):=by refine ((qbN _ _).append fun x h=>?_).append (qpu c);simp only[zG,xV,or_false] at h;rcases h with rfl|rfl<;>exact qxj _
theorem qp7{next:Int}(y:U32 next)(C:next≠1)(E:∀x∈c,U32 x)(G:risesB 1 c=true)(U:c.length<=123):parseV (bodyV next c)=(next,c,0):=by
 have z:=qd8 next c
 have e:bodyV next c=be next 4++([wrap .u8 (Int.fdiv c.length (2^8)),wrap .u8 c.length]++c.flatMap (be · 4)):=by rw[bodyV,zV]
 have A:first4 (bodyV next c)=next:=by rw[e];exact qf0 y _
 have h:cntV (bodyV next c)=c.length:=(by have I:(bodyV next c).getD 4 0=wrap .u8 (Int.fdiv c.length (2^8)):=(by rw[e,be4 y.1];rfl);have J:(bodyV next c).getD 5 0=wrap .u8 c.length:=(by rw[e,be4 y.1];rfl);have K:Int.fdiv (c.length:Int) (2^8)=0:=(by rw[Int.fdiv_eq_ediv_of_nonneg _ (by decide)];omega);rw[cntV,I,J,wu8,wu8,K];omega);have u:numsV (bodyV next c) c.length=c:=by
  apply ext_getElem;simp[numsV];intro i C O;have:(bodyV next c).drop (6+4*i)=(c.flatMap (be · 4)).drop (4*i):=by have R:(bodyV next c).drop 6=c.flatMap (be · 4):=(by rw[e,be4 y.1];rfl);rw[<- R,xB]
  simp only[numsV,getElem_map,getElem_range,this];exact qku O E
 rw[parseV,iN,if_neg (by rw[A,h];omega),h,zJ,u,if_pos G,A]
theorem qqJ(x:Int)(h:0<=x/\x<18446744073709551616:=by omega):wrap .u64 x=x:=by unfold wrap;have:(IntKind.u64.signed)=false:=rfl;simp only[this,Bool.false_and,Bool.false_eq_true,if_false];exact Int.emod_eq_of_lt h.1 h.2
theorem quu{A B:Int}(k:Nat)(C:0<=A:=by omega)(y:A%2^k=0:=by omega)(E:0<=B:=by omega)(h:B<2^k:=by omega)(G:A+B<18446744073709551616:=by omega):bits .or .u64 A B=A+B:=by
 obtain⟨a,rfl⟩:∃a:Nat,A=a:=⟨A.toNat,by omega⟩;obtain⟨b,rfl⟩:∃b:Nat,B=b:=⟨B.toNat,by omega⟩;have z:a%2^k=0:=by have:((a:Int)%((2^k:Nat):Int))=0:=(by rw[Int.natCast_pow];exact y);omega
 have u:b<2^k:=(by have:(b:Int)<((2^k:Nat):Int):=(by rw[Int.natCast_pow];exact h);omega);obtain⟨q,rfl⟩:∃q,a=2^k*q:=⟨a / 2^k,by have:=Nat.div_add_mod a (2^k);omega⟩;show wrap .u64 ((BitVec.ofInt 64 ((2^k*q:Nat):Int)||| BitVec.ofInt 64 (b:Int)).toNat:Nat)=_;rw[BitVec.toNat_or,BitVec.ofInt_natCast,BitVec.ofInt_natCast,BitVec.toNat_ofNat,BitVec.toNat_ofNat,Nat.mod_eq_of_lt (show 2^k*q<2^64 by omega),Nat.mod_eq_of_lt (show b<2^64 by omega),<- Nat.two_pow_add_eq_or_of_lt u];rw[qqJ _];omega
abbrev U64 (n:Int):Prop:=0<=n/\n<18446744073709551616
theorem qdE:superB q t=be (wrap .u32 (Int.fdiv q (2^32))) 4++(be (wrap .u32 q) 4++t.flatMap (be · 4)):=by rw[superB,zV]
theorem qii(C:U64 q):parseQ (superB q t)=q:=by have h:Int.fdiv q (2^32)=q / 4294967296:=(by rw[Int.fdiv_eq_ediv_of_nonneg _ (by decide)];rfl);have u:first4 (superB q t)=q / 4294967296:=(by rw[qdE,h,qa5 _];exact qf0 (by constructor<;>omega) _);have y:(superB q t).drop 4=be (wrap .u32 q) 4++t.flatMap (be · 4):=(by rw[qdE,drop_append,qao,xZ (by rw[qao];exact zM _)];rfl);have z:wrap .u32 q=q%4294967296:=(by unfold wrap;have:(IntKind.u32.signed)=false:=rfl;simp only[this,Bool.false_and,Bool.false_eq_true,if_false];rfl);have A:first4 ((superB q t).drop 4)=q%4294967296:=(by rw[y,z];exact qf0 (by constructor<;>omega) _);rw[parseQ,u,A,qqJ (q / 4294967296),qqJ (q%4294967296),qqJ (q / 4294967296*2^32)];rw[quu 32];omega
theorem qtn(q:Int)(t:List Int):IsB (superB q t):=by rw[qdE];exact (qbN _ _).append ((qbN _ _).append (qpu t))
theorem qoG(h:t.length=27)(u:∀x∈t,U32 x):parseT (superB q t)=t:=by
 apply ext_getElem;rw[qaT,h];intro i A y;have z:(superB q t).drop 8=t.flatMap (be · 4):=by rw[qdE,<- zV,drop_append,zF,qao,qao,xZ (by rw[zF,qao,qao];exact zM _)];rfl
 have:(superB q t).drop (8+4*i)=(t.flatMap (be · 4)).drop (4*i):=(by rw[<- z,xB]);simp only[parseT,getElem_map,getElem_range,this];exact qku y u
theorem qrm{place:Int}(h:U64 q)(u:t.length=27)(A:∀x∈t,U32 x)(z:Int.tmod q 2=place):readSV place (sealV place 1 (superB q t))=((q,t),0):=by have y:U32 place:=(by rw[<- z,Int.tmod_eq_emod_of_nonneg h.1];constructor<;>omega);have C:=qgA (kind:=1) (body:=superB q t) y (by rw[qcy u];decide);rw[readSV,C,if_neg (by simp),if_neg (by simp[qcy u]),if_neg (by rw[qii h,z];simp),qii h,qoG u A]
end
section
open Go Go.Pt List
open Go.IntKind (wrap)
open Classical
variable {k v:Nat}
theorem qvn{a b:Int}(h:IsB [a,b]):be (getV [a,b]) 2=[a,b]/\getV [a,b]=a*256+b:=by
 have u:=h a (by simp);have y:=h b (by simp);have e:getV [a,b]=a*256+b:=by rw[qhG h (zO rfl)];show ((0*256+a)*256+b)=_;omega
 refine⟨?_,e⟩;rw[e,be2 (by omega)];congr 1;omega;congr 1;omega
structure NodeM where
 leaf:Bool
 keys:List Key
 vals:List Key
 kids:List Int
variable {n:NodeM}
def zeroN:NodeM:=⟨false,[],[],[]⟩
def capsV (k v:Nat):Nat×Nat:=if k<1\/k>24\/v>108 then (0,0) else (498 / (k+v),(498+k) / (4+k))
def rightV (n:NodeM) (k v:Nat):Prop:=
 (∀a∈n.keys,a.length=k)/\(∀a∈n.vals,a.length=v)/\Rising n.keys/\
 if n.leaf then n.kids=[]/\1<=n.keys.length/\n.keys.length<=(capsV k v).1/\n.vals.length=n.keys.length
 else (∀x∈n.kids,2<=x)/\n.vals=[]/\2<=n.kids.length/\n.kids.length<=(capsV k v).2/\n.keys.length+1=n.kids.length
def leafB (keys vals:List Key):List Int:=(keys.zip vals).flatMap fun x=>x.1++x.2
def bodyN (n:NodeM):List Int:=if n.leaf then be n.keys.length 2++leafB n.keys n.vals else be n.kids.length 2++n.kids.flatMap (fun x=>be x 4)++n.keys.flatten
def kindN (n:NodeM):Int:=if n.leaf then 3 else 4
noncomputable def writeNV (n:NodeM) (k v:Nat):Int×List Int×Int:=if rightV n k v then (kindN n,bodyN n,0) else (0,[],1)
def leafR (k v:Nat):Nat->List Int->List Key×List Key
 | 0,_=>([],[])
 | c+1,b=>(b.take k::(leafR k v c (b.drop (k+v))).1,(b.drop k).take v::(leafR k v c (b.drop (k+v))).2)
def kidsR:Nat->List Int->List Int
 | 0,_=>[]
 | c+1,b=>getV (b.take 4)::kidsR c (b.drop 4)
def keysR (k:Nat):Nat->List Int->List Key
 | 0,_=>[]
 | c+1,b=>b.take k::keysR k c (b.drop k)
def countV (b:List Int):Nat:=(b.getD 0 0*256+b.getD 1 0).toNat
def leafN (k v:Nat) (b:List Int):NodeM:=⟨true,(leafR k v (countV b) (b.drop 2)).1,(leafR k v (countV b) (b.drop 2)).2,[]⟩
def innerN (k:Nat) (b:List Int):NodeM:=⟨false,keysR k (countV b-1) ((b.drop 2).drop (countV b*4)),[],kidsR (countV b) (b.drop 2)⟩
noncomputable def readNV (kind:Int) (b:List Int) (k v:Nat):NodeM×Int:=
 if (capsV k v).1=0\/b.length<2\/b.length>500 then (zeroN,2)
 else if kind=3/\(b.drop 2).length=countV b*(k+v)/\rightV (leafN k v b) k v then (leafN k v b,0)
 else if kind=4/\1<=countV b/\(b.drop 2).length=countV b*4+(countV b-1)*k/\rightV (innerN k b) k v then (innerN k b,0)
 else (zeroN,2)
theorem qqh{kind:Int}{b:List Int}(h:(readNV kind b k v).2=0):rightV (readNV kind b k v).1 k v:=by unfold readNV at h⊢;split at h;cases h;rename_i z;rw[if_neg z];split at h;rename_i u;rw[if_pos u];exact u.2.2;rename_i u;rw[if_neg u];split at h;rename_i y;rw[if_pos y];exact y.2.2.2;cases h
theorem qi7{k v:Nat}:∀ {keys vals:List Key},(∀a∈keys,a.length=k)->(∀a∈vals,a.length=v)->keys.length=vals.length->(leafB keys vals).length=keys.length*(k+v)
 | [],[],_,_,_=>by simp[leafB]
 | a::r,b::s,y,z,A=>by
  have:=qi7 (keys:=r) (vals:=s) (fun x u=>y x (zN _ u)) (fun x u=>z x (zN _ u)) (by simpa using A)
  unfold leafB at this⊢;rw[zip_cons_cons,yG,zF,zF,y a (by simp),z b (by simp),this,yH,xR];omega
 | [],_::_,_,_,h=>by simp at h
 | _::_,[],_,_,h=>by simp at h
theorem qr5{k v:Nat}:∀ {keys vals:List Key},(∀a∈keys,a.length=k)->(∀a∈vals,a.length=v)->keys.length=vals.length->leafR k v keys.length (leafB keys vals)=(keys,vals)
 | [],[],_,_,_=>rfl
 | a::r,b::s,y,z,G=>by have ih:=qr5 (k:=k) (v:=v) (keys:=r) (vals:=s) (fun x u=>y x (zN _ u)) (fun x u=>z x (zN _ u)) (by simpa using G);have A:=y a (by simp);have C:=z b (by simp);have e:leafB (a::r) (b::s)=a++(b++leafB r s):=(by unfold leafB;rw[zip_cons_cons,yG,zV]);rw[yH,leafR,e];have e1:(a++(b++leafB r s)).take k=a:=(by rw[<- A,take_left'];rfl);have E:(a++(b++leafB r s)).drop k=b++leafB r s:=(by rw[<- A,drop_left'];rfl);have I:(a++(b++leafB r s)).drop (k+v)=leafB r s:=(by rw[<- xB,E,<- C,drop_left'];rfl);have J:(b++leafB r s).take v=b:=(by rw[<- C,take_left'];rfl);rw[I,ih,e1,E,J]
 | [],_::_,_,_,h=>by simp at h
 | _::_,[],_,_,h=>by simp at h
theorem qr1{r:List Int}:∀ {l:List Int},(∀x∈l,0<=x/\x<4294967296)->kidsR l.length (l.flatMap (fun x=>be x 4)++r)=l
 | [],_=>rfl
 | a::l,h=>by have ih:=qr1 (r:=r) (l:=l) fun x y=>h x (zN _ y);have u:=qao a 4;rw[yH,kidsR,yG,zV];generalize l.flatMap (fun x=>be x 4)++r=R at ih⊢;have e1:(be a 4++R).take 4=be a 4:=take_left' u;have z:(be a 4++R).drop 4=R:=drop_left' u;rw[e1,z,ih,qlf (h a (by simp))]
theorem qr0{k:Nat}:∀ {l:List Key},(∀a∈l,a.length=k)->keysR k l.length l.flatten=l
 | [],_=>rfl
 | a::l,h=>by have ih:=qr0 (k:=k) (l:=l) fun x y=>h x (zN _ y);have u:=h a (by simp);rw[yH,keysR,flatten_cons];have e1:(a++l.flatten).take k=a:=(by rw[<- u];exact take_left);have z:(a++l.flatten).drop k=l.flatten:=(by rw[<- u];exact drop_left);rw[e1,z,ih]
theorem qiW(l:List Int):(l.flatMap fun x=>be x 4).length=l.length*4:=by
 induction l with
 | nil=>rfl
 | cons a l ih=>rw[yG,zF,ih,qao,yH];omega
theorem qiX{k:Nat}:∀ {l:List Key},(∀a∈l,a.length=k)->l.flatten.length=l.length*k
 | [],_=>by simp
 | a::l,h=>by rw[flatten_cons,zF,qiX fun x u=>h x (zN _ u),h a (by simp),yH,xR];omega
theorem qnD{n:Nat}(h:n<65536)(r:List Int):countV (be (n:Int) 2++r)=n:=by
 have z:=qao (n:Int) 2;obtain⟨a,b,e⟩:∃a b,be (n:Int) 2=[a,b]:=by
  match be (n:Int) 2,z with
  | [a,b],_=>exact⟨a,b,rfl⟩
 have u:=qbN (n:Int) 2;have y:=qpB (n:=(n:Int)) ⟨by omega,by omega⟩;rw[e] at u y
 have:=(qvn u).2
 rw[y] at this;unfold countV;rw[e];show (a*256+b).toNat=n;omega
theorem qrN{n:Int}{r:List Int}:(be n 2++r).drop 2=r:=by
 have:=drop_left (l₁:=be n 2) (l₂:=r)
 rw[qao] at this;exact this
theorem qkq(a b:Nat):a / b*b<=a:=Nat.div_mul_le_self a b
theorem qtF{c:Nat}(h:c<=(capsV k v).1):c*(k+v)<=498:=by unfold capsV at h;split at h;rw[show c=0 from Nat.le_zero.1 h];omega;exact zL (Nat.mul_le_mul_right _ h) (qkq _ _)
theorem qsx{c:Nat}(h:c<=(capsV k v).2):c*4+(c-1)*k<=498:=by
 unfold capsV at h;split at h;rw[show c=0 from Nat.le_zero.1 h];omega;have u:c*(4+k)<=498+k:=zL (Nat.mul_le_mul_right _ h) (qkq _ _);cases c with
 | zero=>omega
 | succ c=>
  rw[Nat.add_sub_cancel];rw[xR,Nat.mul_add] at u;rw[xR];omega
theorem qgL:(capsV k v).1<=498/\(capsV k v).2<=498:=by unfold capsV;split;exact⟨by decide,by decide⟩;exact⟨Nat.div_le_self _ _,Nat.div_le_of_le_mul (by have:(498+k)<=(4+k)*498:=(by rw[xR];omega);exact this)⟩
theorem qfP(h:rightV n k v):2<=(bodyN n).length/\(bodyN n).length<=500:=by
 obtain⟨y,A,C,u⟩:=h;unfold bodyN;cases z:n.leaf with
 | true=>
  rw[z,if_pos rfl] at u;rw[if_pos rfl,zF,qao,qi7 y A u.2.2.2.symm]
  have:=qtF u.2.2.1
  omega
 | false=>
  rw[z,if_neg (by decide)] at u;rw[if_neg (by decide),zF,zF,qao,qiW,qiX y]
  have:=qsx u.2.2.2.1
  have e:n.keys.length=n.kids.length-1:=(by omega);rw[e];omega
theorem qpZ:(⟨n.leaf,n.keys,n.vals,n.kids⟩:NodeM)=n:=rfl
theorem qs5(h:rightV n k v)(V:∀x∈n.kids,x<4294967296):readNV (kindN n) (bodyN n) k v=(n,0):=by
 have J:=qfP h;have K:=h;obtain⟨G,O,h3,A⟩:=h;have aa:=(qgL (k:=k) (v:=v));unfold readNV;cases z:n.leaf with
 | true=>
  rw[z,if_pos rfl] at A;have u:countV (bodyN n)=n.keys.length:=(by unfold bodyN;rw[z,if_pos rfl];exact qnD (by omega) _);have y:(bodyN n).drop 2=leafB n.keys n.vals:=(by unfold bodyN;rw[z,if_pos rfl];exact qrN);have C:leafN k v (bodyN n)=n:=by unfold leafN;rw[u,y,qr5 G O A.2.2.2.symm];rw[<- qpZ (n:=n),z,A.1]
  rw[iN,if_pos ⟨by unfold kindN;rw[z];rfl,by rw[u,y,qi7 G O A.2.2.2.symm],by rw[C];exact K⟩,C]
 | false=>
  rw[z,if_neg (by decide)] at A;have R:bodyN n=be n.kids.length 2++(n.kids.flatMap (fun x=>be x 4)++n.keys.flatten):=(by unfold bodyN;rw[z,if_neg (by decide),zV]);have u:countV (bodyN n)=n.kids.length:=(by rw[R];exact qnD (by omega) _);have y:(bodyN n).drop 2=n.kids.flatMap (fun x=>be x 4)++n.keys.flatten:=(by rw[R];exact qrN);have E:n.keys.length=n.kids.length-1:=(by omega);have C:innerN k (bodyN n)=n:=by unfold innerN;have e:(n.kids.flatMap (fun x=>be x 4)++n.keys.flatten).drop (n.kids.length*4)=n.keys.flatten:=(by rw[<- qiW];exact drop_left);rw[u,y,qr1 fun x U=>⟨by have:=A.1 x U;omega,V x U⟩,e,<- E,qr0 G];rw[<- qpZ (n:=n),z,A.2.1]
  have ab:1<=(capsV k v).1:=(by have I:=A.2.2.2.1;have h6:=A.2.2.1;unfold capsV at I⊢;by_cases hc:k<1\/k>24\/v>108;rw[if_pos hc] at I;have h8:n.kids.length<=0:=I;omega;rw[if_neg hc];have h7:k+v<=498:=(by omega);exact (Nat.le_div_iff_mul_le (show 0<k+v by omega)).2 (by rw[Nat.one_mul];exact h7));rw[iN,if_neg (fun h=>by unfold kindN at h;rw[z] at h;exact absurd h.1 (by decide)),if_pos ⟨by unfold kindN;rw[z];rfl,by rw[u];omega,by rw[u,y,zF,qiW,qiX G,E],by rw[C];exact K⟩,C]
theorem IsB.flat{l:List Key}(h:∀a∈l,IsB a):IsB l.flatten:=fun x u=>by obtain⟨a,y,u⟩:=mem_flatten.1 u;exact h a y x u
theorem qnz(u:∀a∈n.keys,IsB a)(A:∀a∈n.vals,IsB a):IsB (bodyN n):=by unfold bodyN;split;refine (qbN _ _).append fun x h=>?_;obtain⟨y,C,h⟩:=yJ.1 h;have z:=of_mem_zip (a:=y.1) (b:=y.2) C;rcases zD.1 h with h|h;exact u _ z.1 x h;exact A _ z.2 x h;refine ((qbN _ _).append fun x h=>?_).append (IsB.flat u);obtain⟨y,_,h⟩:=yJ.1 h;exact qbN _ _ x h
end
section
open Go.ChangeShapes Go.WideShapes Go.ChangeAt Go.RowKit Go.Pt
theorem qxV:ownKnob prog.godebug=none:=by kernel_rfl
theorem qug:laidOutB prog=true:=by kernel_rfl
abbrev laidH:List (String×DataW Unit):=[("cashbook/crc.halves",Rows.laid_cashbook_crc_halves)]
theorem qrV:prog.globalNamed "cashbook/crc.halves"=some HG:=by kernel_rfl
theorem qwG:(prog.globals[HG]?).map (·.type)=some 308:=by kernel_rfl
theorem qwH:prog.underlying 308=some (.array 16 37):=by kernel_rfl
theorem qvB:prog.underlying 37=some (.int .u32):=by kernel_rfl
set_option maxRecDepth 100000 in
theorem qvu(h:Os)(args:Array Value):laidMetH prog laidH ((World.doorLaid prog 4000 h).forCall (fun _ _=>0) ⟨#[],args,[]⟩).memory:=
 laidMetH_of_parts3 (fuel:=8) (laidMet_of_run' 8 (by kernel_rfl) (by kernel_rfl)) (by kernel_rfl) (by kernel_rfl)
theorem qsG{W:World}(h:laidMetH prog laidH W):Hv W:=by
 rw[MakeChecks.laidMetH_plain _ _ _ (by kernel_rfl)] at h;obtain⟨ps,⟨g0,t0,cs0,f0,p0,q0,hg0,ht0,hv0,hd0,_,_⟩,_,_⟩:=h;obtain rfl:=yN (qrV.symm.trans hg0);obtain rfl:=yN (qwG.symm.trans ht0);obtain⟨xs,m1,rfl,hx1,hlen,hn3,hel⟩:=DataW.trod_array qwH hd0;simp only[Prod.mk.injEq] at hx1;have hx:=hx1.1;unfold Rows.laid_cashbook_crc_halves at hx;rw[DataW.agg.injEq] at hx;have c31:prog.cellsOf 37=1:=(by kernel_rfl);have hcl:prog.cellsOf 308=16:=(by kernel_rfl);have hb:∃T fr,W.heap[HG]?=some (.cells cs0 T fr):=by unfold World.var? at hv0;rw[qrV,Option.bind_some] at hv0;split at hv0;rename_i cs T fr hb;cases hv0;exact⟨T,fr,hb⟩;cases hv0
 obtain⟨T,fr,hb⟩:=hb;have key:∀(i:Nat) (n:Int),(xs.map (·.1))[i]?=some (DataW.lit (.int .u32 n))->cs0.toList[i]?=some (.int .u32 n):=by
  intro i n hi;rw[zQ] at hi;obtain⟨y,hy,hyn⟩:=yS.1 hi;have hil:i<xs.length:=(zP.1 hy).1;have h1:=hel i (by omega);rw[c31] at h1;rw[hy] at h1;obtain⟨k,e1,e2,_⟩:=DataW.trod_int qvB h1;rw[e2] at hyn;have hk:k=n:=(by simpa using hyn);subst hk
  have:=congrArg (·[0]?) e1
  simpa using this
 refine⟨T,fr,?_⟩;rw[hb];refine congrArg (fun c=>some (Obj.cells c T fr)) ?_;apply Array.ext';apply List.ext_getElem?;intro i;have hsz:cs0.toList.length=16:=hlen.trans hcl;have hx':xs.map (·.1)=halvesL.map (fun n=>DataW.lit (.int .u32 n)):=hx.symm;by_cases hi:i<halvesL.length;have h1:=key i halvesL[i] (by rw[hx',zQ,zA hi];rfl);rw[h1];show _=(halvesL.map (Value.int .u32))[i]?;rw[zQ,zA hi];rfl;have h16:halvesL.length=16:=rfl;rw[yR (by omega)];exact (yR (by rw[zK];omega)).symm
theorem qto{x:Int}(h:IntKind.u8.has x):0<=x/\x<256:=by have u:(0:Int)<=x/\x<=255:=h;omega
end
section
open Go Go.Pt Go.Sort List
attribute [local irreducible] ld ldA ldV fld fldA newZ st new idx idxS idxA slc slcS slcP mkS chk nn call callV inv run runQ runU join loop held ext rng undefer s2a nxt ent IntKind.wrap
theorem qfh(l:List Int):l.flatMap encU=l.map (Value.int .u32):=by
 induction l with
 | nil=>rfl
 | cons a l ih=>rw[yG,ih];rfl
theorem qo6{w:World}{s:Sl}{l:List Int}{B:List Nat}{K:Unit->WP}(h:BufU w s l B)(hl:l.length<=1000000)(U:∀C w',BufU w' s C B->C.Perm l->C.Pairwise (·<=·)->Fr B w w'->K () w'): cW 113 [s.v] [] w K:=by
 rcases h with ⟨rfl,rfl,rfl⟩|⟨b,o,y,T,rfl,rfl,V,hb,h1,h2,h3,E⟩;exact qo7 (U [] w (.nil _ _ _) (.refl _) .nil (.refl _ _));obtain⟨a,len,cap⟩:=s;simp only at V h1 h2 h3 E;subst V h1;rw[xD,xQ,qfh] at E;rw[xO,xQ] at h3;have G:y=u32s l.toArray++(y.toList.drop l.length).toArray:=by apply Array.ext';rw[Array.toList_append,u32s,Array.toList_map,<- E,xC]
 have z:Arr b ⟨T,some (y.toList.drop l.length).toArray⟩ w w l.toArray:=⟨.refl _ _,by rw[hb];show _=some (Obj.cells (u32s l.toArray++(y.toList.drop l.length).toArray) T (0,0));rw[<- G]⟩;refine qrD (len:=l.length) z ⟨by simp,by omega⟩ fun u w' s1 s2 s3=>?_;have A:u.size=l.length:=(by have:=s1.1;simpa using this);have hp:u.toList.Perm l:=by
  have:=qcH s1
  rw[zS (by rw[Array.length_toList];omega)] at this;simpa using this
 have I:u.toList.length=l.length:=(by rw[<- A];rfl);have ai:y.toList.length=y.size:=rfl;refine U u.toList w' (.inr ⟨b,0,_,T,rfl,rfl,rfl,s3.blk,?_,?_,?_,?_⟩) hp ?_ s3.fr;show l.length=u.toList.length;exact I.symm;exact h2;show 0+cap*1<=(u32s u++(y.toList.drop l.length).toArray).size;have e:(y.toList.drop l.length).toArray.size=y.size-l.length:=(by simp);rw[Array.size_append,qdi,e,A];omega;show ((u32s u++(y.toList.drop l.length).toArray).toList.drop 0).take _=_;rw[xD,xQ,Array.toList_append,u32s,Array.toList_map,take_append_of_le_length (by rw[zK];exact zM _),zS (by rw[zK];exact zM _),qfh];rw[pairwise_iff_getElem];intro i j J O R;have J:i<u.size:=J;have O:j<u.size:=O
 have:=s2 i j (yW _) R (by omega)
 rw[getElem!_pos u i J,getElem!_pos u j O] at this;simp[ltInt] at this;simpa using this
theorem qoW{w:World}{mb:Nat}{f:List (Int×Value)}{K:Sl->WP}(G:MapS u32V w mb f)(I:f.length<=100000)(J:∀u B h w',BufU w' u h B->h.Perm (f.map (·.1))->h.Pairwise (·<=·)->Fr [] w w'->(∀b∈B,w.heap.size<=b)->K u w'): cW 89 [.map (some mb)] [.one .any] w fun v w'=> cW 88 [v] [.one .slice] w' fun s w'=>K s w':=by refine qpS ?_;unfold qmh;refine oB (oE [] w) fun rk w1 e1 y O=>qlE ?_;unfold qhe;refine qkb ?_;unfold qgg;refine qou (G.frame y (by simp)) (O.at (i:=0) rfl) I fun u B h w2 R A U C=>?_;have hl:h.length=f.length:=(by have:=A.length_eq;simpa using this);refine qo6 R (by omega) fun V w3 b3 p3 s3 f3=>?_;have E:=y.size;exact J u B V w3 b3 (p3.trans A) s3 ((y.trans U).trans' f3 fun b z=>.inr (zL E (C b z))) fun b z=>zL E (C b z)
section
variable {w:World} {X:List Nat} {pb:Nat} {db:Option Addr} {F:List Nat} {M:PgM}
theorem qtw{K:Sl->WP}(h:PagerAt w X pb db F M)(z:M.fresh.length<=100000)(A:∀s B l w',BufU w' s l B->l.Perm (M.fresh.map (·.1))->l.Pairwise (·<=·)->Fr [] w w'->(∀b∈B,w.heap.size<=b)->K s w'): cW 49 [.pointer (pW pb)] [.one .slice] w K:=by obtain⟨fb,defb,mb,sl,sn,E,G,C,rfl,u⟩:=h;refine qhP ?_;unfold qeg;refine qae ?_;simp only[Addr.add_mk];refine qai u.cell (some mb) (qbP u.suplen) ?_;have y:C.length<=100000:=(by rw[u.fresh] at z;simpa using z);refine qoW u.map (by simpa using y) fun s B l w' b p o f n=>A s B l w' b ?_ o f n;rw[u.fresh];simpa[Function.comp_def] using p
end
end
section
open Go Go.Pt List
open Go.IntKind (wrap)
attribute [local irreducible] ld ldA ldV fld fldA newZ st new idx idxS idxA slc slcS slcP mkS chk nn call callV inv run runQ runU join loop held ext rng undefer s2a nxt ent IntKind.wrap
variable {K:Unit->WP} {X:List Nat} {db:Option Addr} {l roots:List Int} {m:Option Nat} {offs:Array (Nat×Nat)} {over:Bool} {parts:List (Nat×Value)} {sup:Sup} {wk:List Value}
theorem qa8{A X Y Z:List Value}(h:X.length=Y.length):splice (A++X++Z).toArray A.length Y=(A++Y++Z).toArray:=by apply Array.ext';rw[qar _ _ _ (by rw[size_toArray];simp only[zF];omega)];exact qfv A X Y Z h
theorem qaD{u:Array Value}{i o s:Nat}{v:Value}{y:List (Nat×Value)}(h:offs[i]?=some (o,s))(z:v.cells.size=s)(C:o+s<=u.size): Instr.fill (offs[·]?) u ((i,v)::y)=Instr.fill (offs[·]?) (splice u o v.cells.toList) y:=by have A:=qhB o v.cells u;simp only[Instr.fill,h];rw[if_neg (by simp[z];omega),A]
theorem qc8{P:Program}{t:TypeId}{z:Value}{cs:Array Value}(u:(P.info? t).bind (·.zero)=some z)(y:P.underlying t=some (.struct (fieldsOf P t)))(h:∀w,((fieldsOf P t).mapM fun f=>do pure (f.offset,<- sizeOf f.type):Sem (Array (Nat×Nat))).run P w=.ok offs w)(A:Instr.fill (offs[·]?) z.cells parts=some cs)(w:World):(Instr.build t parts.toArray).run P w=.ok (.agg cs) w:=by simp only[Instr.build,Sem.run_bind,qaM u,Result.andThen_ok,run_underlying y,h,A,Sem.run_pure]
abbrev WKT:TypeId:=125
def workV (x y:Option Addr) (m:Option Nat) (roots:List Int):List Value:=[.pointer x,.pointer y,.map m]++roots.map (Value.int .u32)
theorem qav{x y:Option Addr}(h:roots.length=24:=by rfl):(workV x y m roots).length=27:=by simp[workV,h]
theorem qxY:(prog.info? WKT).bind (·.zero)=some (.agg (workV none none none (zs 24)).toArray):=by kernel_rfl
theorem qsw{x y:Option Addr}(h:roots.length=24)(w:World): (Instr.build WKT #[(0,.pointer x),(1,.pointer y),(2,.map m),(3,.agg (roots.map (Value.int .u32)).toArray)]).run prog w=.ok (.agg (workV x y m roots).toArray) w:=by refine qc8 (parts:=[(0,.pointer x),(1,.pointer y),(2,.map m),(3,.agg (roots.map (Value.int .u32)).toArray)]) (offs:=#[(0,1),(1,1),(2,1),(3,24)]) qxY (by kernel_rfl) (fun w=>by kernel_rfl) ?_ w;have u:(Value.agg (roots.map (Value.int .u32)).toArray).cells.size=24:=(by show (roots.map (Value.int .u32)).toArray.size=24;simp[h]);rw[qaD (o:=0) (s:=1) rfl rfl (zO rfl),qaD (o:=1) (s:=1) rfl rfl (zO rfl),qaD (o:=2) (s:=1) rfl rfl (zO rfl),qaD (o:=3) (s:=24) rfl u (zO rfl)];show some _=_;congr 1;exact qa8 (A:=[.pointer x,.pointer y,.map m]) (X:=(zs 24).map (Value.int .u32)) (Z:=[]) (Y:=roots.map (Value.int .u32)) (by simp[h,qaI]) |>.trans (by rw[xF];rfl)
def pgRaw (db:Option Addr) (sup:Sup) (sl sn:Sl) (turn:Int) (over:Bool) (wk:List Value):Array Value:=
 ((Value.pointer db::supV sup.1 sup.2)++([sl.v,sn.v,.i turn,.bool over]:List Value)++wk).toArray
theorem qbE{sl sn:Sl}{turn:Int}{fb defb mb:Nat}: pgRaw db sup sl sn turn over (workV (pW fb) (pW defb) (some mb) roots)=pgCells db sup sl sn turn over fb defb mb roots:=by simp[pgRaw,pgCells,pgRest,workV]
section
variable {db:Option Addr} {sup:Sup} {sl sn:Sl} {turn:Int} {over:Bool} {wk:List Value}
theorem qbF(h:sup.2.length=27):(pgRaw db sup sl sn turn over wk).size=33+wk.length:=by rw[pgRaw,size_toArray,zF,zF,qa2 h];rfl
theorem qek(u:sup.2.length=27)(j:Nat)(h:j<4:=by decide):(pgRaw db sup sl sn turn over wk)[29+j]?=([sl.v,sn.v,.i turn,.bool over]:List Value)[j]?:=by rw[pgRaw,List.getElem?_toArray,zV,yX (by rw[qa2 u];omega),qa2 u,xY,yY (by exact h)]
theorem qxX:(pgRaw db sup sl sn turn over wk)[0]?=some (.pointer db):=rfl
theorem qjV(y:sup.2.length=27)(n:Nat)(h:n<27:=by decide):(pgRaw db sup sl sn turn over wk)[n+2]?=some (.u (sup.2.getD n 0)):=by
 rw[pgRaw,List.getElem?_toArray,zV,yY (by rw[qa2 y];omega),List.getElem?_cons_succ]
 have:=qhg (q:=sup.1) (t:=sup.2) n
 rw[List.getElem?_toArray] at this;exact this
theorem qjj(h:sup.2.length=27):((pgRaw db sup sl sn turn over wk).toList.drop 5).take 24=(sup.2.drop 3).map (Value.int .u32):=by have u:((sup.2.drop 3).map (Value.int .u32)).length=24:=(by rw[zK,yB,h]);have e:(pgRaw db sup sl sn turn over wk).toList.drop 5=(sup.2.drop 3).map (Value.int .u32)++([sl.v,sn.v,.i turn,.bool over]++wk):=(by show List.drop 3 ((sup.2.map (Value.int .u32))++[_,_,_,_]++wk)=_;rw[zV,drop_append_of_le_length (by rw[zK,h];decide),xM]);rw[e,take_append_of_le_length (Nat.le_of_eq u.symm),zS (Nat.le_of_eq u)]
theorem qvU(y:sup.2.length=27){u:Int}:splice (pgRaw db sup sl sn turn over wk) 31 [.i u]=pgRaw db sup sl sn u over wk:=by
 have h:((Value.pointer db::supV sup.1 sup.2)++([sl.v,sn.v]:List Value)).length=31:=by rw[zF,qa2 y];rfl
 have:=qa8 (A:=(Value.pointer db::supV sup.1 sup.2)++([sl.v,sn.v]:List Value)) (X:=[.i turn]) (Y:=[.i u]) (Z:=.bool over::wk) rfl
 rw[h] at this;simpa[pgRaw] using this
theorem qqe(y:sup.2.length=27){u:List Value}(z:wk.length=u.length):splice (pgRaw db sup sl sn turn over wk) 33 u=pgRaw db sup sl sn turn over u:=by
 have h:((Value.pointer db::supV sup.1 sup.2)++([sl.v,sn.v,.i turn,.bool over]:List Value)).length=33:=by rw[zF,qa2 y];rfl
 have:=qa8 (A:=(Value.pointer db::supV sup.1 sup.2)++([sl.v,sn.v,.i turn,.bool over]:List Value)) (X:=wk) (Y:=u) (Z:=[]) z
 rw[h,xF,xF] at this;exact this
end
def insAll (l:List Int):List Int:=l.foldl (fun a n=>ins n a) []
theorem qrX(n:Int):∀l:List Int,(ins n l).length<=l.length+1
 | []=>by simp[ins]
 | a::l=>by
  have:=qrX n l
  simp only[ins];split;simp;split;simp;simp only[yH];omega
theorem qq6{i:Nat}(h:i<l.length):insAll (l.take (i+1))=ins l[i] (insAll (l.take i)):=by rw[insAll,yF h,foldl_append];rfl
theorem qmc(l:List Int):(insAll l).length<=l.length:=by
 unfold insAll;have:∀(l a:List Int),(l.foldl (fun a n=>ins n a) a).length<=a.length+l.length:=by
  intro l;induction l with
  | nil=>intro a;simp
  | cons x l ih=>
   intro a;have h:=ih (ins x a);have u:=qrX x a;rw[foldl_cons,yH];omega
 simpa using this l []
theorem qm4(l:List Int):∀a:List Int,a.Pairwise (· < ·)->(l.foldl (fun a n=>ins n a) a).Pairwise (· < ·):=by
 induction l with
 | nil=>intro a h;exact h
 | cons x l ih=>intro a h;exact ih _ (qdu h)
theorem qpv(l:List Int):∀a:List Int,(a++l).Nodup->(l.foldl (fun a n=>ins n a) a).Perm (a++l):=by
 induction l with
 | nil=>intro a h;rw[xF];exact .refl _
 | cons x l ih=>
  intro a h;have y:x∉a:=fun z=>by rw[yL] at h;exact h.2.2 x z x (by simp) rfl
  have A:=qcN y;have u:(ins x a++l).Perm (a++x::l):=(A.append_right l).trans (perm_middle.symm);exact (ih (ins x a) (u.nodup_iff.2 h)).trans u
theorem qaX(l:List Int):(insAll l).Pairwise (· < ·):=qm4 l [] .nil
theorem qgx(h:l.Nodup):(insAll l).Perm l:=by
 have:=qpv l [] (by simpa using h)
 simpa[insAll] using this
theorem qwd(h:l.Pairwise (· < ·)):l.Pairwise (·<=·):=h.imp Int.le_of_lt
theorem qbd(h:l.Pairwise (· < ·)):l.Nodup:=h.imp (fun h=>Int.ne_of_lt h)
theorem qdO{l':List Int}(h:l'.Perm l)(u:l'.Pairwise (·<=·))(y:l.Nodup):l'=insAll l:=
 qcu (h.trans (qgx y).symm) u (qwd (qaX l))
theorem qi2(h:l.Pairwise (· < ·)):insAll l=l:=(qdO (.refl _) (qwd h) (qbd h)).symm
theorem qdQ{x y:Int}:∀ {l:List Int},y∈ins x l↔y=x\/y∈l
 | []=>by simp[ins]
 | a::l=>by
  have:=qdQ (x:=x) (y:=y) (l:=l)
  simp only[ins];split;simp;split;rename_i h;subst h;simp;simp only[zG,this];constructor;rintro (h|h|h);exact .inr (.inl h);exact .inl h;exact .inr (.inr h);rintro (h|h|h);exact .inr (.inl h);exact .inl h;exact .inr (.inr h)
theorem qaS{y:Int}:y∈insAll l↔y∈l:=by
 have:∀(l a:List Int),y∈l.foldl (fun a n=>ins n a) a↔y∈a\/y∈l:=by
  intro l;induction l with
  | nil=>intro a;simp
  | cons x l ih=>
   intro a;rw[foldl_cons,ih,qdQ,zG];constructor;rintro ((h|h)|h);exact .inr (.inl h);exact .inl h;exact .inr (.inr h);rintro (h|h|h);exact .inl (.inr h);exact .inl (.inl h);exact .inr h
 rw[insAll,this];simp
def andThen (r:DiskM×Int) (f:DiskM->DiskM×Int):DiskM×Int:=if r.2=0 then f r.1 else r
def writesM:List (Int×List Int)->DiskM->DiskM×Int
 | [],D=>(D,0)
 | x::r,D=>andThen (writeM D x.1 x.2) (writesM r)
def spreadM (D:DiskM) (numbers pages:List Int):DiskM×Int:=
 if (bodiesV numbers pages).2≠0 then (D,(bodiesV numbers pages).2)
 else andThen (writesM ((pages.zip (bodiesV numbers pages).1).map fun x=>(x.1,sealV x.1 2 x.2)) D) syncM
def superP (s:Sup):Int×List Int:=(Int.tmod s.1 2,sealV (wrap .u32 (Int.tmod s.1 2)) 1 (superB s.1 s.2))
def sealM (D:DiskM) (s:Sup):DiskM×Int:=andThen (writeM D (superP s).1 (superP s).2) syncM
def allV (n:Nat):List Int:=(List.range (n-2)).map fun (i:Nat)=>(i:Int)+2
def fmtSup (n:Nat):Sup:=(1,[wrap .u32 n,2,wrap .u32 ((allV n).length-needP (allV n).length:Int)]++zs 24)
def formatM (D:DiskM):DiskM×Int:=
 andThen (writeM D 0 (zs 512)) fun D=>andThen (writeM D 1 (zs 512)) fun D=>andThen (syncM D) fun D=>
 andThen (spreadM D ((allV D.safe.length).drop (needP (allV D.safe.length).length)) ((allV D.safe.length).take (needP (allV D.safe.length).length))) fun D=>sealM D (fmtSup D.safe.length)
def walkM (D:DiskM) (u:Int):Nat->Int->List Int->List Int->Option (List Int×List Int)
 | 0,_,_,_=>none
 | f+1,a,h,named=>
  if a=0 then some (h,named) else
  if a<2\/a>=u\/a∈h then none else
  if (readV D a).2≠0 then none else
  if (openV a (readV D a).1).2.2≠0\/(openV a (readV D a).1).1≠2 then none else
  if (parseV (openV a (readV D a).1).2.1).2.2≠0 then none else
  walkM D u f (parseV (openV a (readV D a).1).2.1).1 (h++[a]) (named++(parseV (openV a (readV D a).1).2.1).2.1)
def namedB (h:Int) (lists:List Int):Int->List Int->Bool
 | _,[]=>true
 | u,n::r=>!(decide (n<=u)||decide (n>=h)||decide (n∈lists))&&namedB h lists n r
def loadM (D:DiskM) (s:Sup):Option (List Int×List Int):=
 match walkM D (s.2.getD 0 0) ((s.2.getD 0 0).toNat+1) (s.2.getD 1 0) [] [] with
 | none=>none
 | some x=>if namedB (s.2.getD 0 0) x.1 0 x.2=true/\(x.2.length:Int)=s.2.getD 2 0 then some x else none
def begunM (sup:Sup) (lists named:List Int) (turn:Int) (over:Bool) (h:List Int):PgM:=⟨sup,lists,named,turn,over,h,[],[],sup.2.drop 3⟩
def openM (D:DiskM):Option PgM×Int:=
 if (readV D 0).2≠0 then (none,(readV D 0).2) else
 if (readV D 1).2≠0 then (none,(readV D 1).2) else
 if (newestV (readV D 0).1 (readV D 1).1).2≠0 then (none,(newestV (readV D 0).1 (readV D 1).1).2) else
 if (newestV (readV D 0).1 (readV D 1).1).1.2.getD 0 0≠D.safe.length then (none,2) else
 match loadM D (newestV (readV D 0).1 (readV D 1).1).1 with
 | none=>(none,2)
 | some x=>(some (begunM (newestV (readV D 0).1 (readV D 1).1).1 x.1 x.2 1 false x.2),0)
def planM (M:PgM):Option (List Int×List Int):=
 if needP (M.free.length+(M.deferred++M.lists).length)>M.free.length then none
 else some (M.free.take (needP (M.free.length+(M.deferred++M.lists).length)),insAll ((M.deferred++M.lists)++M.free.drop (needP (M.free.length+(M.deferred++M.lists).length))))
def leafOf (fresh:List (Int×Int×List Int)) (n:Int):Int×List Int:=match look n fresh with|some q=>q.2|none=>(0,[])
def freshW (fresh:List (Int×Int×List Int)):List (Int×List Int):=(insAll (fresh.map (·.1))).map fun n=>(n,sealV n (leafOf fresh n).1 (leafOf fresh n).2)
def flushM (D:DiskM) (fresh:List (Int×Int×List Int)) (pages named:List Int) (next:Sup):DiskM×Int:=
 andThen (writesM (freshW fresh) D) fun D=>andThen (spreadM D named pages) fun D=>sealM D next
def nextS (M:PgM) (pages named:List Int):Sup:=(wrap .u64 (M.sup.1+1),[M.sup.2.getD 0 0,pages.headD 0,wrap .u32 named.length]++M.roots)
def overM:PgM:=begunM supZero [] [] 1 true []
def commitM (D:DiskM) (M:PgM):(DiskM×PgM)×Int:=
 if M.over then ((D,M),7) else
 if M.fresh=[]/\M.deferred=[]/\M.roots=M.sup.2.drop 3 then ((D,M),0) else
 match planM M with
 | none=>((D,M),6)
 | some x=>
  if (flushM D M.fresh x.1 x.2 (nextS M x.1 x.2)).2≠0 then (((flushM D M.fresh x.1 x.2 (nextS M x.1 x.2)).1,overM),(flushM D M.fresh x.1 x.2 (nextS M x.1 x.2)).2)
  else (((flushM D M.fresh x.1 x.2 (nextS M x.1 x.2)).1,begunM (nextS M x.1 x.2) x.1 x.2 (M.turn+1) false x.2),0)
def beginTail (pb:Nat) (x y:Option Addr) (mb:Nat) (vs:List Value) (K:Unit->WP) (w:World):Prop:=
 runQ [Ty1.raw] (fun (w':Go.World)=>(Instr.build WKT (#[(0,Value.pointer x),(1,Value.pointer y),(2,Value.map (some mb)),(3,Value.agg (List.toArray vs))])).run prog w') w<|
 fun (u:List Value)=>
 nn (pW pb)<|
 fun (A:Addr)=>
 chk (List.length u=27)<|
 st ({ block:=A.block,off:=A.off+33 }) u w<|
 fun (C:World)=>
 nn (pW pb)<|
 fun (E:Addr)=>
 ld Cell.slice ({ block:=E.block,off:=E.off+30 }) C<|
 fun (G:Sl)=>
 loop (Int) (fun (J:Int->WP) (z:Int) (h:World)=>
  cond (decide (z<(↑G.len:Int)))
   (idx G z 1<|
   fun (O:Addr)=>
   ld (Cell.int IntKind.u32) O h<|
   fun (R:Int)=>
   nn (pW pb)<|
   fun (I:Addr)=>
   ld Cell.ptr ({ block:=I.block,off:=I.off+33 }) h<|
   fun (U:Option Addr)=>
   cW 116 ([Value.pointer U,Value.int IntKind.u32 R]) ([Ty1.one Cell.bool]) h<|
   fun (aa:Bool) (V:World)=>
   J (wrap IntKind.i64 (z+1)) V)
   (K () h)) 0 C
theorem qsr{w w3:World}{pb fb defb mb:Nat}{sl sn:Sl}{turn:Int}{lists named:List Int}{F1 F2:List Nat}(O:sup.2.length=27)(hw:wk.length=27)(hX:∀b∈X,b<w.heap.size/\b≠pb)(C:Rd (X++[pb]) w sl lists)(z:Rd (X++[pb]) w sn named)(hn:named.length<=100000)(ho:Own [pb] w w3 [(pb,.cells (pgRaw db sup sl sn turn over wk) PGT (0,0))])(h1:PoolAt w3 fb F1 [])(h2:PoolAt w3 defb F2 [])(h3:MapS u32V w3 mb [])(n1:∀b∈F1,w.heap.size<=b)(n2:∀b∈F2,w.heap.size<=b)(n3:w.heap.size<=mb)(az:pb<w.heap.size)(ab:mb∉F1)(ac:mb∉F2)(ad:∀b∈F1,b∉F2)(hk:∀F' w',PagerAt w' X pb db F' (begunM sup lists named turn over (insAll named))->Fr [pb] w w'->(∀b∈F',b=pb\/w.heap.size<=b)->K () w'): beginTail pb (pW fb) (pW defb) mb ((sup.2.drop 3).map (Value.int .u32)) K w3:=by
 have y:(sup.2.drop 3).length=24:=(by rw[yB,O]);unfold beginTail;refine qaQ (ts:=[Ty1.raw]) (workV (pW fb) (pW defb) (some mb) (sup.2.drop 3)) (qsw y w3)<|qae<|qaN (qav y) ?_;have R:(workV (pW fb) (pW defb) (some mb) (sup.2.drop 3)).all Value.oneCell'=true:=by rw[all_eq_true];intro v hv;simp only[workV,zD,zG,mem_map,xV,or_false] at hv;rcases hv with (rfl|rfl|rfl)|⟨x,_,rfl⟩<;>rfl
 refine oG ho 0 rfl (pgCells db sup sl sn turn over fb defb mb (sup.2.drop 3)) (by rw[<- qbE];exact qqe O (by rw[hw,qav y])) R (by rw[qbF O,qav y,hw];exact zO rfl) fun w4 E f4=>?_;have I:∀b∈F1,b≠pb:=fun b u e=>by have:=n1 b u;omega
 have J:∀b∈F2,b≠pb:=fun b u e=>by have:=n2 b u;omega
 have hS:∀b∈pb::mb::(F1++F2),b∈[pb]\/w.heap.size<=b:=fun b u=>by simp only[zG,zD] at u;rcases u with rfl|rfl|u|u;exact .inl (by simp);exact .inr n3;exact .inr (n1 b u);exact .inr (n2 b u)
 have hx:PgX w4 X pb db (begunM sup lists named turn over []) fb defb mb sl sn F1 F2 []:={
  cell:=E.at (i:=0) rfl
  free:=h1.frame f4 fun b u=>by simpa using I b u
  deferred:=h2.frame f4 fun b u=>by simpa using J b u
  map:=h3.frame f4 (by simp;omega)
  fresh:=rfl
  rows:=by have hf:Fr (X++[pb]) w w4:=E.fr.mono fun b u _=>zI _ u;exact⟨C.frame hf (qna hS),z.frame hf (qna hS),fun e he=>by cases he⟩
  xlt:=fun b u=>yC (hX b u).1 E.fr.size
  xsep:=qv0 (fun b u=>(hX b u).1) (fun b u=>by simpa using (hX b u).2) hS
  sep:=⟨by omega,fun b u=>⟨I b u,fun e=>ab (e▸u),ad b u⟩,fun b u=>⟨J b u,fun e=>ac (e▸u)⟩⟩
  suplen:=O
  rootlen:=y }
 refine qae (qai hx.cell sn (qvP O) ?_);have aC:=z.1;refine qah (fun x w'=>∃(i:Nat) (G:List Nat),x=i/\i<=named.length/\PgX w' X pb db (begunM sup lists named turn over (insAll (named.take i))) fb defb mb sl sn G F2 []/\Fr [pb] w w'/\∀b∈G,w.heap.size<=b) (fun x _=>((named.length:Int)-x).toNat)
  ⟨0,F1,rfl,by omega,hx,E.fr,n1⟩ ?_
 rintro x w5 ⟨i,G,rfl,hi,A,f5,n5⟩ Z hZ;apply qaa<;>intro hc;have U:i<named.length:=(by have:=zC hc;omega);refine Rd.at A.rows.named i rfl (zA U)<|qae (qai A.cell (pW fb) (qe3 O) ?_);have aj:=qmc (named.take i);rw[yK] at aj;refine qlL A.free (by show (insAll (named.take i)).length<=_;omega) fun V w6 ak f6 n6=>?_;have al:=A.setFree f6 ak n6;rw[wi' _ (by omega)];refine hZ _ _ ⟨i+1,V,by simp,by omega,?_,f5.trans' f6 (fun b u=>.inr (n5 b u)),fun b u=>?_⟩ (by omega);rw[qq6 U];exact al;rcases n6 b u with h|h;exact n5 b h;exact zL f5.size h;have:i=named.length:=(by have:=zB hc;omega);subst this;rw[xX] at A;refine hk _ w5 ⟨fb,defb,mb,sl,sn,G,F2,[],rfl,A⟩ f5 fun b u=>?_;simp only[zG,zD] at u;rcases u with rfl|rfl|u|u;exact .inl rfl;exact .inr n3;exact .inr (n5 b u);exact .inr (n2 b u)
theorem qfO{w:World}{pb:Nat}{sl sn:Sl}{turn:Int}{lists named:List Int}(hc:w.heap[pb]?=some (.cells (pgRaw db sup sl sn turn over wk) PGT (0,0)))(hs:sup.2.length=27)(hw:wk.length=27)(ht:0<=turn/\turn<=1000000000)(hX:∀b∈X,b<w.heap.size/\b≠pb)(hlists:Rd (X++[pb]) w sl lists)(hnamed:Rd (X++[pb]) w sn named)(hn:named.length<=100000)(hk:∀F' w',PagerAt w' X pb db F' (begunM sup lists named (turn+1) over (insAll named))->Fr [pb] w w'->(∀b∈F',b=pb\/w.heap.size<=b)->K () w'): cW 81 [.pointer (pW pb)] [] w K:=by
 have hpb:=qab hc;have ho:Own [pb] w w [(pb,.cells (pgRaw db sup sl sn turn over wk) PGT (0,0))]:=⟨by simpa using hc,by simp,.refl _ _,by simp⟩;refine qhQ (p:=pW pb) ?_;unfold qeh;refine qae (oA (c:=.i) ho 0 rfl turn (qek hs 2) ?_);rw[wi' _ (by omega)];refine qae (oG ho 0 rfl (pgRaw db sup sl sn (turn+1) over wk) (qvU hs) rfl (by rw[qbF hs,hw];exact zO rfl) fun w1 ho f1=>?_);have hrl:((sup.2.drop 3).map (Value.int .u32)).length=24:=(by rw[zK,yB,hs]);have hcA:∀ {w':World},w'.heap[pb]?=some (.cells (pgRaw db sup sl sn (turn+1) over wk) PGT (0,0))->cellsAt w' ⟨pb,5,none⟩ 0 ((sup.2.drop 3).map (Value.int .u32)):=fun h=>qbi h _ 5 0 (by rw[hrl];exact qjj hs);have tail:=fun {w3:World} {fb defb mb:Nat} {F1 F2:List Nat}=>qsr (w:=w) (w3:=w3) (X:=X) (pb:=pb) (fb:=fb) (defb:=defb) (mb:=mb) (F1:=F1) (F2:=F2) hs hw hX hlists hnamed hn (K:=K) (turn:=turn+1) (over:=over) (wk:=wk) (db:=db);have hs1:=f1.size;have ho':=ho.drew;generalize w1.drew=wd at ho';have hld:∀ {K':List Value->Prop},K' ((sup.2.drop 3).map (Value.int .u32))->ldV 24 ⟨pb,5,none⟩ wd K':=fun k=>qa0 (ho'.at (i:=0) rfl) _ hrl (qjj hs) k;have hsd:w.heap.size<=wd.heap.size:=ho'.fr.size;have fin:∀ {w3:World} {fb defb mb:Nat} {F1 F2:List Nat},Fr [] wd w3->PoolAt w3 fb F1 []->PoolAt w3 defb F2 []->MapS u32V w3 mb []->(∀b∈F1,wd.heap.size<=b)->(∀b∈F2,wd.heap.size<=b)->wd.heap.size<=mb->mb∉F1->mb∉F2->(∀b∈F1,b∉F2)->
   beginTail pb (pW fb) (pW defb) mb ((sup.2.drop 3).map (Value.int .u32)) K w3:=fun f p1 p2 p3 n1 n2 n3 s1 s2 s3=>
  tail (ho'.frame0 f) p1 p2 p3 (fun b hb=>zL hsd (n1 b hb)) (fun b hb=>zL hsd (n2 b hb)) (zL hsd n3) hpb s1 s2 s3 hk
 refine⟨?_,?_,?_⟩;refine qae ?_;simp only[Addr.add_mk];refine hld<|qe9 fun fb F1 w2 p1 f2 n1=>qaj (hcA ((ho'.frame0 f2).at (i:=0) rfl))<|qe9 fun defb F2 w3 p2 f3 n2=>qaj (hcA ((ho'.frame0 (f2.trans f3)).at (i:=0) rfl))<|oB (ho'.frame0 (f2.trans f3)) fun mb w4 e4 f4 ho4=>qaj (hcA (ho4.at (i:=1) rfl))<|fin ((f2.trans f3).trans f4) (p1.frame (f3.trans f4) (by simp)) (p2.frame f4 (by simp)) (.empty (ho4.at (i:=0) rfl)) n1 (fun b hb=>zL f2.size (n2 b hb)) (by rw[e4];exact (f2.trans f3).size) (fun hm=>?_) (fun hm=>?_) (fun b hb hb2=>?_)
 have:=(p1.frame f3 (by simp)).lt mb hm;omega
 have:=p2.lt mb hm;omega
 have:=p1.lt b hb;have:=n2 b hb2;omega
 refine qae ?_;simp only[Addr.add_mk];refine hld<|qe9 fun fb F1 w2 p1 f2 n1=>qaj (hcA ((ho'.frame0 f2).at (i:=0) rfl))<|oB (ho'.frame0 f2) fun mb w3 e3 f3 ho3=>qaj (hcA (ho3.at (i:=1) rfl))<|qe9 fun defb F2 w4 p2 f4 n2=>?_;have ho4:=ho3.frame0 f4;refine qaj (hcA (ho4.at (i:=1) rfl)) ?_;have hmb:=qab (ho3.at (i:=0) rfl);refine fin ((f2.trans f3).trans f4) (p1.frame (f3.trans f4) (by simp)) p2 (.empty (ho4.at (i:=0) rfl)) n1 (fun b hb=>zL (f2.trans f3).size (n2 b hb)) (by rw[e3];exact f2.size) (fun hm=>?_) (fun hm=>?_) (fun b hb hb2=>?_)
 have:=p1.lt mb hm;omega
 have:=n2 mb hm;omega
 have:=(p1.frame f3 (by simp)).lt b hb;have:=n2 b hb2;omega
 refine qae ?_;simp only[Addr.add_mk];refine hld<|oB ho' fun mb w2 e2 f2 ho2=>qaj (hcA (ho2.at (i:=1) rfl)) ?_;have hmb:=qab (ho2.at (i:=0) rfl);refine qe9 fun fb F1 w3 p1 f3 n1=>?_;have ho3:=ho2.frame0 f3;refine qaj (hcA (ho3.at (i:=1) rfl))<|qe9 fun defb F2 w4 p2 f4 n2=>?_;have ho4:=ho3.frame0 f4;refine qaj (hcA (ho4.at (i:=1) rfl))<|fin ((f2.trans f3).trans f4) (p1.frame f4 (by simp)) p2 (.empty (ho4.at (i:=0) rfl)) (fun b hb=>zL f2.size (n1 b hb)) (fun b hb=>zL (f2.trans f3).size (n2 b hb)) (by rw[e2];exact zM _) (fun hm=>?_) (fun hm=>?_) (fun b hb hb2=>?_)
 have:=n1 mb hm;omega
 have:=n2 mb hm;have:=f3.size;omega
 have:=p1.lt b hb;have:=n2 b hb2;omega
end
end Go.Proofs.YtmmkegapckbomaaGreatDoor
