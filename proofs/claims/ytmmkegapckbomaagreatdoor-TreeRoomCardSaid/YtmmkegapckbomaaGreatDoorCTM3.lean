/- Texts SrtC, SrtD, SrtE, SrtF, SrtG, SrtH, PlE, RfA, PlF, PgA, PgB, PgC, PgD, TrA, ReA, FlA, FlB, FlC, SuA, SuB, SuC, PrA, PrB, PrC, PrD, PrE, DkA, DkB, DkC, DkD, FlD, PgE, TrB, LwL, PrF, PrG, PmA, PrH: contracts of the program's functions, one behind the other. Conditions: those that stand in each line. -/
import Derived.Test.YtmmkegapckbomaaGreatDoorCTM2
import Derived.Sort.LotC
import Derived.Sort.LotA
import Derived.Sort.LotD1
import Derived.Laws.Bits64b
import Derived.Laws.Closers25b
import Derived.KernelRfl
import Derived.Sort.LotD2
import Derived.Sort.LotB
import Derived.Sort.LotD3
import Derived.Test.YtmmkegapckbomaaGreatDoorCTM1
import Derived.Shelf.Bytes.SlCountOne
import Derived.Laws.CopyRow
import Derived.Laws.IdiomCopy
import Derived.Test.YtmmkegapckbomaaGreatDoorTie
import Derived.LaidMore
import Derived.MakeChecks
import Derived.OpenShut
import Derived.ProofKit
set_option linter.unusedVariables false
set_option linter.unusedSimpArgs false
section
namespace Go.Proofs.YtmmkegapckbomaaGreatDoor
open Go Go.Pt Go.Sort List
attribute [local irreducible] ld ldA ldV fld fldA newZ st new idx idxS idxA slc slcS slcP mkS chk nn call callV inv run runQ runU join loop held ext rng undefer s2a nxt ent IntKind.wrap
section
variable {blk:Nat} {T:ArrT} {w0 w:World} {d:Array Int} {len cap:Nat}
theorem qgf{p:Int->Bool}{J i0:Nat}{E:Int->WP}{t:Int->World->(Bool->WP)->Prop}(h:Arr blk T w0 w d)(hJ:J<=1152921504606846976)(hi0:i0<=J+2)(hT:∀(x:Nat) w Y,i0<=x->Arr blk T w0 w d->(∀w',Arr blk T w0 w' d->Y (decide (x<=J)&&p d[x]!) w')->t x w Y)(hE:∀w',Arr blk T w0 w' d->E (scanUp p d J i0:Nat) w'): loop Int (fun X x w=>join Bool (fun Y=>t x w Y) fun b w'=>bif b then X (IntKind.i64.wrap (x+1)) w' else E x w') i0 w:=by refine qaj (fun x w'=>∃i:Nat,x=i/\i0<=i/\i<=J+2/\Arr blk T w0 w' d/\scanUp p d J i=scanUp p d J i0) (fun x _=>((J:Int)+2-x).toNat) ⟨i0,rfl,zM _,hi0,h,rfl⟩ ?_;rintro x w1 ⟨i,rfl,hi,hiJ,h,he⟩ X hX;refine qaf (fun c w'=>c=(decide (i<=J)&&p d[i]!)/\Arr blk T w0 w' d) (hT i w1 _ hi h fun w' h=>⟨rfl,h⟩) ?_;rintro c w2 ⟨rfl,h⟩;have hd:=scanUp.eq_1 p d J i;refine qaa (fun hc=>?_) (fun hc=>?_);have hc1:=hc;simp only[yA,decide_eq_true_eq] at hc;rw[if_pos (by simpa using hc1)] at hd;rw[wi _ (by omega)];exact hX _ _ ⟨i+1,by omega,by omega,by omega,h,hd.symm.trans he⟩ (by omega);rw[if_neg (by simpa using hc)] at hd;rw[show (i:Int)=(scanUp p d J i0:Nat) by rw[<- he,hd]];exact hE _ h
theorem qed{p:Int->Bool}{i j0:Nat}{E:Int->WP}{t:Int->World->(Bool->WP)->Prop}(h:Arr blk T w0 w d)(hJ:j0<=1152921504606846976)(hi:1<=i)(hT:∀(x:Nat) w Y,x<=j0->Arr blk T w0 w d->(∀w',Arr blk T w0 w' d->Y (decide (i<=x)&&p d[x]!) w')->t x w Y)(hE:∀w',Arr blk T w0 w' d->E (scanDown p d i j0:Nat) w'): loop Int (fun X x w=>join Bool (fun Y=>t x w Y) fun b w'=>bif b then X (IntKind.i64.wrap (x-1)) w' else E x w') j0 w:=by
 refine qaj (fun x w'=>∃j:Nat,x=j/\j<=j0/\Arr blk T w0 w' d/\scanDown p d i j=scanDown p d i j0) (fun x _=>x.toNat) ⟨j0,rfl,zM _,h,rfl⟩ ?_;rintro x w1 ⟨j,rfl,hj,h,he⟩ X hX;refine qaf (fun c w'=>c=(decide (i<=j)&&p d[j]!)/\Arr blk T w0 w' d) (hT j w1 _ hj h fun w' h=>⟨rfl,h⟩) ?_;rintro c w2 ⟨rfl,h⟩;refine qaa (fun hc=>?_) (fun hc=>?_);have hc1:=hc;simp only[yA,decide_eq_true_eq] at hc;obtain⟨k,rfl⟩:∃k,j=k+1:=⟨j-1,by omega⟩;rw[wi _ (by omega)];refine hX _ _ ⟨k,by omega,by omega,h,?_⟩ (by omega);rw[<- he,scanDown,if_pos (by simpa using hc1)];rw[show (j:Int)=(scanDown p d i j0:Nat) by
  rw[<- he];cases j with
  | zero=>rfl
  | succ k=>rw[scanDown,if_neg (by simpa using hc)]]
 exact hE _ h
theorem qvp{a b pivot:Nat}{K:Int×Bool->WP}(h:Arr blk T w0 w d)(hap:a<=pivot)(hpb:pivot<b)(hb:b<=len)(hl:len<=d.size/\len<=1152921504606846976)(hk:∀w',Arr blk T w0 w' (Sort.partition ltInt d a b pivot).2.2->K (((Sort.partition ltInt d a b pivot).1:Nat),(Sort.partition ltInt d a b pivot).2.1) w'): cW 196 [.slice (pW blk) len cap,.i a,.i b,.i pivot] [.one .i,.one .bool] w K:=by
 refine qef (data:=⟨pW blk,len,cap⟩) ?_;unfold qcf;revert hk;unfold Sort.partition;dsimp only;intro hk;refine h.drew.swap a pivot rfl rfl (by omega) (by omega) (by omega) fun w1 h=>?_;have hsz:(swp d a pivot).size=d.size:=Sort.size_swp _ _ _;generalize swp d a pivot=d1 at h hk hsz;have eb:IntKind.i64.wrap ((b:Int)-1)=((b-1:Nat):Int):=(by rw[wi _ (by omega)];omega);rw[eb,wi ((a:Int)+1) (by omega),show (a:Int)+1=((a+1:Nat):Int) by omega];refine qgf (p:=fun x=>ltInt x d1[a]!) (J:=b-1) (i0:=a+1) h (by omega) (by omega) (fun x w Y hx h hY=>?_) fun w2 h=>?_;refine qaa (fun hc=>?_) (fun hc=>?_);have hc':x<=b-1:=(by have:=zC hc;omega);refine h.drew.rd x rfl (by omega) (by omega) ?_;refine h.drew.rd a rfl (by omega) (by omega) ?_;refine qa6 ?_
 have:=hY _ h.drew
 simpa[hc'] using this;have hc':¬x<=b-1:=by have:=zB hc;omega
 have:=hY _ h.drew
 simpa[hc'] using this;have hu1:=scanUp_ge (fun x=>ltInt x d1[a]!) d1 (b-1) (a+1);generalize scanUp (fun x=>ltInt x d1[a]!) d1 (b-1) (a+1)=i at hk hu1⊢;refine qed (p:=fun x=>!ltInt x d1[a]!) (i:=i) (j0:=b-1) h (by omega) (by omega) (fun x w Y hx h hY=>?_) fun w3 h=>?_;refine qaa (fun hc=>?_) (fun hc=>?_);have hc':i<=x:=(by have:=zC hc;omega);refine h.drew.rd x rfl (by omega) (by omega) ?_;refine h.drew.rd a rfl (by omega) (by omega) ?_;refine qa6 ?_
 have:=hY _ h.drew
 simpa[hc'] using this;have hc':¬i<=x:=by have:=zB hc;omega
 have:=hY _ h.drew
 simpa[hc'] using this;have hv1:=scanDown_le (fun x=>!ltInt x d1[a]!) d1 i (b-1);generalize scanDown (fun x=>!ltInt x d1[a]!) d1 i (b-1)=j at hk hv1⊢;refine qaa (fun hc=>?_) (fun hc=>?_);have hc':i>j:=(by have:=zC hc;omega);simp only[if_pos hc'] at hk;exact h.drew.swap j a rfl rfl (by omega) (by omega) (by omega) fun w4 h=>hk _ h;have hc':¬i>j:=(by have:=zB hc;omega);simp only[if_neg hc'] at hk;refine h.drew.swap i j rfl rfl (by omega) (by omega) (by omega) fun w4 h=>?_;have hsz2:(swp d1 i j).size=d1.size:=Sort.size_swp _ _ _;generalize swp d1 i j=d2 at h hk hsz2;rw[wi ((i:Int)+1) (by omega),wi ((j:Int)-1) (by omega)];refine qaj (fun s w'=>∃(i' j':Nat) (d':Array Int),s=((i':Int),(j':Int))/\a+1<=i'/\i'<=b/\j'<=b-1/\i'<=j'+2/\Arr blk T w0 w' d'/\d'.size=d.size/\partLoop ltInt a i' j' d'=partLoop ltInt a (i+1) (j-1) d2) (fun s _=>(s.2+2-s.1).toNat)
  ⟨i+1,j-1,d2,qbk (by omega) (by omega),by omega,by omega,by omega,by omega,h,by omega,rfl⟩ ?_
 rintro s w5 ⟨i',j',d3,rfl,hi1,hi2,hj1,hij,h,hs3,he⟩ X hX;rw[partLoop_eq ltInt a i' j' d3] at he;dsimp only;refine qgf (p:=fun x=>ltInt x d3[a]!) (J:=j') (i0:=i') h (by omega) (by omega) (fun x w Y hx h hY=>?_) fun w6 h=>?_;refine qaa (fun hc=>?_) (fun hc=>?_);have hc':x<=j':=(by have:=zC hc;omega);refine h.drew.rd x rfl (by omega) (by omega) ?_;refine h.drew.rd a rfl (by omega) (by omega) ?_;refine qa6 ?_
 have:=hY _ h.drew
 simpa[hc'] using this;have hc':¬x<=j':=by have:=zB hc;omega
 have:=hY _ h.drew
 simpa[hc'] using this;have hu1:=scanUp_ge (fun x=>ltInt x d3[a]!) d3 j' i';generalize scanUp (fun x=>ltInt x d3[a]!) d3 j' i'=i2 at he hu1⊢;refine qed (p:=fun x=>!ltInt x d3[a]!) (i:=i2) (j0:=j') h (by omega) (by omega) (fun x w Y hx h hY=>?_) fun w7 h=>?_;refine qaa (fun hc=>?_) (fun hc=>?_);have hc':i2<=x:=(by have:=zC hc;omega);refine h.drew.rd x rfl (by omega) (by omega) ?_;refine h.drew.rd a rfl (by omega) (by omega) ?_;refine qa6 ?_
 have:=hY _ h.drew
 simpa[hc'] using this;have hc':¬i2<=x:=by have:=zB hc;omega
 have:=hY _ h.drew
 simpa[hc'] using this;have hv1:=scanDown_le (fun x=>!ltInt x d3[a]!) d3 i2 j';generalize scanDown (fun x=>!ltInt x d3[a]!) d3 i2 j'=j2 at he hv1⊢;refine qaa (fun hc=>?_) (fun hc=>?_);have hc':i2>j2:=(by have:=zC hc;omega);rw[if_pos hc'] at he;rw[<- he] at hk;exact h.drew.swap j2 a rfl rfl (by omega) (by omega) (by omega) fun w4 h=>hk _ h;have hc':¬i2>j2:=(by have:=zB hc;omega);rw[if_neg hc'] at he;refine h.drew.swap i2 j2 rfl rfl (by omega) (by omega) (by omega) fun w4 h=>?_;rw[wi ((i2:Int)+1) (by omega),wi ((j2:Int)-1) (by omega)];exact hX _ _ ⟨i2+1,j2-1,_,qbk (by omega) (by omega),by omega,by omega,by omega,by omega,h,by rw[Sort.size_swp];exact hs3,he⟩ (by dsimp only;omega)
theorem qsD{a b pivot:Nat}{K:Int->WP}(h:Arr blk T w0 w d)(hap:a<=pivot)(hpb:pivot<b)(hb:b<=len)(hl:len<=d.size/\len<=1152921504606846976)(hk:∀w',Arr blk T w0 w' (Sort.partitionEqual ltInt d a b pivot).2->K ((Sort.partitionEqual ltInt d a b pivot).1:Nat) w'): cW 195 [.slice (pW blk) len cap,.i a,.i b,.i pivot] [.one .i] w K:=by
 refine qc6 (data:=⟨pW blk,len,cap⟩) ?_;unfold qbz;revert hk;unfold Sort.partitionEqual;intro hk;refine h.drew.swap a pivot rfl rfl (by omega) (by omega) (by omega) fun w1 h=>?_;have hsz:(swp d a pivot).size=d.size:=Sort.size_swp _ _ _;generalize swp d a pivot=d2 at h hk hsz;rw[wi ((a:Int)+1) (by omega),wi ((b:Int)-1) (by omega)];refine qaj (fun s w'=>∃(i' j':Nat) (d':Array Int),s=((i':Int),(j':Int))/\a+1<=i'/\i'<=b/\j'<=b-1/\i'<=j'+2/\Arr blk T w0 w' d'/\d'.size=d.size/\partEqLoop ltInt a i' j' d'=partEqLoop ltInt a (a+1) (b-1) d2) (fun s _=>(s.2+2-s.1).toNat)
  ⟨a+1,b-1,d2,qbk (by omega) (by omega),by omega,by omega,by omega,by omega,h,by omega,rfl⟩ ?_
 rintro s w5 ⟨i',j',d3,rfl,hi1,hi2,hj1,hij,h,hs3,he⟩ X hX;rw[partEqLoop_eq ltInt a i' j' d3] at he;dsimp only;refine qgf (p:=fun x=>!ltInt d3[a]! x) (J:=j') (i0:=i') h (by omega) (by omega) (fun x w Y hx h hY=>?_) fun w6 h=>?_;refine qaa (fun hc=>?_) (fun hc=>?_);have hc':x<=j':=(by have:=zC hc;omega);refine h.drew.rd a rfl (by omega) (by omega) ?_;refine h.drew.rd x rfl (by omega) (by omega) ?_;refine qa6 ?_
 have:=hY _ h.drew
 simpa[hc'] using this;have hc':¬x<=j':=by have:=zB hc;omega
 have:=hY _ h.drew
 simpa[hc'] using this;have hu1:=scanUp_ge (fun x=>!ltInt d3[a]! x) d3 j' i';generalize scanUp (fun x=>!ltInt d3[a]! x) d3 j' i'=i2 at he hu1⊢;refine qed (p:=fun x=>ltInt d3[a]! x) (i:=i2) (j0:=j') h (by omega) (by omega) (fun x w Y hx h hY=>?_) fun w7 h=>?_;refine qaa (fun hc=>?_) (fun hc=>?_);have hc':i2<=x:=(by have:=zC hc;omega);refine h.drew.rd a rfl (by omega) (by omega) ?_;refine h.drew.rd x rfl (by omega) (by omega) ?_;refine qa6 ?_
 have:=hY _ h.drew
 simpa[hc'] using this;have hc':¬i2<=x:=by have:=zB hc;omega
 have:=hY _ h.drew
 simpa[hc'] using this;have hv1:=scanDown_le (fun x=>ltInt d3[a]! x) d3 i2 j';generalize scanDown (fun x=>ltInt d3[a]! x) d3 i2 j'=j2 at he hv1⊢;refine qaa (fun hc=>?_) (fun hc=>?_);have hc':i2>j2:=(by have:=zC hc;omega);rw[if_pos hc'] at he;rw[<- he] at hk;exact hk _ h;have hc':¬i2>j2:=(by have:=zB hc;omega);rw[if_neg hc'] at he;refine h.drew.swap i2 j2 rfl rfl (by omega) (by omega) (by omega) fun w4 h=>?_;rw[wi ((i2:Int)+1) (by omega),wi ((j2:Int)-1) (by omega)];exact hX _ _ ⟨i2+1,j2-1,_,qbk (by omega) (by omega),by omega,by omega,by omega,by omega,h,by rw[Sort.size_swp];exact hs3,he⟩ (by dsimp only;omega)
end
section
section
variable {blk:Nat} {T:ArrT} {w0 w:World} {d:Array Int} {len cap:Nat}
theorem qui{a b:Nat}{K:Bool->WP}(h:Arr blk T w0 w d)(aw:a<b)(hb:b<=len)(hl:len<=d.size/\len<=1152921504606846976)(R:∀w',Arr blk T w0 w' (Sort.partialInsertionSort ltInt d a b).1->K (Sort.partialInsertionSort ltInt d a b).2 w'): cW 193 [.slice (pW blk) len cap,.i a,.i b] [.one .bool] w K:=by
 refine qb6 (data:=⟨pW blk,len,cap⟩) ?_;unfold qa7;revert R;unfold Sort.partialInsertionSort;intro R;rw[wi ((a:Int)+1) (by omega)];refine qaj (fun x w'=>∃(i s:Nat) (z:Array Int),x=((i:Int),5-(s:Int))/\s<=5/\a+1<=i/\i<=b/\Arr blk T w0 w' z/\z.size=d.size/\partialIns ltInt a b s i z=partialIns ltInt a b 5 (a+1) d) (fun x _=>(5-x.2).toNat)
  ⟨a+1,5,d,qbk (by omega) (by omega),by omega,by omega,by omega,h,rfl,rfl⟩ ?_
 rintro x w1 ⟨i,s,G,rfl,ax,ak,al,h,ay,y⟩ X hX;dsimp only;refine qaa (fun u=>?_) (fun u=>?_);obtain⟨s,rfl⟩:∃k,s=k+1:=⟨s-1,by have:=zC u;omega⟩;rw[partialIns_succ] at y;refine qaf (fun x w'=>∃(i:Nat) (z:Array Int),x=i/\a+1<=i/\i<=b/\Arr blk T w0 w' z/\z.size=d.size/\partialIns ltInt a b s i z=partialIns ltInt a b 5 (a+1) d) ?_ ?_;refine qaj (fun x w'=>∃k:Nat,x=k/\a+1<=k/\k<=b/\Arr blk T w0 w' G/\scanSorted ltInt G b k=scanSorted ltInt G b i) (fun x _=>((b:Int)-x).toNat) ⟨i,rfl,ak,al,h,rfl⟩ ?_;rintro x w2 ⟨k,rfl,I,J,h,ag⟩ Z hZ;have hd:=scanSorted.eq_1 ltInt G b k;refine qaf (fun c w'=>c=(decide (k<b)&&!ltInt G[k]! G[k-1]!)/\Arr blk T w0 w' G) ?_ ?_;refine qaa (fun u=>?_) (fun u=>?_);have U:k<b:=(by have:=zC u;omega);refine h.drew.rd k rfl (by omega) (by omega) ?_;refine h.drew.rd (k-1) (by rw[wi _ (by omega)];omega) (by omega) (by omega) ?_;refine qa6 ?_;exact⟨by simp[U],h.drew⟩;have U:¬k<b:=(by have:=zB u;omega);exact⟨by simp[U],h.drew⟩;rintro c w3 ⟨rfl,h⟩;refine qaa (fun u=>?_) (fun u=>?_);have am:=u;simp only[yA,decide_eq_true_eq] at u;rw[if_pos (by simpa using am)] at hd;rw[wi _ (by omega)];exact hZ _ _ ⟨k+1,by omega,by omega,by omega,h,hd.symm.trans ag⟩ (by omega);rw[if_neg (by simpa using u)] at hd;rw[show scanSorted ltInt G b i=k by rw[<- ag,hd]] at y;unfold fixUp fixDown at y;refine qaa (fun u=>?_) (fun u=>?_);have V:k=b:=(by have:=yO.1 u;omega);rw[if_pos V] at y;rw[<- y] at R;exact R _ h;have V:¬k=b:=fun e=>by rw[e] at u;simp at u
 rw[if_neg V] at y;rw[wi ((b:Int)-a) (by omega)];refine qaa (fun u=>?_) (fun u=>?_);have aa:b-a<50:=(by have:=zC u;omega);rw[if_pos aa] at y;rw[<- y] at R;exact R _ h;have aa:¬b-a<50:=(by have:=zB u;omega);rw[if_neg aa] at y;refine h.drew.swap k (k-1) rfl (by rw[wi _ (by omega)];omega) (by omega) (by omega) (by omega) fun w4 h=>?_;have ah:(swp G k (k-1)).size=G.size:=Sort.size_swp _ _ _;generalize swp G k (k-1)=E at h y ah;refine qaf (fun _ w'=>Arr blk T w0 w' (if k-a>=2 then shiftDown ltInt (k-1) E else E)/\(if k-a>=2 then shiftDown ltInt (k-1) E else E).size=E.size) ?_ ?_;rw[wi ((k:Int)-a) (by omega)];refine qaa (fun u=>?_) (fun u=>?_);have ab:k-a>=2:=(by have:=zC u;omega);simp only[if_pos ab];rw[wi ((k:Int)-1) (by omega)];refine qaj (fun x w'=>∃(j:Nat) (z:Array Int),x=j/\j<=k-1/\Arr blk T w0 w' z/\z.size=E.size/\shiftDown ltInt j z=shiftDown ltInt (k-1) E) (fun x _=>x.toNat) ⟨k-1,E,by omega,by omega,h,rfl,rfl⟩ ?_;rintro x w5 ⟨j,d3,rfl,hj,h,O,C⟩ Q hQ;refine qaa (fun u=>?_) (fun u=>?_);obtain⟨j,rfl⟩:∃m,j=m+1:=⟨j-1,by have:=zC u;omega⟩;rw[shiftDown] at C;refine h.drew.rd (j+1) rfl (by omega) (by omega) ?_;refine h.drew.rd j (by rw[wi _ (by omega)];omega) (by omega) (by omega) ?_;refine qa6 ?_;refine qaa (fun u=>?_) (fun u=>?_);rw[if_pos u] at C;rw[<- C];exact⟨h.drew,O⟩;rw[if_neg (by rw[u];decide)] at C;refine h.drew.drew.swap (j+1) j rfl (by rw[wi _ (by omega)];omega) (by omega) (by omega) (by omega) fun w6 h=>?_;rw[wi _ (by omega)];exact hQ _ _ ⟨j,_,by omega,by omega,h,by rw[Sort.size_swp];exact O,C⟩ (by omega);have ao:j=0:=(by have:=zB u;omega);subst ao;rw[<- C];exact⟨h,O⟩;have ab:¬k-a>=2:=(by have:=zB u;omega);simp only[if_neg ab];exact⟨h,trivial⟩;rintro _ w5 ⟨h,O⟩;generalize (if k-a>=2 then shiftDown ltInt (k-1) E else E)=d3 at h y O;rw[wi ((b:Int)-k) (by omega)];refine qaa (fun u=>?_) (fun u=>?_);have ac:b-k>=2:=(by have:=zC u;omega);rw[if_pos ac] at y;rw[wi ((k:Int)+1) (by omega)];refine qaj (fun x w'=>∃(j:Nat) (z:Array Int),x=j/\k+1<=j/\j<=b/\Arr blk T w0 w' z/\z.size=d.size/\shiftUp ltInt b j z=shiftUp ltInt b (k+1) d3) (fun x _=>((b:Int)-x).toNat) ⟨k+1,d3,by omega,by omega,by omega,h,by omega,rfl⟩ ?_;rintro x w6 ⟨j,d4,rfl,aD,aE,h,ad,ae⟩ Q hQ;have A:=shiftUp.eq_1 ltInt b j d4;refine qaa (fun u=>?_) (fun u=>?_);have af:j<b:=(by have:=zC u;omega);rw[if_pos af] at A;refine h.drew.rd j rfl (by omega) (by omega) ?_;refine h.drew.rd (j-1) (by rw[wi _ (by omega)];omega) (by omega) (by omega) ?_;refine qa6 ?_;refine qaa (fun u=>?_) (fun u=>?_);rw[if_pos u] at A;rw[<- ae,A] at y;exact⟨k,d4,rfl,I,J,h.drew,ad,y⟩;rw[if_neg (by rw[u];decide)] at A;refine h.drew.drew.swap j (j-1) rfl (by rw[wi _ (by omega)];omega) (by omega) (by omega) (by omega) fun w6 h=>?_;rw[wi _ (by omega)];exact hQ _ _ ⟨j+1,_,by omega,by omega,by omega,h,by rw[Sort.size_swp];exact ad,A.symm.trans ae⟩ (by omega);have af:¬j<b:=(by have:=zB u;omega);rw[if_neg af] at A;rw[<- ae,A] at y;exact⟨k,d4,rfl,I,J,h,ad,y⟩;have ac:¬b-k>=2:=(by have:=zB u;omega);rw[if_neg ac] at y;exact⟨k,d3,rfl,I,J,h,by omega,y⟩;rintro x w2 ⟨k,E,rfl,I,J,h,aq,ar⟩;rw[wi _ (by omega)];exact hX _ _ ⟨k,s,E,qbk rfl (by omega),by omega,I,J,h,aq,ar⟩ (by dsimp only;omega);have au:s=0:=(by have:=zB u;omega);subst au;rw[<- y] at R;exact R _ h
end
end
theorem qvF{s:ByteArray}{i:Int}{K:Int->Prop}(b:UInt8)(u:0<=i)(h:s[i.toNat]?=some b)(k:K (b.toNat:Int)):idxS s i K:=by unfold idxS;exact⟨b,⟨u,h⟩,k⟩
theorem qd9{n k:Nat}(h:2^k<=n):bitsLen n=bitsLen (n / 2^k)+k:=by
 have A:bitsLen n<=bitsLen (n / 2^k)+k:=by
  rw[bitsLen_le_iff,Nat.pow_add]
  have:=lt_two_pow_bitsLen (n / 2^k)
  exact (Nat.div_lt_iff_lt_mul (Nat.two_pow_pos k)).1 this
 have C:bitsLen (n / 2^k)+k<=bitsLen n:=by
  have y:=lt_two_pow_bitsLen n;have z:k<=bitsLen n:=by
   rcases Nat.lt_or_ge (bitsLen n) k with u|u
   have:=Nat.pow_le_pow_right (show 0<2 by decide) (Nat.le_of_lt u);omega
   exact u
  have:bitsLen (n / 2^k)<=bitsLen n-k:=(by rw[bitsLen_le_iff,Nat.div_lt_iff_lt_mul (Nat.two_pow_pos k),<- Nat.pow_add,Nat.sub_add_cancel z];exact y);omega
 omega
theorem qrz{n k:Nat}(h:n<2^k):bitsLen n<=k:=(bitsLen_le_iff n k).2 h
theorem qkJ(n k:Nat):Int.fdiv (n:Int) ((k:Nat):Int)=((n / k:Nat):Int):=by rw[Int.fdiv_eq_ediv_of_nonneg _ (by omega)];rfl
theorem qt5{n:Nat}{w:World}{K:Int->WP}(hn:n<18446744073709551616)(hk:K (bitsLen n:Nat) w):cW 198 [.int .u64 n] [.one .i] w K:=by apply qnU;unfold qjR;refine qaf (fun t w'=>∃m c:Nat,t=((m:Int),(c:Int))/\w=w'/\m<4294967296/\c<=32/\bitsLen n=bitsLen m+c) ?_ ?_;refine qaa (fun hc=>?_) (fun hc=>?_);have h:=zC hc;refine⟨n / 2^32,32,qbk (qkJ n (2^32)) rfl,rfl,by omega,by omega,qd9 (by omega)⟩;have h:=zB hc;exact⟨n,0,rfl,rfl,by omega,by omega,rfl⟩;rintro t w' ⟨m,c,rfl,rfl,hm,hc1,he⟩;dsimp only;refine qaf (fun t w'=>∃m c:Nat,t=((m:Int),(c:Int))/\w=w'/\m<65536/\c<=48/\bitsLen n=bitsLen m+c) ?_ ?_;refine qaa (fun hc=>?_) (fun hc=>?_);have h:=zC hc;refine⟨m / 2^16,c+16,qbk (qkJ m (2^16)) (by rw[wi _ (by omega)];omega),rfl,by omega,by omega,by rw[he,qd9 (n:=m) (k:=16) (by omega)];omega⟩;have h:=zB hc;exact⟨m,c,rfl,rfl,by omega,by omega,he⟩;rintro t w' ⟨m,c,rfl,rfl,hm,hc1,he⟩;dsimp only;refine qaf (fun t w'=>∃m c:Nat,t=((m:Int),(c:Int))/\w=w'/\m<256/\c<=56/\bitsLen n=bitsLen m+c) ?_ ?_;refine qaa (fun hc=>?_) (fun hc=>?_);have h:=zC hc;refine⟨m / 2^8,c+8,qbk (qkJ m (2^8)) (by rw[wi _ (by omega)];omega),rfl,by omega,by omega,by rw[he,qd9 (n:=m) (k:=8) (by omega)];omega⟩;have h:=zB hc;exact⟨m,c,rfl,rfl,by omega,by omega,he⟩;rintro t w' ⟨m,c,rfl,rfl,hm,hc1,he⟩;dsimp only;have hb:=qrz (n:=m) (k:=8) (by omega);rw[IntWalk.u8_in (m:Int) (by omega)];refine qvF (UInt8.ofNat (bitsLen m)) (by omega) ?_ ?_;rw[zJ];clear he hb;revert m;decide +kernel;have e:(UInt8.ofNat (bitsLen m)).toNat=bitsLen m:=(by simp;omega);rw[e,wi (bitsLen m:Nat) (by omega),wi _ (by omega)];rw[he] at hk;rw[show (c:Int)+(bitsLen m:Nat)=((bitsLen m+c:Nat):Int) by omega];exact hk
theorem qop{n:Nat}{w:World}{K:Int->WP}(hn:n<18446744073709551616)(hk:K (bitsLen n:Nat) w):cW 149 [.int .u64 n] [.one .i] w K:=by apply qp5;unfold qm0;exact qt5 hn hk
section
structure Arr2 (blk:Nat) (T:ArrT) (w0 w:World) (d:Array Int) (sb:Nat) (k:IntKind) (v:Int):Prop where
 arr:Arr blk T w0 w d
 cell:∃ T2,w.heap[sb]?=some (.cells #[.int k v] T2 (0,0))
 ne:sb≠blk
 new:w0.heap.size<=sb
section
variable {blk:Nat} {T:ArrT} {w0 w:World} {d:Array Int} {len cap sb:Nat} {k:IntKind} {v:Int}
theorem Arr2.drew(h:Arr2 blk T w0 w d sb k v):Arr2 blk T w0 w.drew d sb k v:=⟨h.arr.drew,h.cell,h.ne,h.new⟩
theorem Arr2.get(h:Arr2 blk T w0 w d sb k v){K:Int->Prop}(u:K v):ld (.int k) ⟨sb,0,none⟩ w K:=by obtain⟨z,y⟩:=h.cell;exact qah y v rfl u
theorem Arr2.put(h:Arr2 blk T w0 w d sb k v)(u:Int){K:WP}(z:∀w',Arr2 blk T w0 w' d sb k u->K w'):st ⟨sb,0,none⟩ [.int k u] w K:=by
 obtain⟨A,y⟩:=h.cell;unfold st;refine qgQ (w:=w) [.int k u] 0 0 _ w K y rfl (by simp) (z _ ⟨⟨?_,?_⟩,⟨A,?_⟩,h.ne,h.new⟩);refine h.arr.fr.trans' (T:=[sb]) ⟨rfl,rfl,rfl,by rw[qbT];exact zM _,fun j G C=>?_⟩ (fun i E=>.inr ?_);rw[qay _ _ _ _ (qac y),if_neg (by simpa using C)]
 have:=h.new
 simp at E;omega;rw[qay _ _ _ _ (qac y),if_neg (fun e=>h.ne e.symm)];exact h.arr.blk;rw[qay _ _ _ _ (qac y),if_pos rfl];rfl
theorem Arr2.mk'(h:Arr blk T w0 w d)(y:TypeId)(u:Int){K:Nat->WP}(z:∀b w',Arr2 blk T w0 w' d b k u->K b w'):Pt.new (.cells #[.int k u] y (0,0)) w K:=by
 unfold Pt.new;refine z _ _ ⟨⟨h.fr.alloc _,?_⟩,⟨y,?_⟩,?_,h.fr.size⟩
 have:=qac h.blk
 rw[qbm,if_neg (by omega)];exact h.blk;rw[qbm,if_pos rfl]
 have:=qac h.blk
 omega
theorem qig{a b:Nat}{K:Int×Int->WP}(h:Arr2 blk T w0 w d sb .i64 v)(A:a<len)(C:b<len)(y:len<=d.size/\len<=1152921504606846976)(z:∀(p q:Nat) u w',(p=a/\q=b\/p=b/\q=a)->Arr2 blk T w0 w' d sb .i64 u->K ((p:Int),(q:Int)) w'): cW 236 [.slice (pW blk) len cap,.i a,.i b,.pointer (pW sb)] [.one .i,.one .i] w K:=by refine qfq (data:=⟨pW blk,len,cap⟩) ?_;unfold qcZ;refine h.arr.drew.rd b rfl C y ?_;refine h.arr.drew.rd a rfl A y ?_;refine qa6 ?_;refine qaa (fun E=>?_) (fun E=>?_);refine qae ?_;refine h.drew.get ?_;refine qae ?_;exact h.drew.put _ fun w' h=>z b a _ _ (.inr ⟨rfl,rfl⟩) h;exact z a b _ _ (.inl ⟨rfl,rfl⟩) h.drew
theorem qmX{a b c:Nat}{K:Int->WP}(h:Arr2 blk T w0 w d sb .i64 v)(C:a<len)(E:b<len)(G:c<len)(y:len<=d.size/\len<=1152921504606846976)(I:∀(p:Nat) u w',(p=a\/p=b\/p=c)->Arr2 blk T w0 w' d sb .i64 u->K (p:Int) w'): cW 223 [.slice (pW blk) len cap,.i a,.i b,.i c,.pointer (pW sb)] [.one .i] w K:=by refine qfp (data:=⟨pW blk,len,cap⟩) ?_;unfold qcY;dsimp only;refine qig h C E y fun p q u z R h=>?_;dsimp only;refine qig h (by omega) G y fun U q' u z J h=>?_;dsimp only;refine qig h (by omega) (by omega) y fun O Q u z A h=>?_;exact I _ _ _ (by omega) h
theorem qif{a:Nat}{K:Int->WP}(h:Arr2 blk T w0 w d sb .i64 v)(A:1<=a)(C:a+1<len)(y:len<=d.size/\len<=1152921504606846976)(z:∀(p:Nat) u w',(a<=p+1/\p<=a+1)->Arr2 blk T w0 w' d sb .i64 u->K (p:Int) w'): cW 222 [.slice (pW blk) len cap,.i a,.pointer (pW sb)] [.one .i] w K:=by refine qc5 (data:=⟨pW blk,len,cap⟩) ?_;unfold qby;dsimp only;rw[wi ((a:Int)-1) (by omega),wi ((a:Int)+1) (by omega),show (a:Int)-1=((a-1:Nat):Int) by omega,show (a:Int)+1=((a+1:Nat):Int) by omega];exact qmX h (by omega) (by omega) (by omega) y fun p u w' E h=>z p u w' (by omega) h
theorem qug{a b:Nat}{K:Int×Int->WP}(h:Arr blk T w0 w d)(R:a<b)(hb:b<=len)(C:len<=d.size/\len<=1152921504606846976)(G:∀(p:Nat) (x:Int) w',a<=p/\p<b->Arr blk T w0 w' d->K ((p:Int),x) w'): cW 191 [.slice (pW blk) len cap,.i a,.i b] [.one .i,.one .i] w K:=by
 refine qdD (data:=⟨pW blk,len,cap⟩) ?_;unfold qbV;dsimp only;have e0:IntKind.i64.wrap ((b:Int)-a)=((b-a:Nat):Int):=(by rw[wi _ (by omega)];omega);have U:Int.tdiv ((b-a:Nat):Int) 4=(((b-a) / 4:Nat):Int):=(by rw[Int.tdiv_eq_ediv_of_nonneg (by omega)];omega);have e1:∀m:Nat,m<=3->IntKind.i64.wrap ((a:Int)+IntKind.i64.wrap (IntKind.i64.wrap (((b-a) / 4:Nat):Int)*(m:Int)))=((a+(b-a) / 4*m:Nat):Int):=by intro m I;have V:(b-a) / 4*m<=(b-a) / 4*3:=Nat.mul_le_mul_left _ I;have hz:(((b-a) / 4:Nat):Int)*(m:Int)=(((b-a) / 4*m:Nat):Int):=(by push_cast;rfl);rw[wi (((b-a) / 4:Nat):Int) (by omega),hz,wi (((b-a) / 4*m:Nat):Int) (by omega),wi _ (by omega)];omega
 have J:=e1 1 (by omega);have O:=e1 2 (by omega);have Q:=e1 3 (by omega);simp only[Int.cast_ofNat_Int] at J O Q;rw[e0,U,J,O,Q];refine Arr2.mk' h _ _ fun sb w1 h=>?_;refine qaf (fun x w'=>∃(p:Nat) (u:Int),x=p/\a<=p/\p<b/\Arr2 blk T w0 w' d sb .i64 u) ?_ ?_;refine qaa (fun y=>?_) (fun y=>?_);have h8:b-a>=8:=(by have:=zC y;omega);refine qaf (fun x w'=>∃(p q r:Nat) (u:Int),x=((p:Int),(q:Int),(r:Int))/\a<=p/\p<b/\a<=q/\q<b/\a<=r/\r<b/\Arr2 blk T w0 w' d sb .i64 u) ?_ ?_;refine qaa (fun y=>?_) (fun y=>?_);have ab:b-a>=50:=(by have:=zC y;omega);refine qif h (by omega) (by omega) C fun p u E hp h=>?_;refine qif h (by omega) (by omega) C fun q u E V h=>?_;refine qif h (by omega) (by omega) C fun r u E hr h=>?_;exact⟨p,q,r,u,rfl,by omega,by omega,by omega,by omega,by omega,by omega,h⟩;exact⟨_,_,_,_,rfl,by omega,by omega,by omega,by omega,by omega,by omega,h⟩;rintro x E ⟨p,q,r,u,rfl,z,A,ac,ad,ae,af,h⟩;dsimp only;refine qmX h (by omega) (by omega) (by omega) C fun m u w3 I h=>?_;exact⟨m,u,rfl,by omega,by omega,h⟩;exact⟨_,_,rfl,by omega,by omega,h⟩;rintro x E ⟨p,u,rfl,z,A,h⟩;refine h.get ?_;refine qaa (fun y=>?_) (fun y=>?_);exact G _ _ _ ⟨z,A⟩ h.arr;refine qaa (fun y=>?_) (fun y=>?_);exact G _ _ _ ⟨z,A⟩ h.arr;exact G _ _ _ ⟨z,A⟩ h.arr
end
end
section
section
variable {blk:Nat} {T:ArrT} {w0 w:World} {d:Array Int} {len cap sb:Nat} {k:IntKind} {v:Int}
theorem Arr.self(h:Arr blk T w0 w d):Arr blk T w w d:=⟨.refl _ _,h.blk⟩
theorem Arr2.step(h:Arr2 blk T w0 w d sb k v){w':World}{u:Array Int}(g:Arr blk T w w' u):Arr2 blk T w0 w' u sb k v:=by obtain⟨z,y⟩:=h.cell;refine⟨⟨h.arr.fr.trans g.fr,g.blk⟩,⟨z,?_⟩,h.ne,h.new⟩;rw[g.fr.block sb (qac y) (by simpa using h.ne)];exact y
theorem qvn{K:Int->WP}(h:Arr2 blk T w0 w d sb .u64 v)(y:∀(x:Int) w',0<=x/\x<=18446744073709551615->Arr2 blk T w0 w' d sb .u64 x->K x w'): cW 221 [.pointer (pW sb)] [.one (.int .u64)] w K:=by refine qfr ?_;unfold qc0;refine qae (h.drew.get (qae (h.drew.get (qae (h.drew.put _ fun u h=>?_)))));refine qae (h.drew.get (qae (h.drew.get (qae (h.drew.put _ fun u h=>?_)))));refine qae (h.drew.get (qae (h.drew.get (qae (h.drew.put _ fun u h=>?_)))));refine qae (h.get ?_);exact y _ _ (bits_within .xor .u64 _ _) h
theorem qwi{n:Nat}{w:World}{K:Int->WP}(y:1<=n/\n<=1152921504606846976)(h:K ((2^bitsLen n:Nat):Int) w):cW 220 [.i n] [.one (.int .u64)] w K:=by apply qe8;unfold qcx;rw[IntWalk.u64_in (n:Int) (by omega)];refine qop (by omega) ?_;refine qaT (by omega) ?_;have z:=two_pow_bitsLen_le (n:=n) (by omega);have A:bitsLen n<=61:=(bitsLen_le_iff n 61).2 (by omega);rw[zJ,xN (by omega)];have e:(1:Int)*2^bitsLen n=((2^bitsLen n:Nat):Int):=(by rw[Int.one_mul];push_cast;rfl);have u:(0:Int)<=((2^bitsLen n:Nat):Int):=Int.natCast_nonneg _;rw[e,IntWalk.u64_in _ (by omega)];exact h
theorem qt0{a b:Nat}{K:Unit->WP}(h:Arr blk T w0 w d)(O:a<=b)(hb:b<=len)(hl:len<=d.size/\len<=1152921504606846976)(I:∀C w',PermIn a b d C->Arr blk T w0 w' C->K () w'): cW 190 [.slice (pW blk) len cap,.i a,.i b] [] w K:=by
 refine qdk (data:=⟨pW blk,len,cap⟩) ?_;unfold qbI;have e0:IntKind.i64.wrap ((b:Int)-a)=((b-a:Nat):Int):=(by rw[wi _ (by omega)];omega);rw[e0];refine qaa (fun A=>?_) (fun A=>?_);have h8:b-a>=8:=(by have:=zC A;omega);have Q:Int.tdiv ((b-a:Nat):Int) 4=(((b-a) / 4:Nat):Int):=(by rw[Int.tdiv_eq_ediv_of_nonneg (by omega)];omega);have e1:IntKind.i64.wrap ((a:Int)+IntKind.i64.wrap (IntKind.i64.wrap (((b-a) / 4:Nat):Int)*2))=((a+(b-a) / 4*2:Nat):Int):=by rw[wi (((b-a) / 4:Nat):Int) (by omega),wi ((((b-a) / 4:Nat):Int)*2) (by omega),wi _ (by omega)];omega
 rw[Q,e1,IntWalk.u64_in ((b-a:Nat):Int) (by omega)];refine Arr2.mk' h _ _ fun sb w1 h=>?_;refine h.put _ fun w2 h=>?_;refine qwi (by omega) ?_;have R:=two_pow_bitsLen_le (n:=b-a) (by omega);have E:=Nat.two_pow_pos (bitsLen (b-a));rw[wi (_-1) (by omega),wi (_+1) (by omega)];refine qaj (fun x w'=>∃(i:Nat) (C:Array Int) (u:Int),x=i/\a<=i/\i<=a+(b-a) / 4*2+2/\PermIn a b d C/\Arr2 blk T w0 w' C sb .u64 u) (fun x _=>(((a+(b-a) / 4*2+2:Nat):Int)-x).toNat)
  ⟨a+(b-a) / 4*2-1,d,_,by omega,by omega,by omega,permIn_refl _ _ _,h⟩ ?_
 rintro x w3 ⟨i,J,u,rfl,U,V,G,h⟩ X hX;have ab:=G.1;refine qaa (fun A=>?_) (fun A=>?_);have ac:i<=a+(b-a) / 4*2+1:=(by have:=zC A;omega);refine qvn h fun y w4 hy h=>?_;obtain⟨z,rfl⟩:∃z:Nat,y=z:=⟨y.toNat,by omega⟩;have ez:bits .and .u64 (z:Int) (IntKind.u64.wrap (((2^bitsLen (b-a):Nat):Int)-1))=((z%2^bitsLen (b-a):Nat):Int):=by rw[IntWalk.u64_in _ (by omega),show ((2^bitsLen (b-a):Nat):Int)-1=((2^bitsLen (b-a)-1:Nat):Int) by omega,bits_and_u64_nat z _ (by omega) (by omega),Nat.and_two_pow_sub_one_eq_mod]
 rw[ez];have hz:=Nat.mod_lt z E;rw[wi ((z%2^bitsLen (b-a):Nat):Int) (by omega)];refine qaf (fun x w'=>∃o:Nat,x=o/\o<b-a/\Arr2 blk T w0 w' J sb .u64 z) ?_ ?_;refine qaa (fun A=>?_) (fun A=>?_)
 have:=zC A
 exact⟨z%2^bitsLen (b-a)-(b-a),by rw[wi _ (by omega)];omega,by omega,h⟩
 have:=zB A
 exact⟨z%2^bitsLen (b-a),rfl,by omega,h⟩;rintro x w5 ⟨o,rfl,ho,h⟩;refine h.drew.arr.self.swap i (a+o) rfl (by rw[wi _ (by omega)];omega) (by omega) (by omega) (by omega) fun w6 h6=>?_;rw[wi _ (by omega)];exact hX _ _ ⟨i+1,_,_,by omega,by omega,by omega,permIn_trans _ _ _ _ _ G (swp_permIn _ _ _ _ _ (by omega) (by omega) (by omega) (by omega) (by omega)),h.drew.step h6⟩ (by omega);exact I J _ G h.arr;exact I d _ (permIn_refl _ _ _) h
end
end
section
section
variable {blk:Nat} {T:ArrT} {len cap:Nat}
theorem qwh:∀(n:Nat) {w0 w:World} {d:Array Int} {a b:Nat} {limit:Int} {K:Unit->WP},b-a<=n->Arr blk T w0 w d->a<=b->b<=len->(len<=d.size/\len<=1152921504606846976)->Sort.Below ltInt a b d-> (∀d' w',PermIn a b d d'->SortedIn ltInt a b d'->Arr blk T w0 w' d'->K () w')-> cW 148 [.slice (pW blk) len cap,.i a,.i b,.i limit] [] w K:=by
 intro n;induction n using Nat.strongRecOn with
 | _ n ih=>
 intro w0 w d a0 b0 limit0 K hn h hab hb hl hB hk;refine qcg (data:=⟨pW blk,len,cap⟩) ?_;unfold qbw;dsimp only;refine qaj (fun x w'=>∃(a b:Nat) (l:Int) (wb wp:Bool) (d':Array Int),x=((a:Int),(b:Int),l,wb,wp)/\b-a<=n/\a<=b/\b<=len/\d'.size=d.size/\Sort.Below ltInt a b d'/\Arr blk T w0 w' d'/\
   ∀R,PermIn a b d' R->SortedIn ltInt a b R->PermIn a0 b0 d R/\SortedIn ltInt a0 b0 R) (fun x _=>(x.2.1-x.1).toNat)
  ⟨a0,b0,limit0,true,true,d,rfl,hn,hab,hb,rfl,hB,h,fun R h1 h2=>⟨h1,h2⟩⟩ ?_
 rintro x w1 ⟨a,b,l,wb,wp,d1,rfl,hn1,hab,hb,hs1,hB,h,hR⟩ X hX;dsimp only;have e0:IntKind.i64.wrap ((b:Int)-a)=((b-a:Nat):Int):=(by rw[wi _ (by omega)];omega);rw[e0];refine qaa (fun hc=>?_) (fun hc=>?_);refine qwg h hab hb (by omega) fun w2 h=>?_;obtain⟨h1,h2⟩:=insertionSort_holds swo d1 a b hab (by omega);obtain⟨h3,h4⟩:=hR _ h1 h2;exact hk _ _ h3 h4 h;have h12:12<b-a:=(by have:=zB hc;omega);refine qaa (fun hc=>?_) (fun hc=>?_);refine qvm h hab hb (by omega) fun w2 h=>?_;obtain⟨h1,h2⟩:=heapSort_holds swo d1 a b hab (by omega);obtain⟨h3,h4⟩:=hR _ h1 h2;exact hk _ _ h3 h4 h;refine qaf (fun _ w'=>∃d2,PermIn a b d1 d2/\Arr blk T w0 w' d2) ?_ ?_;refine qaa (fun hc=>?_) (fun hc=>?_);exact qt0 h hab hb (by omega) fun d2 w2 hp h=>⟨d2,hp,h⟩;exact⟨d1,permIn_refl _ _ _,h⟩;rintro lim w2 ⟨d2,hp2,h⟩;have hs2:=hp2.1;refine qug h (by omega) hb (by omega) fun p hint w3 hpp h=>?_;dsimp only;refine qaf (fun x w'=>∃(p:Nat) (hint:Int) (d3:Array Int),x=((p:Int),hint)/\a<=p/\p<b/\PermIn a b d1 d3/\Arr blk T w0 w' d3) ?_ ?_;refine qaa (fun hc=>?_) (fun hc=>?_);refine qwj h (by omega) hb (by omega) fun w4 h=>?_;refine⟨(b-1)-(p-a),1,_,qbk ?_ rfl,by omega,by omega,permIn_trans _ _ _ _ _ hp2 (reverseRange_holds _ _ _ hab (by omega)),h⟩;rw[wi ((b:Int)-1) (by omega),wi ((p:Int)-a) (by omega),wi _ (by omega)];omega;exact⟨p,hint,d2,rfl,hpp.1,hpp.2,hp2,h⟩;rintro x w4 ⟨p,hint,d3,rfl,hp1,hp2,hp3,h⟩;have hs3:=hp3.1;dsimp only;refine qaf (fun _ w'=>∃d4,PermIn a b d1 d4/\Arr blk T w0 w' d4) ?_ ?_;refine qaf (fun _ w'=>Arr blk T w0 w' d3) ?_ ?_;refine qaa (fun hc=>?_) (fun hc=>?_);refine qaa (fun hc=>?_) (fun hc=>?_);exact h;exact h;exact h;rintro c w5 h;refine qaa (fun hc=>?_) (fun hc=>?_);refine qui h (by omega) hb (by omega) fun w6 h=>?_;obtain⟨h1,h2⟩:=partialInsertionSort_holds swo d3 a b (by omega) (by omega) (hB.perm (by omega) hp3);refine qaa (fun hc=>?_) (fun hc=>?_);obtain⟨h3,h4⟩:=hR _ (permIn_trans _ _ _ _ _ hp3 h1) (h2 hc);exact hk _ _ h3 h4 h;exact⟨_,permIn_trans _ _ _ _ _ hp3 h1,h⟩;exact⟨d3,hp3,h⟩;rintro _ w5 ⟨d4,hp4,h⟩;have hs4:=hp4.1;have hB4:=hB.perm (by omega) hp4;refine qaf (fun c w'=>c=(decide (0<a)&&!ltInt d4[a-1]! d4[p]!)/\Arr blk T w0 w' d4) ?_ ?_;refine qaa (fun hc=>?_) (fun hc=>?_);have ha:0<a:=(by have:=zC hc;omega);refine h.drew.rd (a-1) (by rw[wi _ (by omega)];omega) (by omega) (by omega) ?_;refine h.drew.rd p rfl (by omega) (by omega) ?_;refine qa6 ?_;exact⟨by simp[ha],h.drew⟩;have ha:¬0<a:=(by have:=zB hc;omega);exact⟨by simp[ha],h.drew⟩;rintro c w6 ⟨rfl,h⟩;refine qaa (fun hc=>?_) (fun hc=>?_);simp only[yA,decide_eq_true_eq,zT] at hc;have hr:=round_eq swo (partitionEqual_holds ltInt) hc.1 hp1 hp2 (by omega) hB4 hc.2 (mid:=(Sort.partitionEqual ltInt d4 a b p).1) (d4:=(Sort.partitionEqual ltInt d4 a b p).2) rfl;refine qsD h hp1 hp2 hb (by omega) fun w7 h=>?_;obtain⟨h1,h2,h3,h4,h5⟩:=hr;refine hX _ _ ⟨_,b,lim,wb,wp,_,rfl,by omega,h2,hb,by omega,h4,h,fun R r1 r2=>?_⟩ (by dsimp only;omega);obtain⟨q1,q2⟩:=h5 R r1 r2;exact hR R (permIn_trans _ _ _ _ _ hp4 q1) q2;have hr:=round_part swo (partition_holds ltInt) hp1 hp2 (by omega) hB4 (mid:=(Sort.partition ltInt d4 a b p).1) (ap:=(Sort.partition ltInt d4 a b p).2.1) (d4:=(Sort.partition ltInt d4 a b p).2.2) rfl;refine qvp h hp1 hp2 hb (by omega) fun w7 h=>?_;obtain⟨h1,h2,h3,h4,h5,h6,h7⟩:=hr;dsimp only;generalize (Sort.partition ltInt d4 a b p).1=mid at *
 generalize (Sort.partition ltInt d4 a b p).2.2=d5 at *
 rw[wi ((mid:Int)-a) (by omega),wi ((b:Int)-mid) (by omega),wi ((mid:Int)+1) (by omega),show (mid:Int)+1=((mid+1:Nat):Int) by omega];refine qaa (fun hc=>?_) (fun hc=>?_);have hlt:mid-a<b-mid:=(by have:=zC hc;omega);refine ih (mid-a) (by omega) (zM _) h h1 (by omega) (by omega) h4 fun d6 w8 r1 r2 h=>?_;obtain⟨q1,q2⟩:=h6 d6 r1 r2;refine hX _ _ ⟨mid+1,b,lim,_,_,d6,rfl,by omega,by omega,hb,by have:=r1.1;omega,q1,h,fun R s1 s2=>?_⟩ (by dsimp only;omega);obtain⟨t1,t2⟩:=q2 R s1 s2;exact hR R (permIn_trans _ _ _ _ _ hp4 t1) t2;refine ih (b-(mid+1)) (by omega) (zM _) h (by omega) hb (by omega) h5 fun d6 w8 r1 r2 h=>?_;obtain⟨q1,q2⟩:=h7 d6 r1 r2;refine hX _ _ ⟨a,mid,lim,_,_,d6,rfl,by omega,by omega,by omega,by have:=r1.1;omega,q1,h,fun R s1 s2=>?_⟩ (by dsimp only;omega);obtain⟨t1,t2⟩:=q2 R s1 s2;exact hR R (permIn_trans _ _ _ _ _ hp4 t1) t2
theorem qqM{w0 w:World}{d:Array Int}{K:Unit->WP}(h:Arr blk T w0 w d)(y:len<=d.size/\len<=1152921504606846976)(z:∀u w',PermIn 0 len d u->SortedIn ltInt 0 len u->Arr blk T w0 w' u->K () w'): cW 113 [.slice (pW blk) len cap] [] w K:=by refine qgO (x:=⟨pW blk,len,cap⟩) ?_;unfold qe7;dsimp only;rw[IntWalk.u64_in (len:Int) (by omega)];refine qop (by omega) ?_;exact qwh len (a:=0) (by omega) h (by omega) (zM _) y (.inl rfl) z
theorem qow{w:World}{K:Unit->WP}(h:K () w):cW 113 [.slice none 0 0] [] w K:=by refine qgO (x:=⟨none,0,0⟩) ?_;unfold qe7;dsimp only;rw[IntWalk.u64_in ((0:Nat):Int) (by omega)];refine qop (n:=0) (by omega) ?_;refine qcg (data:=⟨none,0,0⟩) ?_;unfold qbw;refine qcO fun X u=>?_;refine cond_true (by decide +kernel) ?_;refine qbq (data:=⟨none,0,0⟩) ?_;unfold qa3;refine qcO fun X u=>?_;exact cond_false (by decide +kernel) h
end
end
theorem qt1{w:World}{rb n cap:Nat}{d:Array Int}{T:TypeId}{K:Sl->WP}(C:w.heap[rb]?=some (.cells (u32s d) T (0,0)))(ac:n<=d.size)(hn:n<=1000000)(hk:∀b I h T' w',w'.heap[b]?=some (.cells (u32s I) T' (0,0))->n<=I.size->n<=h/\h<=I.size->I.toList.take n=d.toList.take n->w.heap.size<=b->Fr [] w w'->K ⟨pW b,n,h⟩ w'): cW 95 [.slice (pW rb) n cap] [.one .slice] w K:=by
 obtain⟨J,hi,hz,O,Q⟩:=qdY;refine qfR (s:=⟨pW rb,n,cap⟩) ?_;unfold qee;refine cond_false rfl ?_;have y:=Own.start [] w;refine Own.new y fun tb R et af y=>?_;have U:R.heap[rb]?=some (.cells (u32s d) T (0,0)):=(by rw[y.fr.block rb (qac C) (by simp)];exact C);have A:∀(j:Nat) u,((d.toList.take n).map (Value.int .u32))[j]?=some u->R.cell? ((⟨rb,0,none⟩:Addr).add j)=some u:=fun j u z=>by rw[Addr.add_mk,qag U,xO];rw[zQ,xA] at z;by_cases hjn:j<n;rw[if_pos hjn] at z;unfold u32s;rw[Array.getElem?_map];simpa using z;rw[if_neg hjn] at z;cases z
 have E:((d.toList.take n).map (Value.int .u32)).length=n:=(by simp;omega);dsimp only;by_cases h0:n=0;subst h0;refine qqR (P:=Tryz.prog) (e:=37) (by kernel_rfl) hi [] (y.at (i:=0) rfl) (by simp) (fun j u z=>by simp at z) (by simp) (by omega) (by simp) ?_;have G:=y.upd (o':=.cells (splice #[] (0+0*J.size) []) 37 (0,0)) 0 rfl
 have:=G.at (i:=0) rfl
 have e:u32s #[] = #[]:=(by simp[u32s]);exact hk tb #[] 0 37 _ (by rw[e];exact this) (by simp) ⟨zM _,zM _⟩ (by simp) (by omega) G.fr;refine qox (P:=Tryz.prog) (e:=37) (by kernel_rfl) hi hz [] ((d.toList.take n).map (Value.int .u32)) (by simp) (fun j u z=>by simp at z) (by rw[E,O];omega) A (by omega) (by rw[Q];omega) (by omega) fun q ag ah=>?_;rw[qml _ _ rfl];have V:([]:List Value).toArray++((d.toList.take n).map (Value.int .u32)).toArray++Array.replicate (q-(0+n)) (.u 0)=u32s ((d.toList.take n++List.replicate (q-(0+n)) (0:Int)).toArray):=(by rw[qjf];apply Array.ext';simp);rw[V];have y:=y.drew.alloc (.cells (u32s ((d.toList.take n++List.replicate (q-(0+n)) (0:Int)).toArray)) 37 (0,0));have hl:(d.toList.take n).length=n:=(by simp;omega);rw[xO];refine hk _ _ q _ _ (by have:=y.at (i:=0) rfl;rw[xO] at this;exact this) (by simp;omega) ⟨by omega,by simp;omega⟩ ?_ (by show w.heap.size<=R.heap.size;omega) (by rw[xO] at y;exact y.fr);show ((d.toList.take n++List.replicate (q-n) (0:Int))).take n=_;rw[take_append_of_le_length (by omega),take_take,Nat.min_self]
theorem qcl:∀ {u y:List Int},u.Perm y->u.Pairwise (·<=·)->y.Pairwise (·<=·)->u=y
 | [],y,h,_,_=>h.nil_eq
 | a::u,[],h,_,_=>absurd h.symm.nil_eq (by simp)
 | a::u,b::y,h,G,I=>by
  have z:=yI.1 G;have A:=yI.1 I;have C:a=b:=by
   have J:a∈b::y:=h.mem_iff.1 (by simp);have K:b∈a::u:=h.mem_iff.2 (by simp);rcases zG.1 J with e|e;exact e;rcases zG.1 K with E|E;exact E.symm
   have:=A.1 a e
   have:=z.1 b E
   omega
  subst C;rw[qcl h.cons_inv z.2 A.2]
def Told (w w':World) (s:Sl) (l:List Int):Prop:=
 (l=[]/\s=⟨none,0,0⟩)\/∃b d T cap,s=⟨pW b,l.length,cap⟩/\w'.heap[b]?=some (.cells (u32s d) T (0,0))/\l.length<=d.size/\l.length<=cap/\d.toList.take l.length=l/\w.heap.size<=b/\cap<=d.size
theorem qji{w:World}{pb:Nat}{F:List Nat}{l:List Int}{K:Sl->WP}(h:PoolAt w pb F l)(hl:l.length<=1000000)(V:∀s w',Told w w' s l->Fr [] w w'->K s w'):cW 87 [.pointer (pW pb)] [.one .slice] w K:=by
 refine qjF ?_;unfold qfM;have u:=h.sorted;obtain⟨mb,R,d,f,rfl,hr,hm,hp,hh,hf,h1⟩:=h.ex;rcases hr with ⟨h0,hd,hR,C⟩|⟨rb,T,hR,C,E,al,G⟩;have I:l=[]:=eq_nil_of_length_eq_zero h0;subst I;refine qae ?_;refine qah C ⟨none,0,0⟩ rfl ?_;refine qfR ?_;unfold qee;refine cond_true rfl ?_;refine qow ?_;exact V _ _ (.inl ⟨rfl,rfl⟩) (.refl _ _);refine qae ?_;refine qah C ⟨pW rb,l.length,d.size⟩ rfl ?_;dsimp only;refine qt1 E G hl fun b d' y T' w' c1 c2 J c3 c4 c5=>?_;dsimp only;refine qqM (.start c1) ⟨c2,by omega⟩ fun O w2 s1 s2 s3=>?_;have ar:=s1.1;refine V _ _ (.inr ⟨b,O,T',y,rfl,s3.blk,by omega,J.1,?_,c4,by omega⟩) (c5.trans' s3.fr fun i z=>by simp at z;subst z;exact .inr c4);refine qcl ((qcv s1).trans (by rw[c3];exact hp)) ?_ (u.imp Int.le_of_lt);rw[pairwise_iff_getElem];intro i j z hj Q;have U:i<l.length:=(by simp at z;omega);have A:j<l.length:=(by simp at hj;omega);have g1:=qcz (d:=O) rfl U (by omega);have g2:=qcz (d:=O) rfl A (by omega);rw[zA z] at g1;rw[zA hj] at g2;rw[yN g1,yN g2]
 have:=s2 i j (by omega) Q A
 simp[ltInt] at this;exact this
abbrev encU:Int->List Value:=fun n=>[Value.int .u32 n]
abbrev Rd (S:List Nat) (w:World) (s:Sl) (l:List Int):Prop:=Rds encU 1 S w s l
abbrev BufU (w:World) (s:Sl) (l:List Int) (B:List Nat):Prop:=Buf encU 1 w s l B
theorem qaF:∀x,(encU x).length=1:=fun _=>rfl
theorem Rd.at{S:List Nat}{w:World}{s:Sl}{l:List Int}(h:Rd S w s l)(n:Nat){i x:Int}{K:Int->Prop}(hi:i=n)(z:l[n]?=some x)(k:K x):idx s i 1 fun a=>ld .u a w K:=
 Rds.get (y:=x) h n hi z rfl k
theorem qr8{w:World}{s:Sl}{l:List Int}{B:List Nat}{x:Int}{T:TypeId}{K:Sl->WP}(h:BufU w s l B)(J:l.length<=1000000)(C:∀A B' w',BufU w' A (l++[x]) B'->Fr B w w'->(∀b∈B',b∈B\/w.heap.size<=b)->K A w'): Pt.new (.cells #[.u x] T) w fun r E=>Pt.run [Ty1.one Cell.slice] ((Builtin.append_ #[92,92] 92 #[s.v,.slice (pW r) 1 1]).run Tryz.prog E) K:=by obtain⟨i,G,I,y,z⟩:=qdY;exact Buf.push (e:=37) h qaF (by simp[Value.oneCell']) (by kernel_rfl) G I y rfl rfl (by rw[z];omega) (by omega) C
theorem qw1{S:List Nat}{w:World}{s:Sl}{l:List Int}{n:Int}{K:Bool->WP}(h:Rd S w s l)(V:l.length<=1000000)(G:K (decide (n∈l)) w): cW 93 [s.v,.u n] [.one .bool] w K:=by
 refine qg8 ?_;unfold qdT;have Q:=h.1;refine qaj (fun x w'=>w'=w/\∃i:Nat,x=i/\i<=l.length/\∀j y,j<i->l[j]?=some y->y≠n) (fun x _=>((l.length:Int)-x).toNat) ⟨rfl,0,rfl,by omega,fun j y I=>by omega⟩ ?_;rintro x w' ⟨rfl,i,rfl,hi,E⟩ X R;refine qaa (fun J=>?_) (fun J=>?_);have z:i<l.length:=(by have:=zC J;omega);refine Rd.at h i rfl (zA z) ?_;refine qaa (fun C=>?_) (fun C=>?_);have A:l[i]=n:=yO.1 C;rw[show decide (n∈l)=true by rw[yM];rw[<- A];exact zW z] at G;exact G;have A:l[i]≠n:=fun e=>by rw[e] at C;simp at C
 rw[wi _ (by omega)];refine R _ _ ⟨rfl,i+1,by omega,by omega,fun j y I O=>?_⟩ (by omega);by_cases hji:j=i;subst hji;rw[zA z] at O;rw[<- yN O];exact A;exact E j y (by omega) O;have z:i=l.length:=(by have:=zB J;omega);rw[show decide (n∈l)=false by rw[decide_eq_false_iff_not];intro U;obtain⟨j,I,C⟩:=getElem_of_mem U;exact E j n (by omega) (by rw[zA I,C]) rfl] at G;exact G
theorem qkA{S S':List Nat}{w:World}{s t:Sl}{l:List Int}{K:Bool->WP}(h:Rd S w s l)(g:Rd S' w t l)(J:l.length<=1000000)(C:∀w',Same w w'->K true w'): cW 50 [s.v,t.v] [.one .bool] w K:=by refine qgo ?_;unfold qdr;have z:=h.1;refine cond_false (by rw[h.1,g.1];simp) ?_;refine qaj (fun x w'=>Same w w'/\∃i:Nat,x=i/\i<=l.length) (fun x _=>((l.length:Int)-x).toNat) ⟨.refl _,0,rfl,by omega⟩ ?_;rintro x w' ⟨y,i,rfl,O⟩ X E;have G:Rd S w' s l:=h.same y;have I:Rd S' w' t l:=g.same y;refine qaa (fun A=>?_) (fun A=>?_);have u:i<l.length:=(by have:=zC A;omega);refine Rd.at G.drew i rfl (zA u) ?_;refine Rd.at I.drew i rfl (zA u) ?_;refine cond_false (by simp) ?_;rw[wi _ (by omega)];exact E _ _ ⟨y.drew,i+1,by omega,by omega⟩ (by omega);exact C _ y
theorem qnQ{l:List Int}(h:l.Pairwise (· < ·)):l.Pairwise (·<=·):=h.imp Int.le_of_lt
theorem qiH{w0 w:World}{F F':List Nat}(u:∀b∈F,w0.heap.size<=b)(z:w0.heap.size<=w.heap.size)(h:∀b∈F',b∈F\/w.heap.size<=b):∀b∈F',w0.heap.size<=b:=by intro b y;rcases h b y with h|h;exact u b h;omega
theorem qqE{w:World}{pb:Nat}{F:List Nat}{l:List Int}{K:Option Addr->WP}(h:PoolAt w pb F l)(hl:l.length<=1000000)(hk:∀U F' w',PoolAt w' U F' l->Fr [] w w'->(∀b∈F',w.heap.size<=b)->K (pW U) w'): cW 168 [.pointer (pW pb)] [.one .ptr] w K:=by
 refine qjE ?_;unfold qfL;refine qeP fun nb F0 w1 h1 f1 G=>?_;have al:PoolAt w1 pb F l:=h.frame f1 (fun _ _ h=>by cases h);have A:=h.sorted;refine qae ?_;obtain⟨mb,R,d,f,rfl,hr,hm,hp,hh,hf,hv⟩:=al.ex;rcases hr with ⟨h0,hd,hR,V⟩|⟨rb,T,hR,V,an,aG,I⟩;have ao:l=[]:=eq_nil_of_length_eq_zero h0;subst ao;refine qah V ⟨none,0,0⟩ rfl ?_;refine qcO fun X hX=>?_;refine cond_false rfl ?_;exact hk nb F0 w1 h1 f1 G;refine qah V ⟨pW rb,l.length,d.size⟩ rfl ?_;dsimp only;have aC:rb<w.heap.size:=h.lt rb (by rw[hR];simp);have E:Rd F0 w1 ⟨pW rb,l.length,d.size⟩ (d.toList.take l.length):=by
  refine⟨by rw[yK,Array.length_toList];exact (xN I).symm,I,.inr ⟨rb,0,_,T,_,rfl,an,fun hm=>by have:=G rb hm;omega,fun i x hx=>?_⟩⟩;have hi:=(zP.1 hx).1;rw[yK,Array.length_toList] at hi;have C:i<l.length:=yC hi (Nat.min_le_left _ _);have aq:i<d.size:=yC hi (Nat.min_le_right _ _);have ar:=qcz (d:=d) rfl C I;rw[ar] at hx;rw[xO,xQ];have hc:(u32s d)[i]?=some (.u x):=by unfold u32s;rw[Array.getElem?_map];rw[<- yN hx];simp[aq]
  apply ext_getElem?;intro j;rw[xA,yZ];match j with
  | 0=>simpa using hc
  | j+1=>simp
 have ab:(d.toList.take l.length).length=l.length:=(by simp;omega);have z:(d.toList.take l.length).Nodup:=hp.symm.nodup (A.imp (fun h=>Int.ne_of_lt h));generalize hL:d.toList.take l.length=L at E ab z hp;refine qaj (fun x w'=>∃(i:Nat) (J:List Int) (F':List Nat),x=i/\i<=l.length/\PoolAt w' nb F' J/\J.Perm (L.take i)/\Fr [] w w'/\Rd F' w' ⟨pW rb,l.length,d.size⟩ L/\∀b∈F',w.heap.size<=b) (fun x _=>((l.length:Int)-x).toNat)
  ⟨0,[],F0,rfl,by omega,h1,by simp,f1,E,G⟩ ?_
 rintro x w2 ⟨i,J,F',rfl,hi,h2,y,f2,ac,O⟩ X hX;have aw:J.length=i:=(by rw[y.length_eq,yK];omega);refine qaa (fun hc=>?_) (fun hc=>?_);have C:i<l.length:=(by have:=zC hc;omega);have Q:i<L.length:=(by omega);refine Rd.at ac i rfl (zA Q) ?_;refine qlj h2 (by omega) fun F3 w3 h3 f3 ad=>?_;rw[wi _ (by omega)];have ae:L[i]∉J:=by
  intro hm;have ax:=y.mem_iff.1 hm;have e:L.take (i+1)=L.take i++[L[i]]:=yF Q;have af:(L.take (i+1)).Nodup:=(take_sublist _ _).nodup z;rw[e] at af
  have:=(yL.1 af).2.2 _ ax L[i] (by simp)
  exact this rfl
 refine hX _ _ ⟨i+1,ins L[i] J,F3,by omega,by omega,h3,?_,f2.trans' f3 (fun b V=>.inr (O b V)),ac.frame f3 ad,qiH O f2.size ad⟩ (by omega);rw[yF Q];exact ((qcA ae).trans (y.cons _)).trans (perm_append_singleton _ _).symm;have C:i=l.length:=(by have:=zB hc;omega);subst C;rw[zS (by omega)] at y;have:J=l:=qcl (y.trans hp) (qnQ h2.sorted) (qnQ A);subst this;exact hk nb F' w2 h2 f2 O
end Go.Proofs.YtmmkegapckbomaaGreatDoor
end
section
namespace Go.Proofs.YtmmkegapckbomaaGreatDoor
open Go Go.Pt List
open Go.IntKind (wrap)
attribute [local irreducible] ld ldA ldV fld fldA newZ st new idx idxS idxA slc slcS slcP mkS chk nn call callV inv run runQ runU join loop held ext rng undefer s2a nxt ent IntKind.wrap
abbrev encB:Int->List Value:=fun n=>[Value.int .u8 n]
abbrev RdB (S:List Nat) (w:World) (s:Sl) (l:List Int):Prop:=Rds encB 1 S w s l
abbrev BufB (w:World) (s:Sl) (l:List Int) (B:List Nat):Prop:=Buf encB 1 w s l B
theorem qat:∀x,(encB x).length=1:=fun _=>rfl
def bytesA (l:List Int):Array Value:=(l.map (Value.int .u8)).toArray
theorem qdI(l:List Int):(bytesA l).size=l.length:=by simp[bytesA]
theorem qaH(l:List Int):l.flatMap encB=l.map (Value.int .u8):=by
 induction l with
 | nil=>rfl
 | cons a l ih=>rw[yG,ih];rfl
theorem qlF:∃i,Tryz.prog.info? 5=some i/\i.zero=some (.b 0)/\i.size=1/\i.bytes=1:=qjm (by kernel_rfl)
theorem RdB.at{S:List Nat}{w:World}{s:Sl}{l:List Int}(h:RdB S w s l)(n:Nat){i x:Int}{K:Int->Prop}(hi:i=n)(u:l[n]?=some x)(k:K x):idx s i 1 fun a=>ld .b a w K:=
 Rds.get (y:=x) h n hi u rfl k
theorem qgJ{S:List Nat}{w:World}{b o n cap:Nat}{L:List Int}{T:TypeId}{u:Nat×Nat}(y:w.heap[b]?=some (.cells (bytesA L) T u))(E:o+n<=L.length)(z:n<=cap)(A:b∉S):RdB S w ⟨some ⟨b,o,none⟩,n,cap⟩ ((L.drop o).take n):=by
 refine⟨by rw[yK,yB];dsimp only;omega,z,.inr ⟨b,o,_,T,_,rfl,y,A,fun i x h=>?_⟩⟩;have C:=(zP.1 h).1;rw[yK,yB] at C;rw[xA,if_pos (by omega),yZ] at h;rw[xQ];apply ext_getElem?;intro j;rw[xA,yZ];match j with
 | 0=>simp[bytesA,h]
 | j+1=>simp
theorem qjv{b o len cap:Nat}{lo hi:Int}{h:Nat}{K:Sl->Prop}(u:0<=lo)(y:lo<=hi)(z:hi<=cap)(A:lo<cap)(k:K ⟨some ⟨b,o+lo.toNat*h,none⟩,hi.toNat-lo.toNat,cap-lo.toNat⟩):slc ⟨some ⟨b,o,none⟩,len,cap⟩ (some lo) (some hi) none h K:=by unfold slc;refine⟨by simpa using ⟨u,y,z⟩,?_⟩;simp only[xT,xS,zJ];rw[if_neg (by omega)];simp only[Option.map_some,Addr.add_mk];exact k
theorem qk9{b o len cap:Nat}{lo:Int}{h:Nat}{K:Sl->Prop}(u:0<=lo)(y:lo<=len)(z:len<=cap)(A:lo<cap)(k:K ⟨some ⟨b,o+lo.toNat*h,none⟩,len-lo.toNat,cap-lo.toNat⟩):slc ⟨some ⟨b,o,none⟩,len,cap⟩ (some lo) none none h K:=by unfold slc;refine⟨by simp;omega,?_⟩;simp only[xT,xS,zJ];rw[if_neg (by omega)];simp only[Option.map_some,Addr.add_mk];exact k
theorem Rds.part{α:Type}{enc:α->List Value}{k:Nat}{S:List Nat}{w:World}{s:Sl}{l:List α}(h:Rds enc k S w s l){lo hi:Option Int}(a b:Nat){K:Sl->Prop}(u:lo.getD 0=a)(y:hi.getD s.len=b)(O:a<=b)(I:b<=l.length)(Q:∀z,z.len=b-a->Rds enc k S w z ((l.take b).drop a)->(s.a.isNone=true->z.a.isNone=true)->K z):slc s lo hi none k K:=by
 obtain⟨h1,h2,C⟩:=h;unfold slc;refine⟨by rw[u,y];simp;omega,Q _ ?_ ⟨?_,?_,?_⟩ ?_⟩;rw[u,y];simp;rw[u,y];simp;omega;rw[u,y];simp;omega;by_cases he:(l.take b).drop a=[];exact .inl he;right;have R:a<b:=by rcases Nat.lt_or_ge a b with h|h;exact h;exact absurd (by rw[xZ];simp;omega) he
 rcases C with C|⟨U,o,V,T,fr,ha,E,G,hc⟩;rw[C] at I;simp at I;omega;refine⟨U,o+a*k,V,T,fr,?_,E,G,fun i x A=>?_⟩;rw[u];simp only[xT,zJ];rw[if_neg (by omega),ha];simp[Addr.add_mk];rw[yZ,xA] at A;split at A
 have:=hc (a+i) x A
 rw[<- this,xR,Nat.add_assoc];cases A;intro J;rw[Option.isNone_iff_eq_none] at J;rw[J];simp
def byteAt (n:Int) (j:Nat):Int:=wrap .u8 (Int.fdiv n (2^min (8*j) 32))
def be (n:Int) (k:Nat):List Int:=(List.range k).map fun i=>byteAt n (k-1-i)
theorem qao(n:Int)(k:Nat):(be n k).length=k:=by simp[be]
theorem wi'(n:Int)(h:-1000000000000000<=n/\n<=1000000000000000):wrap .i64 n=n:=by rw[IntWalk.i64_in];omega
theorem qpw{S:List Nat}{w0 w:World}{L:List (Nat×Obj)}{b o k cap:Nat}{A X Z:List Int}{T:TypeId}{n:Int}{K:Unit->WP}(h:Own S w0 w L)(i:Nat)(hi:L[i]?=some (b,.cells (bytesA (A++X++Z)) T (0,0)))(V:A.length=o)(hX:X.length=k)(Q:k<=4)(R:∀w',Own S w0 w' (L.set i (b,.cells (bytesA (A++be n k++Z)) T (0,0)))->K () w'): cW 150 [.slice (some ⟨b,o,none⟩) k cap,.u n] [] w K:=by
 refine qqw (b:=⟨some ⟨b,o,none⟩,k,cap⟩) ?_;unfold qnu;refine qaj (fun x w'=>∃j:Nat,x=j/\j<=k/\Own S w0 w' (L.set i (b,.cells (bytesA (A++((be n k).take j++X.drop j)++Z)) T (0,0)))) (fun x _=>((k:Int)-x).toNat) ⟨0,rfl,by omega,?_⟩ ?_;have:L.set i (b,.cells (bytesA (A++((be n k).take 0++X.drop 0)++Z)) T (0,0))=L:=by
  apply ext_getElem?;intro j;rw[xU];by_cases hij:i=j;subst hij;rw[if_pos rfl,hi]
  have:=(zP.1 hi).1
  simp[this];rw[if_neg hij]
 rw[this];exact h;rintro x w1 ⟨j,rfl,hj,z⟩ Y U;have I:=(zP.1 hi).1;dsimp only;refine qaa (fun J=>?_) (fun J=>?_);have C:j<k:=(by have:=zC J;omega);have e1:wrap .i64 (8*wrap .i64 (wrap .i64 ((k:Int)-1)-j))=((8*(k-1-j):Nat):Int):=by rw[wi' ((k:Int)-1) (by omega),wi' ((k:Int)-1-j) (by omega),wi' (8*((k:Int)-1-j)) (by omega)];omega
 rw[e1,wi' _ (by omega)];refine qaT (by omega) ?_;refine qdx (by omega) (by omega) ?_;rw[zJ,xQ,zJ];have E:X.drop j=X[j]::X.drop (j+1):=zX (by omega);have O:(be n k).take (j+1)=(be n k).take j++[byteAt n (k-1-j)]:=by rw[yF (by rw[qao];exact C)];simp[be]
 have y:((be n k).take j).length=j:=(by rw[yK,qao];omega);refine Own.st z i (by rw[xU,if_pos rfl,if_pos I]) (bytesA (A++((be n k).take (j+1)++X.drop (j+1))++Z)) ?_ rfl ?_ fun w2 G _=>?_;rw[splice,splice];apply Array.ext';rw[Array.toList_setIfInBounds];show (bytesA _).toList.set _ _=(bytesA _).toList;unfold bytesA;simp only[toList_toArray];rw[<- map_set,E,O,zV A,set_append_right _ _ (by omega)];rw[show o+j-A.length=j by omega,zV ((be n k).take j),set_append_right _ _ (by omega),y,Nat.sub_self,xH,set_cons_zero];simp only[zV,xH,xG,byteAt];refine Nat.ble_eq_true_of_le ?_;rw[qdI,E];simp only[zF,yH,length_nil,y];omega;refine U _ _ ⟨j+1,by omega,by omega,?_⟩ (by omega);rw[set_set] at G;exact G;have C:j=k:=(by have:=zB J;omega);subst C;rw[zS (by rw[qao];exact zM _),drop_of_length_le (by omega),xF] at z;exact R _ z
def getV (l:List Int):Int:=l.foldl (fun r x=>bits .or .u32 (wrap .u32 (r*2^8)) (wrap .u32 x)) 0
theorem qoV{S:List Nat}{w:World}{s:Sl}{l:List Int}{K:Int->WP}(h:RdB S w s l)(J:l.length<=100000)(G:K (getV l) w):cW 157 [s.v] [.one .u] w K:=by refine qqv ?_;unfold qnt;have C:=h.1;refine qaj (fun x w'=>w'=w/\∃i:Nat,x.2=i/\i<=l.length/\x.1=getV (l.take i)) (fun x _=>((l.length:Int)-x.2).toNat) ⟨rfl,0,rfl,by omega,rfl⟩ ?_;rintro⟨r,ii⟩ w' ⟨rfl,i,z,O,E⟩ X I;simp only at z E;subst z E;refine qaa (fun A=>?_) (fun A=>?_);have y:i<l.length:=(by have:=zC A;omega);refine RdB.at h i rfl (zA y) ?_;rw[wi' _ (by omega)];refine I _ _ ⟨rfl,i+1,by simp,by omega,?_⟩ (by dsimp only;omega);rw[yF y,getV,getV,foldl_append];rfl;have y:i=l.length:=(by have:=zB A;omega);subst y;rw[xX];exact G
theorem qjU{S:List Nat}{w:World}{s:Sl}{l:List Int}{K:Sl->World->Prop}(h:RdB S w s l)(hl:l.length<=1000000)(hk:∀s' B w',BufB w' s' l B->Fr [] w w'->(∀b∈B,w.heap.size<=b)->(s.a.isNone=true->s'=⟨none,0,0⟩)->(s.a.isNone=false->s'.a.isNone=false)->K s' w'): cond (Option.isNone s.a) (K ⟨none,0,0⟩ w) (new (.cells #[] 5) w fun r w1=>Pt.run [Ty1.one Cell.slice] ((Builtin.append_ #[23,23] 23 #[.slice (some ⟨r,0,none⟩) 0 0,.slice s.a s.len s.cap]).run Tryz.prog w1) fun s' w'=>K s' w'):=by
 obtain⟨i5,hi,hz,hsz,hby⟩:=qlF;refine qaa (fun hc=>?_) (fun hc=>?_);have hl0:l=[]:=by rcases h.2.2 with h3|⟨b,o,cs,T,fr,ha,_⟩;exact h3;rw[ha] at hc;cases hc
 subst hl0;exact hk _ [] w (.nil _ _ _) (.refl _ _) (by simp) (fun _=>rfl) (fun h=>by rw[hc] at h;cases h);obtain⟨a,ha⟩:∃a,s.a=some a:=by cases hs:s.a with|none=>rw[hs] at hc;cases hc|some a=>exact⟨a,rfl⟩
 have ho:=Own.start [] w;refine Own.new ho fun r w1 e1 s1 ho=>?_;have h1:RdB S w1 s l:=h.frame0 ho.fr;have hb:BufB w1 ⟨some ⟨r,0,none⟩,0,0⟩ [] [r]:=Buf.fresh qat (ho.at (i:=0) rfl) rfl (zM _) (by simp) (by simp);have hlen:=h.1;rw[ha];refine Buf.appSrc (s:=⟨some ⟨r,0,none⟩,0,0⟩) (ys:=l) (e:=5) hb qat (by kernel_rfl) hi hz hsz rfl (.ofSlice _ (e':=5) (by kernel_rfl) a s.len s.cap _ ?_ (h1.cells qat ha) ?_) hlen (by rw[hby,hlen];simp;omega) (by rw[hlen];simp;omega) fun s' B w' g1 g2 g3 g4=>?_;rw[qaH];simp[hlen];intro u hu;rw[qaH] at hu;obtain⟨x,_,rfl⟩:=List.mem_map.1 hu;rfl;have hBn:∀b∈B,w.heap.size<=b:=fun b hb=>by rcases g3 b hb with h|h;simp at h;omega;omega
 refine hk s' B w' (by simpa using g1) (ho.fr.trans' g2 (fun b hb=>by simp at hb;subst hb;exact .inr (by omega))) hBn (fun h=>by rw[hc] at h;cases h) (fun _=>?_);rcases g4 with hn|hn;exact hn;simp at hn
theorem qa2{S:List Nat}{w:World}{s:Sl}{l:List Int}{K:Sl->WP}(h:RdB S w s l)(y:l.length<=1000000)(z:∀u B w',BufB w' u l B->Fr [] w w'->(∀b∈B,w.heap.size<=b)->(s.a.isNone=true->u=⟨none,0,0⟩)->(s.a.isNone=false->u.a.isNone=false)->K u w'): cW 123 [s.v] [.one .slice] w K:=by refine qla ?_;unfold qgM;exact qjU h y z
theorem qgi{S:List Nat}{w:World}{s:Sl}{l:List Int}{K:Sl->WP}(h:RdB S w s l)(y:l.length<=1000000)(z:∀u B w',BufB w' u l B->Fr [] w w'->(∀b∈B,w.heap.size<=b)->(s.a.isNone=true->u=⟨none,0,0⟩)->(s.a.isNone=false->u.a.isNone=false)->K u w'): cW 68 [s.v] [.one .slice] w K:=by refine qmr ?_;unfold qil;exact qjU h y z
def halvesL:List Int:=[0,274646895,549293790,820201905,1098587580,1361435347,1640403810,1905808397,2197175160,2460548119,2722870694,2987750089,3280807620,3553878443,3811616794,4084100981]
abbrev HG:Nat:=1
def Hv (w:World):Prop:=∃T h,w.heap[HG]?=some (.cells (halvesL.map (Value.int .u32)).toArray T h)
theorem Hv.frame{S:List Nat}{w w':World}(h:Hv w)(f:Fr S w w')(y:HG∉S):Hv w':=by obtain⟨T,z,u⟩:=h;exact⟨T,z,by rw[f.block HG (qac u) y];exact u⟩
theorem Hv.frame0{w w':World}(h:Hv w)(f:Fr [] w w'):Hv w':=h.frame f (by simp)
theorem Hv.lt{w:World}(h:Hv w):HG<w.heap.size:=by obtain⟨T,y,u⟩:=h;exact qac u
theorem qrw(x:Int):0<=bits .and .u32 x 15/\bits .and .u32 x 15<16:=by have h:(BitVec.ofInt 32 x&&& BitVec.ofInt 32 15).toNat<16:=(by rw[BitVec.toNat_and];exact Nat.lt_of_le_of_lt Nat.and_le_right (by decide));have u:bits .and .u32 x 15=((BitVec.ofInt 32 x&&& BitVec.ofInt 32 15).toNat:Int):=(by show wrap .u32 _=_;unfold wrap;have:(IntKind.u32.signed)=false:=rfl;simp only[this,Bool.false_and,Bool.false_eq_true,if_false];have e:((2:Int)^IntKind.u32.bits)=4294967296:=rfl;rw[e];exact Int.emod_eq_of_lt (by omega) (by have:(BitVec.ofInt IntKind.u32.bits x&&& BitVec.ofInt IntKind.u32.bits 15).toNat<16:=h;omega));rw[u];omega
def half (x:Int):Int:=halvesL.getD x.toNat 0
def turn4 (r:Int):Int:=bits .xor .u32 (Int.fdiv r (2^4)) (half (bits .and .u32 r 15))
def crcStep (r x:Int):Int:=turn4 (turn4 (bits .xor .u32 r (wrap .u32 x)))
def moreV (h:Int) (l:List Int):Int:=bits .xor .u32 (l.foldl crcStep (bits .xor .u32 h 4294967295)) 4294967295
def sumV (l:List Int):Int:=moreV 0 l
theorem qq3{w:World}{x:Int}{K:Int->Prop}(h:Hv w)(k:K (half (bits .and .u32 x 15))):ld .u (Addr.add ⟨HG,0,none⟩ (Int.toNat (bits .and .u32 x 15)*1)) w K:=by obtain⟨T,G,A⟩:=h;obtain⟨C,E⟩:=qrw x;rw[Addr.add_mk];refine qah A _ ?_ k;generalize bits .and .u32 x 15=y at C E;have z:y.toNat<halvesL.length:=(by show y.toNat<16;omega);rw[xO,xQ];simp only[List.getElem?_toArray,zQ,zA z,Option.map_some,half,yQ,xS];rfl
theorem qvU{S:List Nat}{w:World}{s:Sl}{l:List Int}{z:Int}{K:Int->WP}(h:RdB S w s l)(E:Hv w)(Q:l.length<=100000)(J:K (moreV z l) w): cW 199 [.u z,s.v] [.one .u] w K:=by refine qqb ?_;unfold qm6;have G:=h.1;refine qaj (fun x w'=>w'=w/\∃i:Nat,x.2=i/\i<=l.length/\x.1=(l.take i).foldl crcStep (bits .xor .u32 z 4294967295)) (fun x _=>((l.length:Int)-x.2).toNat) ⟨rfl,0,rfl,by omega,rfl⟩ ?_;rintro⟨r,ii⟩ w' ⟨rfl,i,A,R,I⟩ X O;simp only at A I;subst A I;refine qaa (fun C=>?_) (fun C=>?_);have y:i<l.length:=(by have:=zC C;omega);refine RdB.at h i rfl (zA y) ?_;refine qaT (qrw _) ?_;refine qq3 E ?_;refine qaT (qrw _) ?_;refine qq3 E ?_;rw[wi' _ (by omega)];refine O _ _ ⟨rfl,i+1,by simp,by omega,?_⟩ (by dsimp only;omega);rw[yF y,foldl_append];rfl;have y:i=l.length:=(by have:=zB C;omega);subst y;rw[xX];exact J
theorem qtT{S:List Nat}{w:World}{s:Sl}{l:List Int}{K:Int->WP}(h:RdB S w s l)(y:Hv w)(z:l.length<=100000)(A:K (sumV l) w): cW 151 [s.v] [.one .u] w K:=by refine qrG ?_;unfold qoC;exact qvU h y z A
theorem qe9{α:Type}(A X Y Z:List α)(h:X.length=Y.length):(A++X++Z).take A.length++Y++(A++X++Z).drop (A.length+Y.length)=A++Y++Z:=by have u:(A++X++Z).take A.length=A:=(by rw[zV,take_append_of_le_length (zM _),zS (zM _)]);have y:(A++X++Z).drop (A.length+Y.length)=Z:=(by rw[<- h,<- zF,drop_append_of_le_length (zM _),drop_of_length_le (zM _),xG]);rw[u,y]
theorem qi1{A X Y Z:List Int}(h:X.length=Y.length):splice (bytesA (A++X++Z)) A.length (Y.map (Value.int .u8))=bytesA (A++Y++Z):=by
 apply Array.ext';rw[qas _ _ _ (by rw[qdI];simp only[zF,zK];omega)]
 have:=qe9 (A.map (Value.int .u8)) (X.map (Value.int .u8)) (Y.map (Value.int .u8)) (Z.map (Value.int .u8)) (by simpa using h)
 simpa only[bytesA,xJ,toList_toArray,zK] using this
def zs (n:Nat):List Int:=List.replicate n 0
theorem qaI(n:Nat):(zs n).length=n:=length_replicate
theorem qgX(a b:Nat):zs (a+b)=zs a++zs b:=replicate_append_replicate.symm
theorem qwI:zs 1=[0]:=rfl
theorem qpZ(n:Nat):(List.replicate n (Value.int .u8 0)).toArray=bytesA (zs n):=by unfold bytesA zs;rw[map_replicate]
theorem Own.bytes{S:List Nat}{w0 w:World}{L:List (Nat×Obj)}{b:Nat}{T:TypeId}{l l':List Int}(h:Own S w0 w ((b,.cells (bytesA l) T (0,0))::L))(e:l=l'):Own S w0 w ((b,.cells (bytesA l') T (0,0))::L):=by rw[<- e];exact h
def restV (number kind:Int) (body:List Int):List Int:=be number 4++[kind]++be (wrap .u32 body.length) 2++[0]++body++zs (500-body.length)
def sealV (number kind:Int) (body:List Int):List Int:=be (sumV (restV number kind body)) 4++restV number kind body
theorem qfP{number kind:Int}{body:List Int}(h:body.length<=500):(restV number kind body).length=508:=by simp only[restV,qao,qaI,zF,yH,length_nil];omega
theorem qce{number kind:Int}{body:List Int}(h:body.length<=500):(sealV number kind body).length=512:=by rw[sealV,zF,qao,qfP h]
theorem qmL{S:List Nat}{w:World}{s:Sl}{l:List Int}{number kind:Int}{K:Sl×Int->WP}(h:RdB S w s l)(I:Hv w)(hl:l.length<=100000)(E:500<l.length->K (⟨none,0,0⟩,3) w)(hk:l.length<=500->∀b T w',w'.heap[b]?=some (.cells (bytesA (sealV number kind l)) T (0,0))->Fr [] w w'->w.heap.size<=b->K (⟨pW b,512,512⟩,0) w'): cW 114 [.u number,.b kind,s.v] [.one .slice,.one .i] w K:=by
 refine qpp ?_;unfold qlW;have C:=h.1;refine qaa (fun J=>E (by have:=zC J;omega)) (fun J=>?_);have z:l.length<=500:=(by have:=zB J;omega);refine Own.mk1 (Own.start [] w) (by decide) (by decide) (by decide) (by decide) fun b w1 eb y=>?_;rw[qpZ] at y;replace y:=Own.bytes (l':=zs 4++zs 4++zs 504) y (by rw[<- qgX,<- qgX];rfl);refine qjv (by decide) (by decide) (by decide) (by decide) ?_;refine qpw (k:=4) y 0 rfl (qaI 4) (qaI 4) (by decide) fun w2 y=>?_;replace y:=Own.bytes (l':=(zs 4++be number 4)++zs 1++zs 503) y (by rw[show (504:Nat)=1+503 from rfl,qgX,zV,zV,zV]);refine qdx (by omega) (by simp) ?_;refine Own.st y 0 rfl _ (qi1 (A:=zs 4++be number 4) (X:=zs 1) (Y:=[kind]) rfl) rfl (by rw[qdI];simp only[zF,qaI,qao];rfl) fun w3 y _=>?_;replace y:=Own.bytes (l':=(zs 4++be number 4++[kind])++zs 2++zs 501) y (by rw[show (503:Nat)=2+501 from rfl,qgX,zV,zV,zV,zV,zV]);refine qjv (by omega) (by omega) (by simp) (by simp) ?_;refine qpw (k:=2) y 0 rfl (by simp only[zF,qaI,qao];rfl) (qaI 2) (by decide) fun w4 y=>?_;replace y:=Own.bytes (l':=(zs 4++be number 4++[kind]++be (wrap .u32 s.len) 2++[0])++zs l.length++zs (500-l.length)) y (by rw[show (501:Nat)=1+(l.length+(500-l.length)) by omega,qgX,qgX,qwI];simp only[zV]);refine qk9 (by omega) (by simp) (by simp) (by simp) ?_;have R:RdB S w4 s l:=h.frame0 y.fr;have U:(zs 4++be number 4++[kind]++be (wrap .u32 s.len) 2++[0]).length=12:=(by simp only[zF,qaI,qao];rfl);refine Own.copy1 (el:=5) (vs:=l.map (Value.int .u8)) y 0 rfl (by kernel_rfl) (by kernel_rfl) (by rw[zK,C];exact (xN (by show l.length<=500;omega)).symm) (fun G=>?_) (fun v I=>by obtain⟨x,_,rfl⟩:=mem_map.1 I;rfl) (by rw[qdI,zF,zF,U,qaI,qaI,zK];omega) fun V y=>?_;rcases R.2.2 with h3|⟨bb,o,cs,T,fr,ha,_⟩;rw[h3] at G;exact absurd rfl G;refine⟨_,ha,?_⟩
 have:=R.cells qat ha
 rw[qaH] at this;exact this;have e5:=qi1 (A:=zs 4++be number 4++[kind]++be (wrap .u32 s.len) 2++[0]) (X:=zs l.length) (Y:=l) (Z:=zs (500-l.length)) (qaI _);rw[U] at e5;have e7:(0:Nat)+Int.toNat 12*1=12:=rfl;rw[e7,e5] at y;replace y:=Own.bytes (l':=[]++zs 4++restV number kind l) y (by simp only[restV,C,zV,xG]);refine qiW ⟨by omega,by simp⟩ ?_;refine qk9 (by omega) (by simp) (by simp) (by simp) ?_;have O:=y.drew;have hr:RdB [] V.drew ⟨some ⟨b,0+Int.toNat 4*1,none⟩,(512:Int).toNat-Int.toNat 4,(512:Int).toNat-Int.toNat 4⟩ (restV number kind l):=by
  have:=qgJ (S:=[]) (o:=4) (n:=508) (cap:=508) (O.at (i:=0) rfl) (by rw[zF,zF,qaI,qfP z];simp) (zM _) (by simp)
  rw[xG,drop_append_of_le_length (by rw[qaI];exact zM _),drop_of_length_le (by rw[qaI];exact zM _),xG,zS (by rw[qfP z];exact zM _)] at this;exact this
 have Q:Hv V.drew:=I.frame0 O.fr;refine qtT hr Q (by rw[qfP z];decide) ?_;refine qpw (k:=4) O 0 rfl rfl (qaI 4) (by decide) fun w6 y=>?_;refine hk z b _ w6 (y.at (i:=0) rfl) y.fr (by omega)
def IsB (l:List Int):Prop:=∀x∈l,0<=x/\x<256
theorem IsB.take{l:List Int}(h:IsB l)(n:Nat):IsB (l.take n):=fun x u=>h x (yU u)
theorem IsB.drop{l:List Int}(h:IsB l)(n:Nat):IsB (l.drop n):=fun x u=>h x (yT u)
theorem qsM{l:List Int}(h:IsB l):((Lib.countByte (Lib.bytesOf l) (0:Int).toNat.toUInt8:Nat):Int)=l.length↔∀x∈l,x=0:=by
 have key:∀l:List Int,IsB l->((Lib.bytesOf l).count (0:UInt8)<=l.length/\((Lib.bytesOf l).count (0:UInt8)=l.length↔∀x∈l,x=0)):=by
  intro l;induction l with
  | nil=>intro _;simp[Lib.bytesOf]
  | cons a l ih=>
   intro u;obtain⟨E,y⟩:=ih (fun x z=>u x (zN _ z));have G:=u a (by simp);have e:Lib.bytesOf (a::l)=UInt8.ofNat a.toNat::Lib.bytesOf l:=rfl;rw[e,count_cons];have A:(UInt8.ofNat a.toNat==0)=decide (a=0):=by
    by_cases h0:a=0;subst h0;rfl;rw[zU h0,zR];intro C
    have:=congrArg UInt8.toNat C
    simp at this;omega
   rw[A];by_cases h0:a=0;subst h0;simp only[decide_true,if_true,yH,zG,forall_eq_or_imp,true_and];exact⟨by omega,by rw[<- y];omega⟩;simp only[h0,decide_false,Bool.false_eq_true,if_false,yH,zG,forall_eq_or_imp,false_and,iff_false];omega
 have:=(key l h).2
 show (((Lib.bytesOf l).count _:Nat):Int)=_↔_;rw[<- this];exact Int.ofNat_inj
theorem qmt{S:List Nat}{w:World}{s:Sl}{l:List Int}{b2 cap2:Nat}{K:Int->World->Prop}(h:RdB S w s l)(hB:IsB l)(hc2:w.cell? ⟨b2,0,none⟩=some (.int .u8 0))(hk:∀c:Int,(c=l.length↔∀x∈l,x=0)->K c w): call Tryz.prog 158 [.slice s.a s.len s.cap,.slice (some ⟨b2,0,none⟩) 1 cap2] [.one (.int .i64)] w K:=by
 refine qms (s:=s) (sep:=⟨some ⟨b2,0,none⟩,1,cap2⟩) ?_;unfold qim;have hlen:=h.1;refine cond_false (by rfl) ?_;refine cond_true (by rfl) ?_;refine qdx (by omega) (by simp) ?_;refine qeB (c:=.int .u8) 0 hc2 ?_;have hcount:(Extern.BytealgCount.count #[.slice s.a s.len s.cap,.int .u8 0]).run Tryz.prog w=.ok (.int .i64 (Lib.countByte (Lib.bytesOf l) (0:Int).toNat.toUInt8)) w:=by
  cases ha:s.a with
  | none=>
   have hl0:l=[]:=by rcases h.2.2 with h3|⟨b,o,cs,T,fr,ha',_⟩;exact h3;rw[ha] at ha';cases ha'
   subst hl0;exact Lib.run_countNil w _ _ _
  | some a=>
   refine Lib.run_countAt w a s.len s.cap l hlen.symm (fun i hi=>?_) 0
   have:=h.cells qat ha i (.int .u8 (l.getD i 0)) ?_
   exact this;rw[qaH,zQ,yQ,zA (by omega)];rfl
 refine qis (e:=Extern.BytealgCount.count) Tryz.func204 (by kernel_rfl) (by kernel_rfl) (by kernel_rfl) (by kernel_rfl) (((Lib.countByte (Lib.bytesOf l) (0:Int).toNat.toUInt8:Nat):Int)) w hcount ?_;exact hk _ (qsM hB)
def openV (number:Int) (b:List Int):Int×List Int×Int:=
 if b.length≠512 then (0,[],1)
 else if getV (b.take 4)≠sumV (b.drop 4) then (0,[],8)
 else if getV ((b.take 8).drop 4)≠number then (0,[],4)
 else if getV ((b.take 11).drop 9)>500\/b.getD 11 0≠0 then (0,[],2)
 else if ∃x∈b.drop (12+(getV ((b.take 11).drop 9)).toNat),x≠0 then (0,[],2)
 else (b.getD 8 0,(b.take (12+(getV ((b.take 11).drop 9)).toNat)).drop 12,0)
theorem qa4(x:Int)(h:0<=x/\x<4294967296):wrap .u32 x=x:=by unfold wrap;have:(IntKind.u32.signed)=false:=rfl;simp only[this,Bool.false_and,Bool.false_eq_true,if_false];exact Int.emod_eq_of_lt h.1 h.2
theorem qaV(x:Int):0<=wrap .u32 x/\wrap .u32 x<4294967296:=by unfold wrap;have:(IntKind.u32.signed)=false:=rfl;simp only[this,Bool.false_and,Bool.false_eq_true,if_false];exact⟨Int.emod_nonneg _ (by decide),Int.emod_lt_of_pos _ (by decide)⟩
theorem qci(h:BinOp)(x y:Int):0<=bits h .u32 x y/\bits h .u32 x y<4294967296:=qaV _
theorem qrL(l:List Int):0<=getV l/\getV l<4294967296:=by
 unfold getV;have:∀(l:List Int) (a:Int),0<=a/\a<4294967296->0<=l.foldl (fun r x=>bits .or .u32 (wrap .u32 (r*2^8)) (wrap .u32 x)) a/\l.foldl (fun r x=>bits .or .u32 (wrap .u32 (r*2^8)) (wrap .u32 x)) a<4294967296:=by
  intro l;induction l with
  | nil=>intro a h;exact h
  | cons x l ih=>intro a _;exact ih _ (qci _ _ _)
 exact this l 0 (by decide)
theorem qmG{S:List Nat}{w:World}{s:Sl}{l:List Int}{number:Int}{K:Int×Sl×Int->WP}(h:RdB S w s l)(hv:Hv w)(hB:IsB l)(hl:l.length<=100000)(hk:∀s' B w',BufB w' s' (openV number l).2.1 B->Fr [] w w'->(∀b∈B,w.heap.size<=b)->K ((openV number l).1,s',(openV number l).2.2) w'): cW 126 [.u number,s.v] [.one .b,.one .slice,.one .i] w K:=by
 refine qpo ?_;unfold qlV;have G:=h.1;have A:∀ {e:Int} {w':World},openV number l=(0,[],e)->Fr [] w w'->K (0,⟨none,0,0⟩,e) w':=by
  intro e w' he hf
  have:=hk ⟨none,0,0⟩ [] w' (by rw[he];exact .nil _ _ _) hf (by simp)
  rw[he] at this;exact this
 refine qaa (fun y=>?_) (fun y=>?_);refine A ?_ (.refl _ _);have:l.length≠512:=(by simp at y;omega);simp[openV,this];have I:l.length=512:=(by simp at y;omega);refine Rds.part h 0 4 rfl rfl (by omega) (by omega) fun s1 l1 r1 _=>?_;refine Rds.part h 4 512 rfl (by rw[G,I];rfl) (by omega) (by omega) fun s2 l2 r2 _=>?_;rw[zS (by omega)] at r2;rw[xD] at r1;have U:Fr [] w w.drew:=(Fr.refl _ _).drew;have ah:Hv w.drew:=hv.frame0 U;refine qoV (w:=w.drew) r1 (by rw[yK];omega) ?_;refine qtT (w:=w.drew) r2 ah (by rw[yB];omega) ?_;have R:¬l.length≠512:=(by omega);refine qaa (fun y=>?_) (fun y=>?_);refine A ?_ U;have:getV (l.take 4)≠sumV (l.drop 4):=(by simpa using y);rw[openV,if_neg R,if_pos this];have h1:¬getV (l.take 4)≠sumV (l.drop 4):=(by simpa using y);have hd:RdB S w.drew s l:=h;refine Rds.part hd 4 8 rfl rfl (by omega) (by omega) fun s3 l3 r3 _=>?_;refine qoV r3 (by rw[yB,yK];omega) ?_;refine qaa (fun y=>?_) (fun y=>?_);refine A ?_ U;have:getV ((l.take 8).drop 4)≠number:=(by simpa using y);rw[openV,if_neg R,if_neg h1,if_pos this];have h2:¬getV ((l.take 8).drop 4)≠number:=(by simpa using y);refine Rds.part hd 9 11 rfl rfl (by omega) (by omega) fun s4 l4 r4 _=>?_;refine qoV r4 (by rw[yB,yK];omega) ?_;have hn:=qrL ((l.take 11).drop 9);have aj:l[11]?=some (l.getD 11 0):=(by rw[yQ,zA (by omega)];rfl);have g8:l[8]?=some (l.getD 8 0):=(by rw[yQ,zA (by omega)];rfl);refine qaf (fun b w'=>b=decide (getV ((l.take 11).drop 9)>500\/l.getD 11 0≠0)/\w'=w.drew) ?_ ?_;refine qaa (fun y=>?_) (fun y=>?_);exact⟨by rw[zZ (Or.inl (zC y))],rfl⟩;refine RdB.at hd 11 rfl aj ⟨?_,rfl⟩
 have:=zB y
 generalize l.getD 11 0=z;by_cases hz:z=0<;>simp[this,hz];rintro b w1 ⟨rfl,rfl⟩;refine qaa (fun y=>?_) (fun y=>?_);refine A ?_ U;rw[openV,if_neg R,if_neg h1,if_neg h2,if_pos (zC y)];have h3:=zB y;have J:getV ((l.take 11).drop 9)<=500:=by rcases Int.lt_or_le 500 (getV ((l.take 11).drop 9)) with h|h;exact absurd (Or.inl h) h3;exact h
 have ov:openV number l=if ∃x∈l.drop (12+(getV ((l.take 11).drop 9)).toNat),x≠0 then (0,[],2) else (l.getD 8 0,(l.take (12+(getV ((l.take 11).drop 9)).toNat)).drop 12,0):=by rw[openV,if_neg R,if_neg h1,if_neg h2,if_neg h3]
 generalize getV ((l.take 11).drop 9)=n at hn J ov;obtain⟨m,rfl⟩:∃m:Nat,n=m:=⟨n.toNat,by omega⟩;rw[qa4 _ (by omega)];rw[zJ] at ov;refine Rds.part hd (12+m) 512 (by simp) (by rw[G,I];rfl) (by omega) (by omega) fun s5 l5 r5 _=>?_;rw[zS (by omega)] at r5;have V:=Own.start [] w.drew;refine Own.new V fun zb w2 ez sz V=>?_;have al:RdB S w2 s5 (l.drop (12+m)):=r5.frame0 V.fr;refine qmt al (hB.drop _) (V.cell (off:=0) 0 rfl rfl) fun c ab=>?_;have E:Fr [] w w2:=U.trans V.fr;have ac:=r5.1;refine qaa (fun y=>?_) (fun y=>?_);refine A ?_ E;have am:¬ ∀x∈l.drop (12+m),x=0:=by rw[<- ab];intro e;rw[e,ac] at y;simp at y
 rw[ov,if_pos];exact Classical.byContradiction fun an=>am fun x hx=>Classical.byContradiction fun ap=>an ⟨x,hx,ap⟩;have ad:∀x∈l.drop (12+m),x=0:=by rw[<- ab];rw[ac] at y;simpa using y
 rw[if_neg (by rintro⟨x,hx,R⟩;exact R (ad x hx))] at ov;have ae:RdB S w2.drew s l:=(h.frame0 E).drew;obtain⟨_,b8,o8,ar,_,af,T8,au,O,av⟩:=Rds.at ae 8 g8;have Q:af[o8+8]?=some (.b (l.getD 8 0)):=by
  have:=congrArg (·[0]?) av
  simpa using this
 refine qbD ar ⟨by omega,by omega⟩ ?_;have C:∀ {w':World},w'.heap[b8]?=some (.cells af T8 au)->w'.cell? ⟨b8,o8+Int.toNat 8*1,none⟩=some (.b (l.getD 8 0)):=fun hb=>by rw[qag hb];exact Q
 refine qeB (l.getD 8 0) (C O) ?_;refine Rds.part ae 12 (12+m) rfl (by simp) (by omega) (by omega) fun s6 l6 r6 _=>?_;have lm:((l.take (12+m)).drop 12).length=m:=(by rw[yB,yK];omega);refine qgi r6 (by rw[lm];omega) fun s7 B w3 ax f7 n7 _ _=>?_;refine qai (C (by show _=_;rw[f7.block b8 (qac O) (by simp)];exact O)) ?_;have e1:(w2.drew).heap.size=w2.heap.size:=rfl
 have:=hk s7 B w3 (by rw[ov];exact ax) (E.drew.trans f7) (fun b hb=>by have:=n7 b hb;have:=E.size;omega)
 rw[ov] at this;exact this
end Go.Proofs.YtmmkegapckbomaaGreatDoor
end
section
namespace Go.Proofs.YtmmkegapckbomaaGreatDoor
open Go Go.Pt List
open Go.IntKind (wrap)
theorem wu8(x:Int):wrap .u8 x=x%256:=by unfold wrap;have:(IntKind.u8.signed)=false:=rfl;simp only[this,Bool.false_and,Bool.false_eq_true,if_false];rfl
theorem qwA{r x:Int}(h:0<=r/\r<16777216)(u:0<=x/\x<256):bits .or .u32 (wrap .u32 (r*2^8)) (wrap .u32 x)=r*256+x:=by rw[qa4 x (by omega),qa4 (r*2^8) (by omega)];obtain⟨a,rfl⟩:∃a:Nat,r=a:=⟨r.toNat,by omega⟩;obtain⟨b,rfl⟩:∃b:Nat,x=b:=⟨x.toNat,by omega⟩;have e1:((a:Int)*2^8)=((2^8*a:Nat):Int):=(by omega);rw[e1];show wrap .u32 ((BitVec.ofInt 32 ((2^8*a:Nat):Int)||| BitVec.ofInt 32 (b:Int)).toNat:Nat)=_;rw[BitVec.toNat_or,BitVec.ofInt_natCast,BitVec.ofInt_natCast,BitVec.toNat_ofNat,BitVec.toNat_ofNat,Nat.mod_eq_of_lt (show 2^8*a<2^32 by omega),Nat.mod_eq_of_lt (show b<2^32 by omega),<- Nat.two_pow_add_eq_or_of_lt (show b<2^8 by omega)];rw[qa4 _ (by omega)];omega
def beV (l:List Int):Int:=l.foldl (fun r x=>r*256+x) 0
theorem qhf:∀ {l:List Int},IsB l->l.length<=4->getV l=beV l:=by
 have key:∀(l:List Int) (r:Int) (k:Nat),IsB l->l.length<=k->k<=4->0<=r->r<256^(4-k)->
   l.foldl (fun r x=>bits .or .u32 (wrap .u32 (r*2^8)) (wrap .u32 x)) r=l.foldl (fun r x=>r*256+x) r:=by
  intro l;induction l with
  | nil=>intros;rfl
  | cons x l ih=>
   intro r k u h z C A;have E:=u x (by simp);simp only[yH] at h;have G:r<16777216:=by
    have:(256:Int)^(4-k)<=256^3:=by
     have:(4-k)<=3:=(by omega);match k,z,h with
     | 1,_,_=>decide
     | 2,_,_=>decide
     | 3,_,_=>decide
     | 4,_,_=>decide
    have e:(256:Int)^3=16777216:=(by decide);omega
   rw[foldl_cons,foldl_cons,qwA ⟨C,G⟩ E];match k,z,h,A with
   | k+1,z,h,A=>
    refine ih _ k (fun y I=>u y (zN _ I)) (by omega) (by omega) (by omega) ?_;have e:4-k=(4-(k+1))+1:=(by omega);rw[e,Int.pow_succ];omega
 intro l u h;exact key l 0 4 u h (by decide) (by decide) (by decide)
theorem qcH{n:Int}(h:0<=n)(j:Nat)(u:j<=3):byteAt n j=n / 256^j%256:=by
 unfold byteAt;rw[wu8,Int.fdiv_eq_ediv_of_nonneg _ (by exact Int.pow_nonneg (by decide))];match j,u with
 | 0,_=>rfl
 | 1,_=>rfl
 | 2,_=>rfl
 | 3,_=>rfl
theorem be4{n:Int}(h:0<=n):be n 4=[n / 16777216%256,n / 65536%256,n / 256%256,n%256]:=by have e:be n 4=[byteAt n 3,byteAt n 2,byteAt n 1,byteAt n 0]:=rfl;rw[e,qcH h 3 (by decide),qcH h 2 (by decide),qcH h 1 (by decide),qcH h 0 (by decide)];simp
theorem be2{n:Int}(h:0<=n):be n 2=[n / 256%256,n%256]:=by have e:be n 2=[byteAt n 1,byteAt n 0]:=rfl;rw[e,qcH h 1 (by decide),qcH h 0 (by decide)];simp
theorem qbC(n:Int)(k:Nat):IsB (be n k):=by intro x h;obtain⟨i,_,rfl⟩:=mem_map.1 h;unfold byteAt;rw[wu8];omega
theorem qkM{n:Int}(h:0<=n/\n<4294967296):getV (be n 4)=n:=by rw[qhf (qbC _ _) (by rw[qao];exact zM _),be4 h.1];show (((0*256+_)*256+_)*256+_)*256+_=n;omega
theorem qoU{n:Int}(h:0<=n/\n<65536):getV (be n 2)=n:=by rw[qhf (qbC _ _) (by rw[qao];decide),be2 h.1];show (0*256+_)*256+_=n;omega
theorem qst(l:List Int):0<=sumV l/\sumV l<4294967296:=by unfold sumV moreV;exact qci _ _ _
theorem IsB.append{a b:List Int}(h:IsB a)(k:IsB b):IsB (a++b):=fun x y=>by rcases zD.1 y with u|u;exact h x u;exact k x u
theorem IsB.zs(n:Nat):IsB (zs n):=fun x h=>by
 have:=eq_of_mem_replicate h
 omega
theorem IsB.one{x:Int}(h:0<=x/\x<256):IsB [x]:=fun y u=>by simp at u;subst u;exact h
theorem qtJ{number kind:Int}{body:List Int}(h:0<=kind/\kind<256)(u:IsB body):IsB (restV number kind body):=
 (((((qbC _ _).append (.one h)).append (qbC _ _)).append (.one (by decide))).append u).append (.zs _)
theorem qcU{number kind:Int}{body:List Int}(h:0<=kind/\kind<256)(u:IsB body):IsB (sealV number kind body):=(qbC _ _).append (qtJ h u)
theorem qgd{number kind:Int}{body:List Int}(C:0<=number/\number<4294967296)(E:body.length<=500):openV number (sealV number kind body)=(kind,body,0):=by
 have u:wrap .u32 (body.length:Int)=(body.length:Int):=qa4 _ (by omega);have e0:sealV number kind body=be (sumV (restV number kind body)) 4++(be number 4++([kind]++(be body.length 2++([0]++(body++zs (500-body.length)))))):=by
  rw[sealV];conv=>lhs;rhs;rw[restV]
  rw[u];simp only[zV]
 have l4:=qao (sumV (restV number kind body)) 4;have e1:(sealV number kind body).take 4=be (sumV (restV number kind body)) 4:=(by rw[sealV,take_append_of_le_length (by rw[qao];exact zM _),zS (by rw[qao];exact zM _)]);have G:(sealV number kind body).drop 4=restV number kind body:=(by rw[sealV,drop_append_of_le_length (by rw[qao];exact zM _),drop_of_length_le (by rw[qao];exact zM _),xG]);have A:∀n,∃a b c d,be n 4=[a,b,c,d]:=fun n=>⟨_,_,_,_,rfl⟩;have I:∀n,∃a b,be n 2=[a,b]:=fun n=>⟨_,_,rfl⟩;obtain⟨J,K,O,Q,R⟩:=A (sumV (restV number kind body));obtain⟨U,V,n2,n3,y⟩:=A number;obtain⟨l0,l1,z⟩:=I body.length;have h:sealV number kind body=J::K::O::Q::U::V::n2::n3::kind::l0::l1::0::(body++zs (500-body.length)):=by rw[e0,R,y,z];rfl
 have g1:getV ((sealV number kind body).take 4)=sumV ((sealV number kind body).drop 4):=(by rw[e1,G,qkM (qst _)]);have g2:getV (((sealV number kind body).take 8).drop 4)=number:=(by have:((sealV number kind body).take 8).drop 4=be number 4:=(by rw[h,y];rfl);rw[this,qkM C]);have g3:getV (((sealV number kind body).take 11).drop 9)=body.length:=(by have:((sealV number kind body).take 11).drop 9=be body.length 2:=(by rw[h,z];rfl);rw[this,qoU (by omega)]);have g4:(sealV number kind body).getD 11 0=0:=(by rw[h];rfl);have g5:(sealV number kind body).getD 8 0=kind:=(by rw[h];rfl);have g6:(sealV number kind body).drop (12+body.length)=zs (500-body.length):=(by rw[h,Nat.add_comm];show (body++zs (500-body.length)).drop body.length=_;rw[drop_append_of_le_length (zM _),drop_length,xG]);have g7:((sealV number kind body).take (12+body.length)).drop 12=body:=(by rw[h,Nat.add_comm];show (body++zs (500-body.length)).take body.length=_;rw[take_append_of_le_length (zM _),xX]);rw[openV,if_neg (by rw[qce E];simp),if_neg (by rw[g1];simp),if_neg (by rw[g2];simp),g3,g4,if_neg (by simp;omega),zJ,g6,if_neg,g5,g7];rintro⟨x,hx,h0⟩;exact h0 (eq_of_mem_replicate hx)
def cmpL:List Int->List Int->Int
 | [],[]=>0
 | [],_::_=>-1
 | _::_,[]=>1
 | a::r,b::s=>if a<b then -1 else if b<a then 1 else cmpL r s
abbrev KLt (a b:List Int):Prop:=cmpL a b<0
theorem qll:∀a b:List Int,cmpL a b=-1\/cmpL a b=0\/cmpL a b=1
 | [],[]=>.inr (.inl rfl)
 | [],_::_=>.inl rfl
 | _::_,[]=>.inr (.inr rfl)
 | a::r,b::s=>by rw[cmpL];split;exact .inl rfl;split;exact .inr (.inr rfl);exact qll r s
theorem qio:∀a:List Int,cmpL a a=0
 | []=>rfl
 | a::r=>by rw[cmpL,if_neg (by omega),if_neg (by omega)];exact qio r
theorem qip:∀ {a b:List Int},cmpL a b=0->a=b
 | [],[],_=>rfl
 | [],_::_,h=>by simp[cmpL] at h
 | _::_,[],h=>by simp[cmpL] at h
 | a::r,b::s,h=>by rw[cmpL] at h;split at h;cases h;split at h;cases h;rw[qip h,show a=b by omega]
theorem qdv:∀a b:List Int,cmpL b a =-cmpL a b
 | [],[]=>rfl
 | [],_::_=>rfl
 | _::_,[]=>rfl
 | a::r,b::s=>by rw[cmpL,cmpL];by_cases h1:a<b;rw[if_neg (show ¬b<a by omega),if_pos h1,if_pos h1];rfl;by_cases h2:b<a;rw[if_pos h2,if_neg h1,if_pos h2];rw[if_neg h2,if_neg h1,if_neg h1,if_neg h2];exact qdv r s
theorem qaE{a:List Int}:¬KLt a a:=by unfold KLt;rw[qio];decide
theorem qaD:∀ {a b c:List Int},KLt a b->KLt b c->KLt a c
 | [],[],_,h,_=>by simp[KLt,cmpL] at h
 | [],_::_,[],_,h=>by simp[KLt,cmpL] at h
 | [],_::_,_::_,_,_=>by simp[KLt,cmpL]
 | _::_,[],_,h,_=>by simp[KLt,cmpL] at h
 | _::_,_::_,[],_,h=>by simp[KLt,cmpL] at h
 | a::r,b::s,c::t,h,g=>by unfold KLt at h g⊢;rw[cmpL] at h g⊢;by_cases h1:a<b;by_cases g1:b<c;rw[if_pos (by omega)];decide;rw[if_neg g1] at g;by_cases g2:c<b;rw[if_pos g2] at g;omega;rw[if_pos (by omega)];decide;rw[if_neg h1] at h;by_cases h2:b<a;rw[if_pos h2] at h;omega;rw[if_neg h2] at h;by_cases g1:b<c;rw[if_pos (by omega)];decide;rw[if_neg g1] at g;by_cases g2:c<b;rw[if_pos g2] at g;omega;rw[if_neg g2] at g;rw[if_neg (by omega),if_neg (by omega)];exact qaD (a:=r) (b:=s) (c:=t) h g
theorem qaW{a b:List Int}(h:KLt a b):¬KLt b a:=fun g=>qaE (qaD h g)
theorem qgu{a b:List Int}(h:KLt a b):a≠b:=fun e=>by rw[e] at h;exact qaE h
theorem qti(a b:List Int):KLt a b\/a=b\/KLt b a:=by rcases qll a b with h|h|h;exact .inl (by unfold KLt;omega);exact .inr (.inl (qip h));refine .inr (.inr ?_);unfold KLt;rw[qdv];omega
theorem qgA{a b:List Int}:¬KLt a b↔a=b\/KLt b a:=by constructor;intro h;rcases qti a b with u|u|u;exact absurd u h;exact .inl u;exact .inr u;rintro (rfl|h);exact qaE;exact qaW h
abbrev KLe (a b:List Int):Prop:=¬KLt b a
theorem qiD{a b c:List Int}(h:KLe a b)(g:KLt b c):KLt a c:=by rcases qgA.1 h with u|u;rw[<- u];exact g;exact qaD u g
theorem qbn{a b c:List Int}(h:KLt a b)(g:KLe b c):KLt a c:=by rcases qgA.1 g with u|u;rw[u];exact h;exact qaD h u
theorem qcN{a b c:List Int}(h:KLe a b)(g:KLe b c):KLe a c:=fun k=>by rcases qgA.1 h with u|u;subst u;exact g k;exact g (qaD k u)
abbrev Key:=List Int
abbrev Prs:=List (List Int×List Int)
def placeV (l:List Key) (k:Key):Nat:=(l.takeWhile fun a=>decide (KLt a k)).length
def kidV (l:List Key) (k:Key):Nat:=(l.takeWhile fun a=>decide (KLe a k)).length
def Rising (l:List Key):Prop:=l.Pairwise KLt
theorem qfd{α:Type}(p:α->Bool)(l:List α):(l.takeWhile p).length<=l.length:=(takeWhile_sublist p).length_le
theorem qny(l:List Key)(k:Key):placeV l k<=l.length:=qfd _ l
theorem qjo(l:List Key)(k:Key):kidV l k<=l.length:=qfd _ l
theorem qdE{α:Type}(p:α->Bool):∀l:List α,l.take (l.takeWhile p).length=l.takeWhile p
 | []=>rfl
 | a::r=>by
  rw[takeWhile_cons];cases h:p a with
  | true=>simp[qdE p r]
  | false=>simp
theorem qeb{α:Type}{p:α->Bool}:∀ {l:List α} {x:α},x∈l.takeWhile p->p x=true
 | a::r,x,h=>by
  rw[takeWhile_cons] at h;cases u:p a with
  | true=>
   rw[u] at h;rcases zG.1 h with rfl|h;exact u;exact qeb h
  | false=>rw[u] at h;cases h
theorem qb1{α:Type}{p:α->Bool}:∀ {l:List α} {x:α} {r:List α},l.drop (l.takeWhile p).length=x::r->p x=false
 | a::s,x,r,h=>by
  rw[takeWhile_cons] at h;cases u:p a with
  | true=>
   rw[u] at h;exact qb1 (l:=s) (by simpa using h)
  | false=>
   rw[u] at h;simp at h;rw[<- h.1];exact u
theorem qps{l:List Key}{k a:Key}(h:a∈l.take (placeV l k)):KLt a k:=by unfold placeV at h;rw[qdE] at h;exact zC (p:=KLt a k) (qeb (p:=fun a=>decide (KLt a k)) h)
theorem qrU{l:List Key}{k a:Key}(h:a∈l.take (kidV l k)):KLe a k:=by unfold kidV at h;rw[qdE] at h;exact zC (p:=KLe a k) (qeb (p:=fun a=>decide (KLe a k)) h)
theorem qbv{x:Key}{r:List Key}(h:Rising (x::r)):∀a∈r,KLt x a:=(yI.1 h).1
theorem Rising.drop{l:List Key}(h:Rising l)(n:Nat):Rising (l.drop n):=List.Pairwise.sublist (drop_sublist n l) h
theorem Rising.take{l:List Key}(h:Rising l)(n:Nat):Rising (l.take n):=List.Pairwise.sublist (take_sublist n l) h
theorem qn6{l:List Key}{k a:Key}(z:Rising l)(h:a∈l.drop (placeV l k)):KLe k a:=by
 have u:=z.drop (placeV l k);cases e:l.drop (placeV l k) with
 | nil=>rw[e] at h;cases h
 | cons x r=>
  have y:KLe k x:=zB (qb1 (p:=fun a=>decide (KLt a k)) e);rw[e] at h u;rcases zG.1 h with rfl|h;exact y;exact qcN y (qaW (qbv u a h))
theorem qqn{l:List Key}{k a:Key}(z:Rising l)(h:a∈l.drop (kidV l k)):KLt k a:=by
 have u:=z.drop (kidV l k);cases e:l.drop (kidV l k) with
 | nil=>rw[e] at h;cases h
 | cons x r=>
  have y:KLt k x:=Classical.not_not.1 (zB (qb1 (p:=fun a=>decide (KLe a k)) e));rw[e] at h u;rcases zG.1 h with rfl|h;exact y;exact qaD y (qbv u a h)
def insP (k v:Key):Prs->Prs
 | []=>[(k,v)]
 | x::r=>if KLt k x.1 then (k,v)::x::r else if k=x.1 then (k,v)::r else x::insP k v r
def cutP (k:Key) (l:Prs):Prs:=l.filter fun x=>decide (x.1≠k)
abbrev keysP (l:Prs):List Key:=l.map (·.1)
def SortP (l:Prs):Prop:=Rising (keysP l)
theorem qdd{k v:Key}:∀ {a:Prs} {l:Prs},(∀x∈a,KLt x.1 k)->insP k v (a++l)=a++insP k v l
 | [],l,_=>rfl
 | x::a,l,h=>by have u:=h x (by simp);rw[xH,insP,if_neg (qaW u),if_neg (fun e=>qgu u e.symm),qdd fun y z=>h y (zN _ z),xH]
theorem qj5{k v:Key}{b:Prs}(h:∀x∈b,KLt k x.1):∀l:Prs,insP k v (l++b)=insP k v l++b
 | []=>by
  cases b with
  | nil=>rfl
  | cons x r=>
   show insP k v (x::r)=(k,v)::x::r;rw[insP,if_pos (h x (by simp))]
 | x::l=>by rw[xH,insP,insP];split;rfl;split;rfl;rw[qj5 h l,xH]
theorem quD{k v w:Key}{a r:Prs}(h:∀x∈a,KLt x.1 k):insP k v (a++(k,w)::r)=a++(k,v)::r:=by rw[qdd h,insP,if_neg qaE,if_pos rfl]
theorem qtb{k v:Key}{a b:Prs}(h:∀x∈a,KLt x.1 k)(u:∀x∈b,KLt k x.1):insP k v (a++b)=a++(k,v)::b:=by
 rw[qdd h];cases b with
 | nil=>rfl
 | cons x r=>rw[insP,if_pos (u x (by simp))]
theorem qe1{k v:Key}{x:Key×Key}:∀ {l:Prs},x∈insP k v l->x=(k,v)\/x∈l
 | [],h=>.inl (by simpa[insP] using h)
 | y::l,h=>by rw[insP] at h;split at h;rcases zG.1 h with h|h;exact .inl h;exact .inr h;split at h;rcases zG.1 h with h|h;exact .inl h;exact .inr (zN _ h);rcases zG.1 h with h|h;exact .inr (by rw[h];simp);rcases qe1 h with h|h;exact .inl h;exact .inr (zN _ h)
theorem qng{k v:Key}:∀ {l:Prs},SortP l->SortP (insP k v l)
 | [],_=>pairwise_singleton _ _
 | x::l,h=>by have z:=yI.1 (show (x.1::keysP l).Pairwise KLt from h);rw[insP];split;rename_i A;refine yI.2 ⟨fun a u=>?_,h⟩;rcases zG.1 u with rfl|u;exact A;exact qaD A (z.1 a u);split;rename_i A;refine yI.2 ⟨fun a u=>?_,z.2⟩;show KLt k a;rw[A];exact z.1 a u;rename_i C E;refine yI.2 ⟨fun a u=>?_,qng z.2⟩;obtain⟨y,G,rfl⟩:=mem_map.1 u;rcases qe1 G with rfl|G;rcases qgA.1 C with e|e;exact absurd e E;exact e;exact z.1 _ (zY G)
theorem qbF{k v:Key}:∀ {l:Prs},k∉keysP l->(insP k v l).length=l.length+1
 | [],_=>rfl
 | x::l,h=>by rw[insP];split;rfl;split;rename_i e;exact absurd (by rw[e];simp) h;rw[yH,qbF fun u=>h (zN _ u),yH]
theorem qca{k v:Key}:∀ {l:Prs},SortP l->k∈keysP l->(insP k v l).length=l.length
 | x::l,z,h=>by have y:=yI.1 (show (x.1::keysP l).Pairwise KLt from z);rw[insP];split;rename_i u;rcases zG.1 h with e|e;rw[e] at u;exact absurd u qaE;exact absurd u (qaW (y.1 k e));split;rfl;rename_i u;rcases zG.1 h with e|e;exact absurd e u;rw[yH,qca y.2 e,yH]
theorem qlq{k:Key}{a l:Prs}(h:∀x∈a,KLt x.1 k):cutP k (a++l)=a++cutP k l:=by unfold cutP;rw[filter_append,filter_eq_self.2];intro x u;exact zZ (qgu (h x u))
theorem qjV{k:Key}{l b:Prs}(h:∀x∈b,KLt k x.1):cutP k (l++b)=cutP k l++b:=by unfold cutP;rw[filter_append];congr 1;rw[filter_eq_self];intro x u;exact zZ fun e=>qgu (h x u) e.symm
theorem qus{k w:Key}{a b:Prs}(h:∀x∈a,KLt x.1 k)(u:∀x∈b,KLt k x.1):cutP k (a++(k,w)::b)=a++b:=by rw[qlq h,show (k,w)::b=[(k,w)]++b from rfl,qjV u];unfold cutP;simp
theorem qsR{k:Key}{l:Prs}(h:SortP l):SortP (cutP k l):=List.Pairwise.sublist (List.Sublist.map _ filter_sublist) h
theorem qkQ{k:Key}{l:Prs}{x:Key×Key}:x∈cutP k l↔x∈l/\x.1≠k:=by unfold cutP;rw[mem_filter];simp
theorem SortP.app{a b:Prs}:SortP (a++b)↔SortP a/\SortP b/\∀x∈a,∀y∈b,KLt x.1 y.1:=by unfold SortP Rising keysP;rw[xJ,pairwise_append];constructor;rintro⟨h,u,z⟩;exact⟨h,u,fun x A y C=>z _ (zY A) _ (zY C)⟩;rintro⟨h,u,z⟩;refine⟨h,u,fun a E b G=>?_⟩;obtain⟨x,A,rfl⟩:=mem_map.1 E;obtain⟨y,C,rfl⟩:=mem_map.1 G;exact z x A y C
theorem qdL{l:Prs}{k:Key}(u:SortP l):(∀x∈l.take (placeV (keysP l) k),KLt x.1 k)/\∀x∈l.drop (placeV (keysP l) k),KLe k x.1:=by refine⟨fun x h=>qps (l:=keysP l) ?_,fun x h=>qn6 (l:=keysP l) u ?_⟩;rw[<- xL];exact zY h;rw[<- xM];exact zY h
theorem qrP{l:Prs}{k v:Key}(J:SortP l):insP k v l=if (keysP l)[placeV (keysP l) k]?=some k then l.set (placeV (keysP l) k) (k,v) else l.take (placeV (keysP l) k)++[(k,v)]++l.drop (placeV (keysP l) k):=by
 obtain⟨A,K⟩:=qdL (k:=k) J;have C:SortP (l.drop (placeV (keysP l) k)):=(by unfold SortP keysP;rw[xM];exact Rising.drop J _);generalize V:placeV (keysP l) k=i at A K C;have E:l=l.take i++l.drop i:=(xC i l).symm;cases e:l.drop i with
 | nil=>
  have O:l.length<=i:=drop_eq_nil_iff.1 e;rw[if_neg (by rw[yR (by rw[zK];exact O)];simp)];conv=>lhs;rw[E,e]
  rw[qdd A];simp[insP]
 | cons x r=>
  have Q:=K x (by rw[e];simp);have u:i<l.length:=by rcases Nat.lt_or_ge i l.length with h|h;exact h;rw[xZ h] at e;cases e
  have R:l[i]=x:=by
   have:=zX u
   rw[e] at this;exact (List.cons.inj this).1.symm
  have U:l.drop (i+1)=r:=by
   have:=zX u
   rw[e] at this;exact (List.cons.inj this).2.symm
  have G:(keysP l)[i]?=some x.1:=(by rw[zQ,zA u,R];rfl);rw[G];by_cases hk:x.1=k
  ·rw[if_pos (by rw[hk])];conv=>lhs;rw[E,e]
   obtain⟨a,w⟩:=x;dsimp only at hk;subst hk;rw[quD A,set_eq_take_append_cons_drop,if_pos u,U]
  ·rw[if_neg (fun h=>hk (yN h))];have z:KLt k x.1:=by rcases qgA.1 Q with h|h;exact absurd h hk;exact h
   conv=>lhs;rw[E,e]
   rw[qtb A];simp;intro y I;rcases zG.1 I with rfl|I;exact z;rw[e] at C;exact qaD z (qbv (x:=x.1) (r:=keysP r) C y.1 (zY I))
theorem qcd{l:Prs}{k:Key}(A:SortP l):(keysP l)[placeV (keysP l) k]?=some k↔k∈keysP l:=by
 constructor;exact fun h=>yE h;intro G;obtain⟨I,J⟩:=qdL (k:=k) A;obtain⟨x,z,rfl⟩:=mem_map.1 G;have u:x∈l.drop (placeV (keysP l) x.1):=by rw[<- xC (placeV (keysP l) x.1) l,zD] at z;rcases z with z|z;exact absurd (I x z) qaE;exact z
 have C:SortP (l.drop (placeV (keysP l) x.1)):=(by unfold SortP keysP;rw[xM];exact Rising.drop A _);cases e:l.drop (placeV (keysP l) x.1) with
 | nil=>rw[e] at u;cases u
 | cons y r=>
  have K:=J y (by rw[e];simp);rw[e] at u C;have O:y.1=x.1:=by rcases zG.1 u with rfl|u;rfl;exact absurd (qbv (x:=y.1) (r:=keysP r) C x.1 (zY u)) K
  have E:(l.drop (placeV (keysP l) x.1))[0]?=some y:=(by rw[e];rfl);rw[yZ] at E;rw[zQ,show l[placeV (keysP l) x.1]?=some y by simpa using E,<- O];rfl
theorem qlr{l:Prs}{k:Key}(z:SortP l)(G:k∈keysP l):cutP k l=l.take (placeV (keysP l) k)++l.drop (placeV (keysP l) k+1):=by
 have u:=(qcd z).2 G;obtain⟨E,I⟩:=qdL (k:=k) z;generalize placeV (keysP l) k=i at E I u;have h:i<l.length:=by
  have:=(zP.1 u).1
  simpa using this
 have J:l=l.take i++l[i]::l.drop (i+1):=(by rw[<- zX h,xC]);have A:l[i].1=k:=(by rw[zQ,zA h] at u;exact yN u);have C:SortP (l.drop i):=(by unfold SortP keysP;rw[xM];exact Rising.drop z _);rw[zX h] at C;conv=>lhs;rw[J]
 obtain⟨a,w,e⟩:∃a w,l[i]=(a,w):=⟨_,_,rfl⟩;rw[e] at A C⊢;dsimp only at A;subst A;exact qus E fun y K=>qbv (x:=a) (r:=keysP (l.drop (i+1))) C y.1 (zY K)
def shp (t:Int):Int×Int:=
 if t=0 then (16,88) else if t=1 then (16,108) else if t=2 then (16,1) else if t=3 then (16,16)
 else if t=4 then (24,16) else if t=5 then (24,16) else if t=6 then (24,65) else if t=7 then (1,8) else (0,0)
theorem qfQ(t:Int):t=0\/t=1\/t=2\/t=3\/t=4\/t=5\/t=6\/t=7\/(t≠0/\t≠1/\t≠2/\t≠3/\t≠4/\t≠5/\t≠6/\t≠7):=by omega
theorem quh{t:Int}{w:World}{K:Int×Int->WP}(h:K (shp t) w):cW 63 [.i t] [.one .i,.one .i] w K:=by apply qn9;unfold qku;rcases qfQ t with rfl|rfl|rfl|rfl|rfl|rfl|rfl|rfl|⟨u,y,z,A,C,E,G,I⟩<;>simpa[shp, *] using h
theorem qfu{t:Int}{w:World}{K:Int×Int->WP}(h:K (shp t) w):cW 15 [.i t] [.one .i,.one .i] w K:=by apply qf9;unfold qdb;rcases qfQ t with rfl|rfl|rfl|rfl|rfl|rfl|rfl|rfl|⟨u,y,z,A,C,E,G,I⟩<;>simpa[shp, *] using h
def caps (k v:Int):Int×Int:=if k<1\/k>24\/v<0\/v>108 then (0,0) else (498 / (k+v),(498+k) / (4+k))
theorem qvg{k v:Int}{w:World}{K:Int×Int->WP}(h:∀w',Same w w'->K (caps k v) w'):cW 64 [.i k,.i v] [.one .i,.one .i] w K:=by
 apply qpg;unfold qlN;by_cases hc:k<1\/k>24\/v<0\/v>108;refine qeZ true w (fun M u=>?_) ?_;by_cases h1:k<1;simpa[h1] using u;by_cases h2:k>24;simpa[h1,h2] using u;by_cases h3:v<0;simpa[h1,h2,h3] using u;have y:v>108:=(by omega);simpa[h1,h2,h3,y] using u
 have:=h w (.refl w)
 simpa[caps,hc] using this;refine qeZ false w (fun M u=>?_) ?_;simpa[show ¬k<1 by omega,show ¬k>24 by omega,show ¬v<0 by omega,show ¬v>108 by omega] using u
 have:=h w.drew (Same.refl w).drew
 simp only[caps,hc,if_false] at this;have e1:IntKind.i64.wrap (k+v)=k+v:=IntWalk.i64_in _ (by omega);have z:IntKind.i64.wrap (4+k)=4+k:=IntWalk.i64_in _ (by omega);have A:IntKind.i64.wrap (498+k)=498+k:=IntWalk.i64_in _ (by omega);have G:0<k+v:=(by omega);have I:0<4+k:=(by omega);have C:(498:Int).tdiv (k+v)=498 / (k+v):=Int.tdiv_eq_ediv_of_nonneg (by omega);have E:(498+k).tdiv (4+k)=(498+k) / (4+k):=Int.tdiv_eq_ediv_of_nonneg (by omega);have J:498 / (k+v)<=498:=Int.ediv_le_self _ (by omega);have O:(498+k) / (4+k)<=498+k:=Int.ediv_le_self _ (by omega);have Q:0<=498 / (k+v):=Int.ediv_nonneg (by omega) (by omega);have R:0<=(498+k) / (4+k):=Int.ediv_nonneg (by omega) (by omega);rw[e1,z,A,C,E,IntWalk.i64_in _ ⟨by omega,by omega⟩,IntWalk.i64_in _ ⟨by omega,by omega⟩];exact⟨by omega,by omega,this⟩
abbrev good (t:Int):Prop:=0<=t/\t<=7
end Go.Proofs.YtmmkegapckbomaaGreatDoor
end
section
namespace Go.Proofs.YtmmkegapckbomaaGreatDoor
open Go Go.Pt List
open Go.IntKind (wrap)
attribute [local irreducible] ld ldA ldV fld fldA newZ st new idx idxS idxA slc slcS slcP mkS chk nn call callV inv run runQ runU join loop held ext rng undefer s2a nxt ent IntKind.wrap
def needP (n:Nat):Nat:=if n=0 then 0 else (n-1) / 124+1
theorem qol{n:Nat}{w:World}{K:Int->WP}(z:n<=1000000)(h:K (needP n) w):cW 101 [.i n] [.one .i] w K:=by
 refine qkK ?_;unfold qgr;refine qaa (fun u=>?_) (fun u=>?_)
 have:=zC u
 have y:n=0:=(by omega);subst y;exact h
 have:=zB u
 have y:n≠0:=(by omega);rw[needP,if_neg y] at h;rw[wi' ((n:Int)-1) (by omega)];have e:Int.tdiv ((n:Int)-1) 124=(((n-1) / 124:Nat):Int):=(by rw[Int.tdiv_eq_ediv_of_nonneg (by omega)];omega);rw[e,wi' (((n-1) / 124:Nat):Int) (by omega),wi' ((((n-1) / 124:Nat):Int)+1) (by omega)];exact h
def risesB:Int->List Int->Bool
 | _,[]=>true
 | a,x::r=>decide (a<x)&&risesB x r
theorem qpB{S:List Nat}{w:World}{s:Sl}{l:List Int}{K:Bool->WP}(h:Rd S w s l)(J:l.length<=1000000)(A:K (risesB 1 l) w): cW 164 [s.v] [.one .bool] w K:=by
 refine qjD ?_;unfold qfG;have G:=h.1;refine qaj (fun x w'=>w'=w/\∃i:Nat,x.2=i/\i<=l.length/\risesB x.1 (l.drop i)=risesB 1 l) (fun x _=>((l.length:Int)-x.2).toNat) ⟨rfl,0,rfl,by omega,by simp⟩ ?_;rintro⟨a,ii⟩ w' ⟨rfl,i,z,O,y⟩ X I;simp only at z y;subst z;refine qaa (fun C=>?_) (fun C=>?_);have u:i<l.length:=(by have:=zC C;omega);refine Rd.at h i rfl (zA u) ?_;rw[zX u,risesB] at y;refine qaa (fun E=>?_) (fun E=>?_)
 have:=zC E
 rw[show decide (a<l[i])=false by rw[decide_eq_false_iff_not];omega,Bool.false_and] at y;rw[<- y] at A;exact A
 have:=zB E
 rw[show decide (a<l[i])=true by rw[yM];omega,Bool.true_and] at y;rw[wi' _ (by omega)];exact I _ _ ⟨rfl,i+1,by simp,by omega,y⟩ (by dsimp only;omega);have u:i=l.length:=(by have:=zB C;omega);subst u;rw[drop_length] at y;rw[<- y] at A;exact A
theorem qvv(n:Int):byteAt n 0=wrap .u8 n:=by
 unfold byteAt;have:Int.fdiv n (2^min (8*0) 32)=n:=by show Int.fdiv n (2^0)=n;simp
 rw[this]
theorem qnA{w:World}{s:Sl}{l:List Int}{B:List Nat}{n:Int}{K:Sl->WP}(h:BufB w s l B)(hl:l.length<=1000000)(Q:∀y B' w',BufB w' y (l++be n 4) B'->Fr B w w'->(∀b∈B',b∈B\/w.heap.size<=b)->K y w'): new (.cells #[.b (wrap .u8 (Int.fdiv n (2^24))),.b (wrap .u8 (Int.fdiv n (2^16))),.b (wrap .u8 (Int.fdiv n (2^8))),.b (wrap .u8 n)] 5) w fun r R=> Pt.run [Ty1.one Cell.slice] ((Builtin.append_ #[23,23] 23 #[s.v,.slice (pW r) 4 4]).run Tryz.prog R) fun y w'=>K y w':=by obtain⟨i5,z,U,A,C⟩:=qlF;refine Own.new' (Own.start [] w) fun r w1 e1 E V=>?_;have G:be n 4=[byteAt n 3,byteAt n 2,byteAt n 1,byteAt n 0]:=rfl;have aa:=E.size;refine Buf.appSrc (ys:=be n 4) (e:=5) (h.frame0 E) qat (by kernel_rfl) z U A rfl (.ofSlice _ (e':=5) (by kernel_rfl) _ 4 4 _ (by rw[qaH];simp[qao]) (fun j u J=>?_) (fun u O=>?_)) (qao n 4).symm (by rw[C];omega) (by omega) fun y B' w' g1 g2 g3 _=>?_;rw[Addr.add_mk,qag (V.at (i:=0) rfl),xO];rw[qaH,G,qvv] at J;rw[List.getElem?_toArray];exact J;rw[qaH] at O;obtain⟨x,_,rfl⟩:=mem_map.1 O;rfl;refine Q y B' w' g1 ((E.mono (fun i z _=>by cases z)).trans' g2 (fun b I=>.inl I)) (fun b I=>?_);rcases g3 b I with h|h;exact .inl h;exact .inr (by omega)
theorem qq1{w:World}{s:Sl}{l:List Int}{B:List Nat}{n:Int}{K:Sl->WP}(h:BufB w s l B)(z:l.length<=1000000)(A:∀y B' w',BufB w' y (l++be n 4) B'->Fr B w w'->(∀b∈B',b∈B\/w.heap.size<=b)->K y w'): cW 166 [s.v,.u n] [.one .slice] w K:=by refine qlA ?_;unfold qhI;exact qnA h z A
theorem qkW{A B:Int}(k:Nat)(C:0<=A)(y:A%2^k=0)(E:0<=B)(h:B<2^k)(G:A+B<4294967296):bits .or .u32 A B=A+B:=by
 obtain⟨a,rfl⟩:∃a:Nat,A=a:=⟨A.toNat,by omega⟩;obtain⟨b,rfl⟩:∃b:Nat,B=b:=⟨B.toNat,by omega⟩;have z:a%2^k=0:=by have:((a:Int)%((2^k:Nat):Int))=0:=(by rw[Int.natCast_pow];exact y);omega
 have u:b<2^k:=(by have:(b:Int)<((2^k:Nat):Int):=(by rw[Int.natCast_pow];exact h);omega);obtain⟨q,rfl⟩:∃q,a=2^k*q:=⟨a / 2^k,by have:=Nat.div_add_mod a (2^k);omega⟩;show wrap .u32 ((BitVec.ofInt 32 ((2^k*q:Nat):Int)||| BitVec.ofInt 32 (b:Int)).toNat:Nat)=_;rw[BitVec.toNat_or,BitVec.ofInt_natCast,BitVec.ofInt_natCast,BitVec.toNat_ofNat,BitVec.toNat_ofNat,Nat.mod_eq_of_lt (show 2^k*q<2^32 by omega),Nat.mod_eq_of_lt (show b<2^32 by omega),<- Nat.two_pow_add_eq_or_of_lt u];rw[qa4 _ (by omega)];omega
def get4V (a b c d:Int):Int:=bits .or .u32 (bits .or .u32 (bits .or .u32 (wrap .u32 (wrap .u32 a*2^24)) (wrap .u32 (wrap .u32 b*2^16))) (wrap .u32 (wrap .u32 c*2^8))) (wrap .u32 d)
theorem qoS{a b c d:Int}(h:0<=a/\a<256)(u:0<=b/\b<256)(y:0<=c/\c<256)(z:0<=d/\d<256):get4V a b c d=((a*256+b)*256+c)*256+d:=by unfold get4V;rw[qa4 a (by omega),qa4 b (by omega),qa4 c (by omega),qa4 d (by omega),qa4 (a*2^24) (by omega),qa4 (b*2^16) (by omega),qa4 (c*2^8) (by omega)];rw[qkW (A:=a*2^24) (B:=b*2^16) 24 (by omega) (by omega) (by omega) (by omega) (by omega)];rw[qkW (B:=c*2^8) 16 (by omega) (by omega) (by omega) (by omega) (by omega)];rw[qkW (B:=d) 8 (by omega) (by omega) (by omega) (by omega) (by omega)];omega
theorem qul{n:Int}(h:0<=n/\n<4294967296):get4V (n / 16777216%256) (n / 65536%256) (n / 256%256) (n%256)=n:=by rw[qoS (by omega) (by omega) (by omega) (by omega)];omega
def first4 (l:List Int):Int:=get4V (l.getD 0 0) (l.getD 1 0) (l.getD 2 0) (l.getD 3 0)
theorem getD_some{l:List Int}{n:Nat}(h:n<l.length):l[n]?=some (l.getD n 0):=by rw[yQ,zA h];rfl
theorem qs2{S:List Nat}{w:World}{s:Sl}{l:List Int}{K:Int->WP}(h:RdB S w s l)(E:4<=l.length)(u:K (first4 l) w): (idx s 0 1 fun a=>ld .b a w fun y=>idx s 1 1 fun a=>ld .b a w fun z=>idx s 2 1 fun a=>ld .b a w fun A=>idx s 3 1 fun a=>ld .b a w fun C=>K (get4V y z A C) w):=by refine RdB.at h 0 rfl (getD_some (by omega)) ?_;refine RdB.at h 1 rfl (getD_some (by omega)) ?_;refine RdB.at h 2 rfl (getD_some (by omega)) ?_;refine RdB.at h 3 rfl (getD_some (by omega)) ?_;exact u
theorem qq0{S:List Nat}{w:World}{s:Sl}{l:List Int}{K:Int->WP}(h:RdB S w s l)(y:4<=l.length)(z:K (first4 l) w.drew):cW 163 [s.v] [.one .u] w K:=by refine qlz ?_;unfold qhH;exact qs2 (w:=w.drew) h y z
theorem qpn{A B:Int}(k:Nat)(C:0<=A)(y:A%2^k=0)(E:0<=B)(h:B<2^k)(G:A+B<4294967296):bits .or .i64 A B=A+B:=by
 obtain⟨a,rfl⟩:∃a:Nat,A=a:=⟨A.toNat,by omega⟩;obtain⟨b,rfl⟩:∃b:Nat,B=b:=⟨B.toNat,by omega⟩;have z:a%2^k=0:=by have:((a:Int)%((2^k:Nat):Int))=0:=(by rw[Int.natCast_pow];exact y);omega
 have u:b<2^k:=(by have:(b:Int)<((2^k:Nat):Int):=(by rw[Int.natCast_pow];exact h);omega);obtain⟨q,rfl⟩:∃q,a=2^k*q:=⟨a / 2^k,by have:=Nat.div_add_mod a (2^k);omega⟩;show wrap .i64 ((BitVec.ofInt 64 ((2^k*q:Nat):Int)||| BitVec.ofInt 64 (b:Int)).toNat:Nat)=_;rw[BitVec.toNat_or,BitVec.ofInt_natCast,BitVec.ofInt_natCast,BitVec.toNat_ofNat,BitVec.toNat_ofNat,Nat.mod_eq_of_lt (show 2^k*q<2^64 by omega),Nat.mod_eq_of_lt (show b<2^64 by omega),<- Nat.two_pow_add_eq_or_of_lt u];rw[wi' _ (by omega)];omega
def cntV (l:List Int):Int:=l.getD 4 0*256+l.getD 5 0
def numsV (l:List Int) (n:Nat):List Int:=(List.range n).map fun i=>first4 (l.drop (6+4*i))
def parseV (l:List Int):Int×List Int×Int:=
 if l.length<6 then (0,[],2) else
 if first4 l=1\/cntV l>123\/(l.length:Int)≠6+4*cntV l then (0,[],2) else
 if risesB 1 (numsV l (cntV l).toNat) then (first4 l,numsV l (cntV l).toNat,0) else (0,[],2)
theorem qsz{S:List Nat}{w:World}{s:Sl}{l:List Int}{K:Int×Sl×Int->WP}(h:RdB S w s l)(hB:IsB l)(hl:l.length<=100000)(hk:∀s' B w',BufU w' s' (parseV l).2.1 B->Fr [] w w'->(∀b∈B,w.heap.size<=b)->K ((parseV l).1,s',(parseV l).2.2) w'): cW 130 [s.v] [.one .u,.one .slice,.one .i] w K:=by
 refine qjB ?_;unfold qfE;have C:=h.1;have G:∀ {e:Int} {w':World},parseV l=(0,[],e)->Fr [] w w'->K (0,⟨none,0,0⟩,e) w':=by
  intro e w' he hf
  have:=hk ⟨none,0,0⟩ [] w' (by rw[he];exact .nil _ _ _) hf (by simp)
  rw[he] at this;exact this
 refine qaa (fun y=>?_) (fun y=>?_)
 have:=zC y
 exact G (by rw[parseV,if_pos (by omega)]) (.refl _ _);have h6:¬l.length<6:=(by have:=zB y;omega);have fd:Fr [] w w.drew:=(Fr.refl _ _).drew;have z:Fr [] w w.drew.drew:=fd.drew;obtain⟨_,b4,o4,ag,aG,ah,T4,aH,O,ai⟩:=Rds.at h 4 (getD_some (l:=l) (n:=4) (by omega));obtain⟨_,b5,o5,aj,aI,ak,T5,aJ,Q,al⟩:=Rds.at h 5 (getD_some (l:=l) (n:=5) (by omega));have g4:ah[o4+4]?=some (.b (l.getD 4 0)):=(by have:=congrArg (·[0]?) ai;simpa using this);have g5:ak[o5+5]?=some (.b (l.getD 5 0)):=(by have:=congrArg (·[0]?) al;simpa using this);have c4:∀ {w':World},Fr [] w w'->w'.cell? ⟨b4,o4+Int.toNat 4*1,none⟩=some (.b (l.getD 4 0)):=fun f=>by rw[qag (by rw[f.block b4 (qac O) (by simp)];exact O)];exact g4
 have c5:∀ {w':World},Fr [] w w'->w'.cell? ⟨b5,o5+Int.toNat 5*1,none⟩=some (.b (l.getD 5 0)):=fun f=>by rw[qag (by rw[f.block b5 (qac Q) (by simp)];exact Q)];exact g5
 refine qbD ag ⟨by omega,by omega⟩ ?_;refine qeB (l.getD 4 0) (c4 fd) ?_;refine qbD aj ⟨by omega,by omega⟩ ?_;refine qeB (l.getD 5 0) (c5 fd) ?_;refine qq0 (w:=w.drew) (S:=S) h (by omega) ?_;refine qam (c5 z) (c4 z) ?_;have r4:0<=l.getD 4 0/\l.getD 4 0<256:=hB _ (yE (getD_some (l:=l) (n:=4) (by omega)));have r5:0<=l.getD 5 0/\l.getD 5 0<256:=hB _ (yE (getD_some (l:=l) (n:=5) (by omega)));have R:bits .or .i64 (wrap .i64 (wrap .i64 (l.getD 4 0)*2^8)) (wrap .i64 (l.getD 5 0))=cntV l:=by rw[wi' (l.getD 4 0) (by omega),wi' (l.getD 5 0) (by omega),wi' (l.getD 4 0*2^8) (by omega),qpn 8 (by omega) (by omega) (by omega) (by omega) (by omega)];rfl
 have aD:0<=cntV l/\cntV l<65536:=(by unfold cntV;omega);rw[R];refine qaf (fun b w'=>b=decide (first4 l=1\/cntV l>123\/(l.length:Int)≠6+4*cntV l)/\w'=w.drew.drew) ?_ ?_;refine qaa (fun y=>?_) (fun y=>?_);exact⟨by rw[zZ (Or.inl (by simpa using y))],rfl⟩;have am:¬first4 l=1:=(by simpa using y);refine qaa (fun I=>?_) (fun I=>?_);exact⟨by rw[zZ (Or.inr (Or.inl (zC I)))],rfl⟩;have U:¬cntV l>123:=zB I;refine⟨?_,rfl⟩;rw[wi' (4*cntV l) (by omega),wi' (6+4*cntV l) (by omega),C];by_cases h3:(l.length:Int)=6+4*cntV l<;>simp[am,U,h3];rintro b w1 ⟨rfl,rfl⟩;refine qaa (fun y=>G (by rw[parseV,if_neg h6,if_pos (zC y)]) z) (fun y=>?_);have J:=zB y;have V:cntV l<=123:=by rcases Int.lt_or_le 123 (cntV l) with h|h;exact absurd (Or.inr (Or.inl h)) J;exact h
 have an:(l.length:Int)=6+4*cntV l:=Classical.byContradiction fun h=>J (Or.inr (Or.inr h));have pv:parseV l=if risesB 1 (numsV l (cntV l).toNat) then (first4 l,numsV l (cntV l).toNat,0) else (0,[],2):=by rw[parseV,if_neg h6,if_neg J]
 obtain⟨n,hn⟩:∃n:Nat,cntV l=n:=⟨(cntV l).toNat,by omega⟩;rw[hn] at V an pv⊢;rw[zJ] at pv;refine qaj (fun x w'=>∃(i:Nat) (B:List Nat),x.2=i/\i<=n/\BufU w' x.1 (numsV l i) B/\Fr [] w w'/\∀b∈B,w.heap.size<=b) (fun x _=>((n:Int)-x.2).toNat)
  ⟨0,[],rfl,by omega,.nil _ _ _,z,by simp⟩ ?_
 rintro⟨s1,ii⟩ w2 ⟨i,B,aa,hi,E,f2,n2⟩ X hX;simp only at aa E;subst aa;refine qaa (fun y=>?_) (fun y=>?_);have ab:i<n:=(by have:=zC y;omega);rw[wi' (4*(i:Int)) (by omega),wi' (6+4*(i:Int)) (by omega)];have h2:RdB S w2 s l:=h.frame0 f2;refine Rds.part h2 (6+4*i) l.length (by simp) (by rw[C];rfl) (by omega) (by omega) fun s3 l3 r3 _=>?_;rw[xX] at r3;refine qq0 r3 (by rw[yB];omega) ?_;have ac:Fr [] w w2.drew:=f2.drew;refine qr8 (w:=w2.drew) (B:=B) E (by simp[numsV];omega) fun s4 B4 w4 g1 g2 g3=>?_;rw[wi' _ (by omega)];have aU:=ac.size;refine hX _ _ ⟨i+1,B4,by simp,by omega,?_,ac.trans' g2 (fun b E=>.inr (n2 b E)),fun b E=>?_⟩ (by dsimp only;omega);have:numsV l (i+1)=numsV l i++[first4 (l.drop (6+4*i))]:=(by simp[numsV,range_succ]);rw[this];exact g1;rcases g3 b E with h|h;exact n2 b h;omega;have ab:i=n:=(by have:=zB y;omega);subst ab;refine qpB (S:=[]) (E.rds qaF (by simp)) (by simp[numsV];omega) ?_;refine qaa (fun hr=>?_) (fun hr=>?_);have A:¬risesB 1 (numsV l i)=true:=(by simpa using hr);exact G (by rw[pv,if_neg A]) f2;have A:risesB 1 (numsV l i)=true:=by simpa using hr
 have:=hk s1 B w2 (by rw[pv,if_pos A];exact E) f2 n2
 rw[pv,if_pos A] at this;exact this
def encS:Sl->List Value:=fun s=>[s.v]
theorem qoH:∀x,(encS x).length=1:=fun _=>rfl
theorem qwL:∃i,Tryz.prog.info? 23=some i/\i.zero=some (.slice none 0 0)/\i.size=1/\i.bytes=24:=qjm (by kernel_rfl)
def Bodies (S:List Nat) (w:World) (s:Sl) (u:List (List Int)) (B:List Nat):Prop:=
 ∃h:List Sl,Buf encS 1 w s h B/\h.length=u.length/\∀(i:Nat) sl l,h[i]?=some sl->u[i]?=some l->RdB (S++B) w sl l
theorem Bodies.nil(S:List Nat)(w:World):Bodies S w ⟨none,0,0⟩ [] []:=⟨[],.nil _ _ _,rfl,fun i sl l h=>by simp at h⟩
theorem Bodies.frame{S S':List Nat}{w w':World}{s:Sl}{A:List (List Int)}{B:List Nat}(h:Bodies S w s A B)(f:Fr S w w')(C:∀b∈B,b∉S)(y:∀b∈S',b∈S\/w.heap.size<=b):Bodies S' w' s A B:=by obtain⟨z,E,G,I⟩:=h;refine⟨z,E.frame f C,G,fun i sl l J K=>(I i sl l J K).frame (f.mono fun b u _=>zH _ u) fun b u=>?_⟩;rcases zD.1 u with u|u;rcases y b u with h|h;exact .inl (zH _ h);exact .inr h;exact .inl (zI _ u)
theorem Bodies.push{S:List Nat}{w:World}{s sl:Sl}{E:List (List Int)}{B:List Nat}{l:List Int}{T:TypeId}{K:Sl->WP}(h:Bodies S w s E B)(U:RdB (S++B) w sl l)(hl:E.length<=1000000)(V:∀C B' w',Bodies S w' C (E++[l]) B'->Fr B w w'->(∀b∈B',b∈B\/w.heap.size<=b)->K C w'): Pt.new (.cells #[sl.v] T) w fun r w1=>Pt.run [Ty1.one Cell.slice] ((Builtin.append_ #[22,22] 22 #[s.v,.slice (pW r) 1 1]).run Tryz.prog w1) K:=by
 obtain⟨i,hi,hz,G,I⟩:=qwL;obtain⟨A,h1,J,h3⟩:=h;refine Buf.push (e:=23) (x:=sl) h1 qoH (by simp[encS,Value.oneCell']) (by kernel_rfl) hi hz G rfl rfl (by rw[I];omega) (by omega) fun C B' w' b' O n'=>?_;refine V C B' w' ⟨_,b',by simp[J],fun j sj lj y u=>?_⟩ O n';have Q:∀b∈S++B',b∈S++B\/w.heap.size<=b:=fun b z=>by rcases zD.1 z with z|z;exact .inl (zH _ z);rcases n' b z with h|h;exact .inl (zI _ h);exact .inr h
 have R:Fr (S++B) w w':=O.mono fun b z _=>zI _ z;by_cases hjl:j<A.length;rw[yY hjl] at y;rw[yY (by omega)] at u;exact (h3 j sj lj y u).frame R Q;by_cases hje:j=A.length;subst hje;rw[yX (zM _),Nat.sub_self] at y;rw[J,yX (zM _),Nat.sub_self] at u;simp at y u;subst y u;exact U.frame R Q;rw[yR (by rw[zF];simp;omega)] at y;cases y
def bodyV (next:Int) (c:List Int):List Int:=be next 4++[wrap .u8 (Int.fdiv c.length (2^8)),wrap .u8 c.length]++c.flatMap (be · 4)
def bodiesL (numbers pages:List Int) (k:Nat):List (List Int):=(List.range k).map fun i=>bodyV (pages.getD (i+1) 0) ((numbers.drop (123*i)).take 123)
def bodiesV (numbers pages:List Int):List (List Int)×Int:=
 if risesB 1 numbers=false\/numbers.length>123*pages.length then ([],1) else if ∃p∈pages,p<2 then ([],1) else (bodiesL numbers pages pages.length,0)
theorem quf{w:World}{s:Sl}{n:Int}{K:Value->WP}(z:∀u y w',Fr [] w w'->(∀S w0 L,Own S w0 w L->Own S w0 w' ((u,.cells #[.i n] 3 (0,0))::(y,.cells #[s.v] 92 (0,0))::L))->K (.func (.func 208) #[] #[.pointer (pW u),.pointer (pW y)]) w'): cW 165 [s.v,.i n] [.one .any] w K:=by refine qjC ?_;unfold qfF;refine Pt.qiH ?_;refine Pt.qiH ?_;exact z _ _ _ (((Fr.refl [] w).alloc _).alloc _) fun S w0 L h=>(h.alloc _).alloc _
theorem qdc:∀l:List Int,(l.flatMap (be · 4)).length=l.length*4
 | []=>rfl
 | x::l=>by rw[yG,zF,qao,qdc l,yH];omega
theorem qwb(a b:Int):([a,b]:List Int).length=2:=rfl
theorem qro{S G:List Nat}{w:World}{sn sp:Sl}{numbers pages:List Int}{K:Sl×Int->WP}(hn:Rd S w sn numbers)(I:Rd S w sp pages)(bX:numbers.length<=100000)(bY:pages.length<=100000)(hG:∀b∈G,b<w.heap.size)(hk:∀s' B w',Bodies G w' s' (bodiesV numbers pages).1 B->Fr [] w w'->(∀b∈B,w.heap.size<=b)->K (s',(bodiesV numbers pages).2) w'): cW 132 [sn.v,sp.v] [.one .slice,.one .i] w K:=by
 refine qiy ?_;unfold qeW;have bf:=hn.1;have bg:=I.1;have aR:∀ {w':World},bodiesV numbers pages=([],1)->Fr [] w w'->K (⟨none,0,0⟩,1) w':=by
  intro w' he hf
  have:=hk ⟨none,0,0⟩ [] w' (by rw[he];exact .nil _ _) hf (by simp)
  rw[he] at this;exact this
 refine Own.new' (Own.start [] w) fun r1 w1 e1 f1 ho=>?_;have bi:Rd S w1 sn numbers:=hn.frame0 ho.fr;have bj:Rd S w1 sp pages:=I.frame0 ho.fr;refine qaf (fun b w'=>b=decide (risesB 1 numbers=false\/numbers.length>123*pages.length)/\w'=w1) ?_ ?_;refine qpB bi (by omega) ?_;refine qaa (fun hc=>?_) (fun hc=>?_);have hr:risesB 1 numbers=false:=(by simpa using hc);exact⟨by rw[zZ (Or.inl hr)],rfl⟩;have hr:risesB 1 numbers=true:=(by simpa using hc);refine Own.ld ho 0 rfl sp rfl ⟨?_,rfl⟩;rw[wi' (123*(sp.len:Int)) (by omega),bf,bg];have e:decide ((numbers.length:Int)>123*(pages.length:Int))=decide (numbers.length>123*pages.length):=by by_cases h:numbers.length>123*pages.length;rw[zZ h,zZ];omega;rw[zU h,zU];omega
 rw[e];by_cases h:numbers.length>123*pages.length<;>simp[hr,h];rintro b w2 ⟨rfl,rfl⟩;refine qaa (fun hc=>aR (by rw[bodiesV,if_pos (zC hc)]) ho.fr) (fun hc=>?_);have aS:=zB hc;refine Own.ld ho 0 rfl sp rfl ?_;refine qaj (fun x w'=>w'=w2/\∃i:Nat,x.2.2=i/\i<=pages.length/\∀p∈pages.take i,¬p<2) (fun x _=>((pages.length:Int)-x.2.2).toNat) ⟨rfl,0,rfl,by omega,by simp⟩ ?_;rintro⟨sx,ex,ii⟩ w3 ⟨rfl,i,aT,hi,am⟩ X hX;simp only at aT;subst aT;dsimp only;refine qaa (fun hc=>?_) (fun hc=>?_);have an:i<pages.length:=(by have:=zC hc;omega);refine Rd.at bj i rfl (zA an) ?_;refine qaa (fun hx=>?_) (fun hx=>?_);exact aR (by rw[bodiesV,if_neg aS,if_pos ⟨pages[i],zW an,zC hx⟩]) ho.fr;rw[wi' _ (by omega)];refine hX _ _ ⟨rfl,i+1,by simp,by omega,fun p I=>?_⟩ (by dsimp only;omega);rw[yF an] at I;rcases zD.1 I with I|I;exact am p I;simp at I;subst I;exact zB hx;have an:i=pages.length:=(by have:=zB hc;omega);subst an;rw[xX] at am;have bn:bodiesV numbers pages=(bodiesL numbers pages pages.length,0):=by rw[bodiesV,if_neg aS,if_neg];rintro⟨p,I,h2⟩;exact am p I h2
 rw[bn] at hk;refine Own.new' ho fun ro w4 eo fo ho=>?_;refine Own.ld ho 1 rfl sp rfl ?_;refine quf fun V rl w5 f5 aU=>?_;have bo:=aU _ _ _ ho;refine Own.rng (lb:=[.pointer (pW V),.pointer (pW rl)]) bo rfl (by kernel_rfl) fun Dm l R Bz J E E0 w6 el eD b1 aV hy=>?_;refine qhd ?_;unfold qdW;refine Own.ld aV 2 rfl sp.len rfl ?_;refine qaj (fun x w'=>∃(j:Nat) (U so:Sl) (Bo:List Nat),x=j/\j<=pages.length/\Rd [] w U (numbers.drop (123*j))/\Bodies ([l,Dm,V,rl,ro,r1]++G) w' so (bodiesL numbers pages j) Bo/\(∀b∈Bo,w.heap.size<=b/\b∉[l,Dm,V,rl,ro,r1])/\
   Own [] w w' [(l,R),(Dm,.deferred (some [])),(V,.cells #[.i sp.len] 3 (0,0)),(rl,.cells #[U.v] 92 (0,0)),(ro,.cells #[so.v] 22 (0,0)),(r1,.cells #[sp.v] 92 (0,0))]) (fun x _=>((pages.length:Int)-x).toNat)
  ⟨0,sn,⟨none,0,0⟩,[],rfl,by omega,hn.weak (fun b y=>by cases y),.nil _ _,by simp,aV⟩ ?_
 rintro x w7 ⟨j,U,so,Bo,rfl,hj,aG,ao,aj,Q⟩ X hX;have ag:∀b∈Bo,b∉[l,Dm,V,rl,ro,r1]++G:=fun b y A=>by
  rcases zD.1 A with A|A;exact (aj b y).2 A
  have:=hG b A;have:=(aj b y).1;omega
 have br:=aG.1;rw[yB] at br;refine qaa (fun hc=>?_) (fun hc=>?_)
 ·have b3:j<pages.length:=(by have:=zC hc;omega);refine Own.ld Q 3 rfl U rfl ?_;refine Own.ld Q 3 rfl U rfl ?_;obtain⟨m,A,O⟩:∃m:Nat,(if (123:Int)<(U.len:Int) then 123 else (U.len:Int))=m/\m=Nat.min 123 U.len:=(by by_cases h:123<U.len;exact⟨123,by rw[if_pos (by omega)];rfl,(xN (by omega)).symm⟩;exact⟨U.len,by rw[if_neg (by omega)],(Nat.min_eq_right (by omega)).symm⟩);rw[A];have bs:m<=123:=(by rw[O];exact Nat.min_le_left _ _);have bO:m<=U.len:=(by rw[O];exact Nat.min_le_right _ _);refine Rds.part aG 0 m rfl rfl (by omega) (by rw[yB];omega) fun cs bP ay _=>?_;rw[xD] at ay;have ah:(numbers.drop (123*j)).take m=(numbers.drop (123*j)).take 123:=(by by_cases h:123<U.len;rw[O];congr 1;exact xN (by omega);have:m=U.len:=(by rw[O];exact Nat.min_eq_right (by omega));rw[this,zS (by rw[yB];omega),zS (by rw[yB];omega)]);generalize bt:(numbers.drop (123*j)).take m=chunk at ay ah;have aW:chunk.length=m:=(by rw[<- bt,yK,yB];omega);have aE:cs.len=m:=(by omega);refine hy ((j:Int),cs) w7 _ (Q.at (i:=0) rfl) ?_;dsimp only;refine⟨Q.at (i:=0) rfl,?_⟩;have z:=Q.upd (o':=Bz) 0 rfl;have C:=z.rebaseS [];have aX:Rd [] (Pt.upd w7 l Bz) sp pages:=(I.weak (fun b y=>by cases y)).frame0 z.fr;have ap:Bodies ([l,Dm,V,rl,ro,r1]++G) (Pt.upd w7 l Bz) so (bodiesL numbers pages j) Bo:=ao.frame ((qbl (qac (Q.at (i:=0) rfl)) Bz).mono fun b y _=>by simp at y;subst y;simp) ag (fun b y=>.inl y);have aY:=ao.choose_spec.1.lt;refine qaf (fun x w'=>x=pages.getD (j+1) 0/\w'=Pt.upd w7 l Bz) ?_ ?_;refine Own.ld C 5 rfl sp rfl ?_;rw[wi' ((j:Int)+1) (by omega)];refine qaa (fun aH=>?_) (fun aH=>?_);have h2:j+1<pages.length:=(by have:=zC aH;omega);refine Own.ld C 5 rfl sp rfl ?_;refine Rd.at aX (j+1) (by omega) (getD_some h2) ?_;exact⟨rfl,rfl⟩;have h2:¬j+1<pages.length:=(by have:=zB aH;omega);exact⟨by rw[yQ,yR (by omega)];rfl,rfl⟩;rintro x w8 ⟨rfl,rfl⟩;generalize bu:pages.getD (j+1) 0=next
  have hW:(Pt.upd w7 l Bz).heap.size=w7.heap.size:=qbT _ _ _;generalize b5:Pt.upd w7 l Bz=w8 at z C aX hW ap;have bQ:Rd [] w8 cs chunk:=ay.frame0 z.fr;have ai:∀p∈[l,Dm,V,rl,ro,r1],p<w8.heap.size:=fun p I=>by have ak:=fun (k:Nat) (q:Nat×Obj) (hq:_[k]?=some q)=>qac (z.at (i:=k) hq);simp only[zG,xV,or_false] at I;rcases I with rfl|rfl|rfl|rfl|rfl|rfl;exact ak 0 _ rfl;exact ak 1 _ rfl;exact ak 2 _ rfl;exact ak 3 _ rfl;exact ak 4 _ rfl;exact ak 5 _ rfl
  obtain⟨i5,bv,bw,aZ,a0⟩:=qlF;refine qq1 (s:=⟨none,0,0⟩) (l:=[]) (B:=[]) (.nil _ _ _) (by simp) fun s9 B9 w9 b9 f9 n9=>?_;rw[xG] at b9;have C:=C.frame0 f9;refine Own.new' C fun r2 b8 b' a1 C=>?_;have aJ:∀b∈B9,w8.heap.size<=b:=fun b y=>by rcases n9 b y with h|h;cases h;exact h
  refine Buf.appSrc (ys:=[wrap .u8 (Int.fdiv chunk.length (2^8)),wrap .u8 chunk.length]) (e:=5) (b9.frame0 a1) qat (by kernel_rfl) bv bw aZ rfl (.ofSlice _ (e':=5) (by kernel_rfl) _ 2 2 _ (by rw[qaH];rfl) (fun q u hq=>?_) (fun u hu=>?_)) rfl (by rw[a0,qao];decide) (by rw[qao];decide) fun ca a2 cb bz bA bB _=>?_;rw[Addr.add_mk,qag (C.at (i:=0) rfl),xO,aE,<- aW];rw[qaH] at hq;rw[List.getElem?_toArray];exact hq;rw[qaH] at hu;obtain⟨x,_,rfl⟩:=mem_map.1 hu;rfl;have cc:=f9.size;have bT:=a1.size;have bC:=b9.lt;have C:=(C.sub (sublist_cons_self _ _)).frame bA (fun b y=>.inr (aJ b y)) (fun p I y=>by have h1:=ai p.1 (zY (f:=(·.1)) I);have h2:=aJ _ y;omega);have a3:∀b∈a2,w8.heap.size<=b:=fun b y=>by rcases bB b y with h|h;exact aJ b h;omega
  refine qaj (fun x w'=>∃(q:Nat) (Bq:List Nat),x.2=q/\q<=m/\BufB w' x.1 (be next 4++[wrap .u8 (Int.fdiv chunk.length (2^8)),wrap .u8 chunk.length]++(chunk.take q).flatMap (be · 4)) Bq/\(∀b∈Bq,w8.heap.size<=b)/\
    Own ([l,Dm,V,rl,ro,r1]++[]) w8 w' [(l,Bz),(Dm,.deferred (some [])),(V,.cells #[.i sp.len] 3 (0,0)),(rl,.cells #[U.v] 92 (0,0)),(ro,.cells #[so.v] 22 (0,0)),(r1,.cells #[sp.v] 92 (0,0))]) (fun x _=>((m:Int)-x.2).toNat)
   ⟨0,a2,rfl,by omega,by simpa using bz,a3,C⟩ ?_
  rintro⟨bE,qq⟩ aK ⟨q,Bq,a4,cd,bq,nq,hq⟩ Y hY;simp only at a4 bq;subst a4;dsimp only;rw[aE];refine qaa (fun aL=>?_) (fun aL=>?_)
  ·have aq:q<chunk.length:=(by have:=zC aL;omega);have aM:Rd [] aK cs chunk:=ay.frame0 (z.backS (T:=[]) (by simp) hq.fr);refine Rd.at aM q rfl (zA aq) ?_;have aN:(be next 4++[wrap .u8 (Int.fdiv chunk.length (2^8)),wrap .u8 chunk.length]++(chunk.take q).flatMap (be · 4)).length<=1000000:=(by rw[zF,zF,qao,qdc,yK,qwb];omega);refine qq1 bq aN fun a5 az aA aO aP aQ=>?_;rw[wi' _ (by omega)];refine hY _ _ ⟨q+1,az,by simp,by omega,?_,fun b y=>?_,hq.frame aP (fun b y=>.inr (nq b y)) (fun p I y=>?_)⟩ (by dsimp only;omega);rw[yF aq,yP,flatMap_singleton,<- zV];exact aO;rcases aQ b y with h|h;exact nq b h;exact zL hq.fr.size h;have h1:=ai p.1 (zY (f:=(·.1)) I);have h2:=nq _ y;omega
  ·have bF:q=m:=(by have:=zB aL;omega);subst bF;rw[zS (by omega)] at bq;refine Own.ld hq 4 rfl so rfl ?_;have a6:RdB (([l,Dm,V,rl,ro,r1]++G)++Bo) aK bE (bodyV next chunk):=bq.rds qat fun b y A=>by
    have h2:=nq _ y;rcases zD.1 A with A|A;rcases zD.1 A with A|A
    have:=ai b A;omega
    have:=hG b A;have:=z.fr.size;omega
    have:=aY b A;omega
   have aB:Bodies ([l,Dm,V,rl,ro,r1]++G) aK so (bodiesL numbers pages j) Bo:=ap.frame (hq.fr.mono fun b y _=>by rw[xF] at y;exact zH _ y) ag (fun b y=>.inl y);refine Bodies.push aB a6 (by rw[bodiesL,zK,length_range];omega) fun a5 az aA aO aP aQ=>?_;have ar:=(z.rejoin (T:=[]) (by simp) hq).frame aP (fun b y=>.inr (aj b y).1) (fun p I y=>(aj _ y).2 (zY (f:=(·.1)) I));refine Own.sz ar 4 rfl _ fun cf ar bG=>?_;refine⟨ar.at (i:=0) rfl,?_⟩;have aq:=ar.upd (o':=R) 0 rfl;refine cond_false rfl ?_;refine Own.ld aq 3 rfl U rfl ?_;refine Rds.part aG q (numbers.drop (123*j)).length rfl (by rw[yB];show (U.len:Int)=_;omega) (by rw[yB];omega) (zM _) fun cr bV a7 _=>?_;refine Own.sz aq 3 rfl _ fun bH bI bJ=>?_;rw[wi' _ (by omega)];have au:∀b∈az,w.heap.size<=b/\b∉[l,Dm,V,rl,ro,r1]:=fun b y=>by
    rcases aQ b y with h|h;exact aj b h;have h1:=hq.fr.size;refine⟨?_,fun A=>?_⟩
    have:=z.fr.size;omega
    have:=ai b A;omega
   have ff:Fr [l,Dm,V,rl,ro,r1] aA bH:=
    (bG.mono fun b y _=>by simp at y;subst y;simp).trans' ((qbl (qac (ar.at (i:=0) rfl)) R).mono (T:=[l,Dm,V,rl,ro,r1]) fun b y _=>by simp at y;subst y;simp) (fun b y=>.inl y) |>.trans' (bJ.mono (T:=[l,Dm,V,rl,ro,r1]) fun b y _=>by simp at y;subst y;simp) (fun b y=>.inl y)
   have aC:=aO.frame (ff.mono fun b y _=>zH _ y) (fun b y A=>by
    rcases zD.1 A with A|A;exact (au b y).2 A
    have:=hG b A;have:=(au b y).1;omega) (fun b y=>.inl y)
   have a8:((numbers.drop (123*j)).take (numbers.drop (123*j)).length).drop q=numbers.drop (123*(j+1)):=(by rw[xX,xB];by_cases h:123<U.len;rw[show q=123 by rw[O];exact xN (by omega),Nat.mul_add];have:q=U.len:=(by rw[O];exact Nat.min_eq_right (by omega));rw[xZ (by omega),xZ (by omega)]);rw[a8] at a7;have aN:bodiesL numbers pages (j+1)=bodiesL numbers pages j++[bodyV next chunk]:=(by rw[bodiesL,range_succ,xJ,map_singleton,bu,<- ah];rfl);refine hX _ _ ⟨j+1,cr,a5,az,by simp,by omega,a7,by rw[aN];exact aC,au,bI⟩ (by omega)
 have bK:j=pages.length:=(by have:=zB hc;omega);subst bK;refine .inl ⟨Q.at (i:=0) rfl,?_⟩;have z:=Q.upd (o':=E0) 0 rfl;refine Own.ld z 4 rfl so rfl ?_;refine Own.undefer z.rebase 1 rfl fun aA hd=>?_;have bL:Bodies ([l,Dm,V,rl,ro,r1]++G) (Pt.upd w7 l E0) so (bodiesL numbers pages pages.length) Bo:=ao.frame ((qbl (qac (Q.at (i:=0) rfl)) E0).mono fun b y _=>by simp at y;subst y;simp) ag (fun b y=>.inl y);exact hk so Bo aA (bL.frame (S':=G) (hd.fr.mono fun b y _=>zH _ y) ag (fun b y=>.inl (zI _ y))) (z.back (L':=[]) hd.fr) (fun b y=>(aj b y).1)
def supV (q:Int) (t:List Int):List Value:=.int .u64 q::t.map (Value.int .u32)
def superB (q:Int) (t:List Int):List Int:=be (wrap .u32 (Int.fdiv q (2^32))) 4++be (wrap .u32 q) 4++t.flatMap (be · 4)
theorem qcn{q:Int}{t:List Int}(h:t.length=27):(superB q t).length=116:=by rw[superB,zF,zF,qao,qao,qdc,h]
theorem qaG{q:Int}{t:List Int}(h:t.length=27):(supV q t).length=28:=by simp[supV,h]
theorem qgR{q:Int}{t:List Int}(n:Nat)(h:n<t.length):(supV q t).toArray[n+1]?=some (.u (t.getD n 0)):=by simp[supV,yQ,zA h]
theorem qhC(q:Int)(t:List Int):((supV q t).all Value.oneCell')=true:=by rw[all_eq_true];intro v h;rcases zG.1 h with rfl|h;rfl;obtain⟨x,_,rfl⟩:=mem_map.1 h;rfl
theorem qoA{α:Type}{enc:α->List Value}{k:Nat}{w:World}{s:Sl}{l:List α}{B:List Nat}(h:Buf enc k w s l B):Buf enc k w.drew s l B:=h
def Apart (w0:World) (L:List (Nat×Obj)) (B:List Nat):Prop:=∀b∈B,w0.heap.size<=b/\b∉L.map (·.1)
theorem Apart.cons{w0:World}{L:List (Nat×Obj)}{B:List Nat}{r:Nat}{o:Obj}(h:Apart w0 L B)(z:r∉B):Apart w0 ((r,o)::L) B:=fun b u=>⟨(h b u).1,fun y=>by rcases zG.1 y with rfl|y;exact z u;exact (h b u).2 y⟩
theorem Apart.tail{w0:World}{L:List (Nat×Obj)}{B:List Nat}{p:Nat×Obj}(h:Apart w0 (p::L) B):Apart w0 L B:=fun b u=>⟨(h b u).1,fun y=>(h b u).2 (zN _ y)⟩
theorem qrI{l:List Int}{j:Nat}(h:j+3<=l.length):l.drop j=l.getD j 0::l.getD (j+1) 0::l.getD (j+2) 0::l.drop (j+3):=by rw[zX (by omega),zX (i:=j+1) (by omega),zX (i:=j+1+1) (by omega)];simp only[yQ];rw[zA (show j<l.length by omega),zA (show j+1<l.length by omega),zA (show j+2<l.length by omega)];rfl
theorem take3{l:List Int}{j:Nat}(h:j+3<=l.length):l.take (j+3)=l.take j++[l.getD j 0,l.getD (j+1) 0,l.getD (j+2) 0]:=by rw[take_add,qrI h];rfl
theorem qwV{l:List Int}{j:Nat}(h:j+3<=l.length):(l.map (Value.int .u32)).extract j (j+3)=[.u (l.getD j 0),.u (l.getD (j+1) 0),.u (l.getD (j+2) 0)]:=by rw[extract_eq_take_drop,<- xM,qrI h,show j+3-j=3 by omega];rfl
theorem qc1{w0 w:World}{L:List (Nat×Obj)}{s:Sl}{l:List Int}{B:List Nat}{n:Int}{K:Sl->WP}(A:Own [] w0 w L)(h:BufB w s l B)(C:Apart w0 L B)(I:l.length<=1000000)(J:∀z B' w',Own [] w0 w' L->BufB w' z (l++be n 4) B'->Apart w0 L B'->K z w'): cW 167 [s.v,.u n] [.one .slice] w K:=by
 refine qpQ ?_;unfold qmg;refine qnA h I fun z B' w' O Q n'=>?_;refine J z B' w' (A.frame Q (fun b y=>.inr (C b y).1) (fun p E y=>(C _ y).2 (zY E))) O fun b y=>?_;rcases n' b y with G|G;exact C b G;refine⟨zL A.fr.size G,fun R=>?_⟩;obtain⟨p,E,rfl⟩:=mem_map.1 R
 have:=qac (A.blk p E)
 omega
theorem qsF{w:World}{q:Int}{t:List Int}{K:Sl->WP}(hv:Hv w)(E:t.length=27)(hk:∀b T w',w'.heap[b]?=some (.cells (bytesA (sealV (wrap .u32 (Int.tmod q 2)) 1 (superB q t))) T (0,0))->Fr [] w w'->w.heap.size<=b->K ⟨pW b,512,512⟩ w'): cW 133 [.agg (supV q t).toArray] [.one .slice] w K:=by
 refine qmQ ?_;unfold qi4;refine Own.new' (Own.start [] w) fun r1 w1 e1 f1 y=>?_;have Q:(supV q t).toArray[0]?=some (.int .u64 q):=rfl;have C:=fun n (h:n<27)=>qgR (q:=q) (t:=t) n (by omega);refine Own.ld y.drew 0 rfl q Q ?_;refine Own.ld y.drew 0 rfl q Q ?_;refine qc1 (s:=⟨none,0,0⟩) (l:=[]) (B:=[]) y.drew (.nil _ _ _) (fun b z=>by cases z) (by simp) fun s5 B5 w6 y R G=>?_;refine qai (y.cell (off:=0) 0 rfl Q) ?_;refine qc1 y R G (by simp[qao]) fun s8 B8 w9 y b8 n8=>?_;refine Own.ld y.drew 0 rfl (t.getD 0 0) (C 0 (by decide)) ?_;refine Own.ld y.drew 0 rfl (t.getD 1 0) (C 1 (by decide)) ?_;refine Own.ld y.drew 0 rfl (t.getD 2 0) (C 2 (by decide)) ?_;refine qc1 y.drew (qoA b8) n8 (by simp[qao]) fun ax ay az y U V=>?_;refine qam (y.cell (off:=3) 0 rfl (C 2 (by decide))) (y.cell (off:=2) 0 rfl (C 1 (by decide))) ?_;refine qc1 y U V (by simp[qao]) fun aA aB aC y aa ab=>?_;refine qai (y.cell (off:=3) 0 rfl (C 2 (by decide))) ?_;refine qc1 y aa ab (by simp[qao]) fun aD ac aE y I ad=>?_;have hr:((supV q t).toArray.toList.drop 4).take 24=(t.drop 3).map (Value.int .u32):=by show (List.drop 3 (t.map (Value.int .u32))).take 24=_;rw[xM,zS (by rw[yB,zK,E];decide)]
 refine qaZ (y.at (i:=0) rfl) ((t.drop 3).map (Value.int .u32)) (by rw[zK,yB,E]) hr ?_;have ae:(t.drop 3).length=24:=(by rw[yB,E]);have af:t=[t.getD 0 0,t.getD 1 0,t.getD 2 0]++t.drop 3:=by
  have:=qrI (l:=t) (j:=0) (by omega)
  rw[xD] at this;exact this
 have base:[]++be (wrap .u32 (Int.fdiv q (2^32))) 4++be (wrap .u32 q) 4++be (t.getD 0 0) 4++be (t.getD 1 0) 4++be (t.getD 2 0) 4=be (wrap .u32 (Int.fdiv q (2^32))) 4++be (wrap .u32 q) 4++[t.getD 0 0,t.getD 1 0,t.getD 2 0].flatMap (be · 4):=(by simp);rw[base] at I;refine qaj (fun x w'=>∃(i:Nat) (B:List Nat),x.2=i/\i<=8/\BufB w' x.1 (be (wrap .u32 (Int.fdiv q (2^32))) 4++be (wrap .u32 q) 4++[t.getD 0 0,t.getD 1 0,t.getD 2 0].flatMap (be · 4)++((t.drop 3).take (3*i)).flatMap (be · 4)) B/\Own [] w w' [(r1,.cells (supV q t).toArray 121 (0,0))]/\Apart w [(r1,.cells (supV q t).toArray 121 (0,0))] B) (fun x _=>(8-x.2).toNat)
  ⟨0,ac,rfl,by omega,by simpa using I,y,ad⟩ ?_
 rintro⟨s,ii⟩ w2 ⟨i,B,J,aG,A,y,nb⟩ X hX;simp only at J A;subst J;dsimp only;have aj:(be (wrap .u32 (Int.fdiv q (2^32))) 4++be (wrap .u32 q) 4++[t.getD 0 0,t.getD 1 0,t.getD 2 0].flatMap (be · 4)++((t.drop 3).take (3*i)).flatMap (be · 4)).length<=200:=by rw[zF,zF,zF,qao,qao,qdc,qdc,yK,ae];show 4+4+3*4+_<=200;omega
 refine qaa (fun hc=>?_) (fun hc=>?_);have hi:i<8:=(by have:=zC hc;omega);refine qaT ⟨by omega,by omega⟩ ?_;have h3:3*i+3<=(t.drop 3).length:=(by omega);refine qvB ((t.drop 3).getD (3*i) 0,(t.drop 3).getD (3*i+1) 0,(t.drop 3).getD (3*i+2) 0) ?_ ?_
 have:=qwV h3
 rw[show Int.toNat (i:Int)*3=3*i by simp;omega];exact this;refine Own.new' y fun r2 w3 e3 f3 u=>?_;refine Own.sz u 0 rfl _ fun w4 u f4=>?_;have ah:=A.lt;have O:r2∉B:=fun z=>by have:=ah _ z;omega
 have A:=(A.frame0 f3).frame f4 (fun b z hm=>by simp only[zE] at hm;subst hm;exact O z);refine Own.ld u.drew 0 rfl ((t.drop 3).getD (3*i) 0) rfl ?_;refine Own.ld u.drew 0 rfl ((t.drop 3).getD (3*i+1) 0) rfl ?_;refine Own.ld u.drew 0 rfl ((t.drop 3).getD (3*i+2) 0) rfl ?_;refine qc1 u.drew (qoA A) (nb.cons O) (by omega) fun s5 B5 w5 u R G=>?_;refine qam (u.cell (off:=2) 0 rfl rfl) (u.cell (off:=1) 0 rfl rfl) ?_;refine qc1 u R G (by rw[zF,qao];omega) fun s6 B6 w6 u b6 n6=>?_;refine qai (u.cell (off:=2) 0 rfl rfl) ?_;refine qc1 u b6 n6 (by rw[zF,zF,qao,qao];omega) fun s7 B7 w7 u b7 n7=>?_;rw[wi' _ (by omega)];refine hX _ _ ⟨i+1,B7,by simp,by omega,?_,u.sub (sublist_cons_self _ _),n7.tail⟩ (by dsimp only;omega);rw[show 3*(i+1)=3*i+3 by omega,take3 h3,yP];have e:([(t.drop 3).getD (3*i) 0,(t.drop 3).getD (3*i+1) 0,(t.drop 3).getD (3*i+2) 0]:List Int).flatMap (be · 4)=be ((t.drop 3).getD (3*i) 0) 4++be ((t.drop 3).getD (3*i+1) 0) 4++be ((t.drop 3).getD (3*i+2) 0) 4:=(by simp);rw[e];simpa only[zV] using b7;obtain rfl:i=8:=by have:=zB hc;omega
 rw[zS (by omega),zV,<- yP,<- af] at A;refine Own.ld y 0 rfl q Q ?_;have z:=A.rds (S:=[]) qat (by simp);refine qmL z (hv.frame0 y.fr) (by show (superB q t).length<=_;rw[qcn E];decide) (fun h=>?_) fun _ b T w5 h5 f5 G=>?_;have h':500<(superB q t).length:=h;rw[qcn E] at h';exact absurd h' (by decide);exact hk b T w5 h5 (y.fr.trans' f5 (by simp)) (zL y.fr.size G)
theorem qcQ{w0 w:World}{L:List (Nat×Obj)}{r:Nat}{s:Sl}{l:List Int}{K:Int->WP}(E:Own [] w0 w L)(i:Nat)(hi:L[i]?=some (r,.cells #[s.v] 23 (0,0)))(h:RdB [] w0 s l)(G:4<=l.length)(I:∀z w',RdB [] w0 z (l.drop 4)->Own [] w0 w' (L.set i (r,.cells #[z.v] 23 (0,0)))->K (first4 l) w'): callV Tryz.prog (.func (.func 231) #[] #[.pointer (pW r)]) [] [.one .u] w K:=by refine qba (lb:=[.pointer (pW r)]) rfl (by kernel_rfl) ?_;refine qjM ?_;unfold qfY;have y:=E.drew;have A:RdB [] w.drew s l:=h.frame0 y.fr;refine Own.ld y i hi s rfl ?_;refine RdB.at A 0 rfl (getD_some (by omega)) ?_;refine Own.ld y i hi s rfl ?_;refine RdB.at A 1 rfl (getD_some (by omega)) ?_;refine Own.ld y i hi s rfl ?_;refine RdB.at A 2 rfl (getD_some (by omega)) ?_;refine Own.ld y i hi s rfl ?_;refine RdB.at A 3 rfl (getD_some (by omega)) ?_;refine Own.ld y i hi s rfl ?_;refine Rds.drop h 4 rfl G (by omega) fun z J=>?_;refine Own.st y i hi _ rfl rfl rfl fun w' C _=>?_;exact I z w' J C
def parseQ (l:List Int):Int:=bits .or .u64 (wrap .u64 (wrap .u64 (first4 l)*2^32)) (wrap .u64 (first4 (l.drop 4)))
def parseT (l:List Int):List Int:=(List.range 27).map fun i=>first4 (l.drop (8+4*i))
theorem qaR(l:List Int):(parseT l).length=27:=by simp[parseT]
def supN (q:Int) (f:Nat->Int) (n:Nat):Array Value:=(supV q ((List.range n).map f++zs (27-n))).toArray
theorem qmd{q x y:Int}{A Z:List Int}:splice (supV q (A++x::Z)).toArray (A.length+1) [.u y]=(supV q (A++y::Z)).toArray:=by
 apply Array.ext'
 have:=qe9 (.int .u64 q::A.map (Value.int .u32)) [Value.int .u32 x] [Value.int .u32 y] (Z.map (Value.int .u32)) rfl
 rw[qas _ _ _ (by simp[supV])];simpa[supV] using this
theorem qc3{q:Int}{f:Nat->Int}{n:Nat}(h:n<27):splice (supN q f n) (n+1) [.u (f n)]=supN q f (n+1):=by
 have z:zs (27-n)=0::zs (27-(n+1)):=by rw[show 27-n=(27-(n+1))+1 by omega];rfl
 have:=qmd (q:=q) (x:=0) (y:=f n) (A:=(List.range n).map f) (Z:=zs (27-(n+1)))
 rw[zK,length_range] at this;rw[supN,z,this,supN,range_succ,xJ,zV];rfl
theorem qtV{q q':Int}{f:Nat->Int}{n:Nat}:splice (supN q f n) 0 [.int .u64 q']=supN q' f n:=by apply Array.ext';rw[qas _ _ _ (by simp[supN,supV])];simp[supN,supV]
theorem qc2{q:Int}{f:Nat->Int}{n:Nat}(h:n<=27):(supN q f n).size=28:=by simp[supN,supV,qaI];omega
theorem qtU{q:Int}{f:Nat->Int}:supN q f 27=(supV q ((List.range 27).map f)).toArray:=by show (supV q ((List.range 27).map f++[])).toArray=_;rw[xF]
theorem qsE{S:List Nat}{w:World}{s:Sl}{l:List Int}{K:List Value->WP}(h:RdB S w s l)(hl:l.length=116)(hk:∀w',Fr [] w w'->K (supV (parseQ l) (parseT l)) w'): cW 207 [s.v] [.raw] w K:=by
 refine qmR ?_;unfold qi5;have h0:RdB [] w s l:=h.weak (by simp);have I:((Tryz.prog.info? 121).bind (·.zero)).map (fun z=>z.cells.toList)=some (supV 0 (zs 27)):=(by kernel_rfl);refine Own.new' (Own.start [] w) fun r1 w1 e1 f1 u=>?_;refine Own.newZ u I fun r3 w2 e3 u=>?_;refine Own.newZ u I fun A w3 e5 u=>?_;refine qcQ u 2 rfl h0 (by omega) fun s1 w4 h1 u=>?_;have C:∀(q:Int),(supV q (zs 27)).toArray=supN q (fun i=>first4 (l.drop (8+4*i))) 0:=fun q=>rfl;refine Own.st' u 0 rfl (supN (wrap .u64 (wrap .u64 (first4 l)*2^32)) (fun i=>first4 (l.drop (8+4*i))) 0) ?_ rfl ?_ fun w5 u _=>?_;rw[C 0];exact qtV;exact zO rfl;refine Own.ld u.drew 0 rfl (wrap .u64 (wrap .u64 (first4 l)*2^32)) rfl ?_;refine qcQ u.drew 2 rfl h1 (by rw[yB];omega) fun s2 w6 J u=>?_;refine qai (u.cell (off:=0) 0 rfl rfl) ?_;refine Own.st' u 0 rfl (supN (parseQ l) (fun i=>first4 (l.drop (8+4*i))) 0) qtV rfl (zO rfl) fun w7 u _=>?_;rw[xB] at J;refine qcQ u 2 rfl J (by rw[yB];omega) fun s3 w8 O u=>?_;refine Own.st' u 0 rfl (supN (parseQ l) (fun i=>first4 (l.drop (8+4*i))) 1) (qc3 (by decide)) rfl (by show 1+1<=_;rw[qc2 (by decide)];decide) fun w9 u _=>?_;rw[xB] at O;refine qcQ u 2 rfl O (by rw[yB];omega) fun s4 ag Q u=>?_;refine Own.st' u 0 rfl (supN (parseQ l) (fun i=>first4 (l.drop (8+4*i))) 2) (qc3 (by decide)) rfl (by show 2+1<=_;rw[qc2 (by decide)];decide) fun ah u _=>?_;rw[xB] at Q;refine qcQ u 2 rfl Q (by rw[yB];omega) fun s5 aj R u=>?_;refine Own.st' u 0 rfl (supN (parseQ l) (fun i=>first4 (l.drop (8+4*i))) 3) (qc3 (by decide)) rfl (by show 3+1<=_;rw[qc2 (by decide)];decide) fun ak u _=>?_;rw[xB] at R;refine qaj (fun x w'=>∃(i:Nat) (E:Sl),x=i/\i<=8/\RdB [] w E (l.drop (20+12*i))/\
   Own [] w w' [(A,.cells (supN (parseQ l) (fun i=>first4 (l.drop (8+4*i))) (3+3*i)) 121 (0,0)),(r3,.cells (supV 0 (zs 27)).toArray 121 (0,0)),(r1,.cells #[E.v] 23 (0,0))]) (fun x _=>(8-x).toNat)
  ⟨0,s5,rfl,by omega,R,u⟩ ?_
 rintro x al ⟨i,E,rfl,am,hx,u⟩ X hX;refine qaa (fun G=>?_) (fun G=>?_);have hi:i<8:=(by have:=zC G;omega);refine qaT ⟨by omega,by omega⟩ ?_;simp only[Addr.add_mk];have ap:Int.toNat (i:Int)=i:=(by omega);refine qcQ u 2 rfl hx (by rw[yB];omega) fun s6 y U u=>?_;show Pt.st ⟨A,4+Int.toNat (i:Int)*3+0,none⟩ _ _ _;refine Own.st' u 0 rfl (supN (parseQ l) (fun i=>first4 (l.drop (8+4*i))) (3+3*i+1)) ?_ rfl ?_ fun aq u _=>?_;rw[show 20+12*i=8+4*(3+3*i) by omega,show 4+Int.toNat (i:Int)*3+0=(3+3*i)+1 by omega];exact qc3 (f:=fun i=>first4 (l.drop (8+4*i))) (by omega);rw[qc2 (by omega)];show _+1<=28;omega;rw[xB] at U;refine qcQ u 2 rfl U (by rw[yB];omega) fun s7 ar V u=>?_;show Pt.st ⟨A,0+4+Int.toNat (i:Int)*3+1,none⟩ _ _ _;refine Own.st' u 0 rfl (supN (parseQ l) (fun i=>first4 (l.drop (8+4*i))) (3+3*i+2)) ?_ rfl ?_ fun au u _=>?_;rw[show 20+12*i+4=8+4*(3+3*i+1) by omega];show splice _ (0+4+Int.toNat (i:Int)*3+1) _=_;rw[show 0+4+Int.toNat (i:Int)*3+1=(3+3*i+1)+1 by omega];exact qc3 (f:=fun i=>first4 (l.drop (8+4*i))) (by omega);rw[qc2 (by omega)];show 0+4+Int.toNat (i:Int)*3+1+1<=28;omega;rw[xB] at V;refine qcQ u 2 rfl V (by rw[yB];omega) fun s8 aw h8 u=>?_;show Pt.st ⟨A,0+4+Int.toNat (i:Int)*3+2,none⟩ _ _ _;refine Own.st' u 0 rfl (supN (parseQ l) (fun i=>first4 (l.drop (8+4*i))) (3+3*i+3)) ?_ rfl ?_ fun ax u _=>?_;rw[show 20+12*i+4+4=8+4*(3+3*i+2) by omega];show splice _ (0+4+Int.toNat (i:Int)*3+2) _=_;rw[show 0+4+Int.toNat (i:Int)*3+2=(3+3*i+2)+1 by omega];exact qc3 (f:=fun i=>first4 (l.drop (8+4*i))) (by omega);rw[qc2 (by omega)];show 0+4+Int.toNat (i:Int)*3+2+1<=28;omega;rw[xB] at h8;rw[wi' _ (by omega)];refine hX _ _ ⟨i+1,s8,by simp,by omega,?_,?_⟩ (by omega);rw[show 20+12*(i+1)=20+12*i+4+4+4 by omega];exact h8;rw[show 3+3*(i+1)=3+3*i+3 by omega];exact u;obtain rfl:i=8:=by have:=zB G;omega
 rw[show 3+3*8=27 from rfl,qtU] at u;refine qaZ (u.at (i:=0) rfl) (supV (parseQ l) (parseT l)) (qaG (qaR l)) (by rw[xD];exact zS (Nat.le_of_eq (qaG (qaR l)))) ?_;refine qaT (qaG (qaR l)) ?_;refine Own.st' u 1 rfl (supV (parseQ l) (parseT l)).toArray ?_ (qhC _ _) ?_ fun y u _=>?_;apply Array.ext';rw[qas _ _ _ (by rw[qaG (qaR l)];decide),qaG (qaR l),take_zero,xG,drop_of_length_le (by decide),xF];rw[qaG (qaR l)];decide;refine qaZ (u.at (i:=1) rfl) (supV (parseQ l) (parseT l)) (qaG (qaR l)) (by rw[xD];exact zS (Nat.le_of_eq (qaG (qaR l)))) ?_;exact hk y u.fr
theorem qfa:((Tryz.prog.info? 121).bind (·.zero)).map (fun z=>z.cells.toList)=some (supV 0 (zs 27)):=by kernel_rfl
theorem qsl{P:Program}{t:TypeId}{z:Value}{offs:Array (Nat×Nat)}(u:(P.info? t).bind (·.zero)=some z)(y:P.underlying t=some (.struct (fieldsOf P t)))(h:∀w,((fieldsOf P t).mapM fun f=>do pure (f.offset,<- sizeOf f.type):Sem (Array (Nat×Nat))).run P w=.ok offs w)(w:World): (Instr.build t #[]).run P w=.ok (.agg z.cells) w:=by simp only[Instr.build,Sem.run_bind,qaN u,Result.andThen_ok,run_underlying y,h,Instr.fill,Sem.run_pure]
theorem qeN{w:World}{K:List Value->Prop}(k:K (supV 0 (zs 27))):runQ [Ty1.raw] (fun w'=>(Instr.build 121 #[]).run Tryz.prog w') w K:=by
 obtain⟨z,u,h⟩:=yS.1 qfa;refine qaM (ts:=[Ty1.raw]) (supV 0 (zs 27)) ?_ k
 have:=qsl (P:=Tryz.prog) (t:=121) (offs:=#[(0,1),(1,1),(2,1),(3,1),(4,24)]) u (by kernel_rfl) (fun w=>by kernel_rfl) w
 rw[this];show Result.ok (Value.agg z.cells) w=.ok (Value.agg (supV 0 (zs 27)).toArray) w;rw[<- h]
theorem qcm{cs:Array Value}{vs:List Value}(h:vs.length=cs.size):splice cs 0 vs=vs.toArray:=by apply Array.ext';rw[qas _ _ _ (by omega),take_zero,xG,drop_of_length_le (by rw[Array.length_toList];omega),xF]
theorem qfX{q:Int}{t:List Int}(h:t.length=27):(supV q t).toArray.size=28:=by rw[size_toArray];exact qaG h
theorem qeA{w:World}{r:Nat}{q:Int}{t:List Int}{T:TypeId}{u:Nat×Nat}{K:List Value->Prop}(y:w.heap[r]?=some (.cells (supV q t).toArray T u))(h:t.length=27)(k:K (supV q t)):ldV 28 ⟨r,0,none⟩ w K:=
 qaZ y (supV q t) (qaG h) (by rw[xD,zS (Nat.le_of_eq (qaG h))]) k
theorem qgI{w0 w:World}{L:List (Nat×Obj)}{r:Nat}{q A:Int}{t y:List Int}{T:TypeId}{K:WP}(C:Own [] w0 w L)(i:Nat)(hi:L[i]?=some (r,.cells (supV A y).toArray T (0,0)))(z:y.length=27)(h:t.length=27)(E:∀w',Own [] w0 w' (L.set i (r,.cells (supV q t).toArray T (0,0)))->K w'):chk ((supV q t).length=28) (st ⟨r,0,none⟩ (supV q t) w K):=by refine qaT (qaG h) ?_;refine Own.st' C i hi (supV q t).toArray (qcm (by rw[qfX z,qaG h])) (qhC _ _) (by rw[qfX z,qaG h];decide) fun w' u _=>E w' u
theorem qcw{w0 w:World}{L:List (Nat×Obj)}{r:Nat}{q C:Int}{t z:List Int}{T:TypeId}{K:List Value->WP}(E:Own [] w0 w L)(i:Nat)(hi:L[i]?=some (r,.cells (supV C z).toArray T (0,0)))(G:z.length=27)(A:t.length=27)(I:∀w',Fr [] w0 w'->K (supV q t) w'):chk ((supV q t).length=28) (st ⟨r,0,none⟩ (supV q t) w fun w'=>ldV 28 ⟨r,0,none⟩ w' fun vs=>K vs w'):=by
 refine qgI E i hi G A fun w' u=>?_;have y:i<L.length:=by rcases Nat.lt_or_ge i L.length with h|h;exact h;rw[yR h] at hi;cases hi
 exact qeA (u.at (i:=i) (by rw[List.getElem?_set_self y])) A (I w' u.fr)
abbrev Sup:=Int×List Int
def supZero:Sup:=(0,zs 27)
def readSV (place:Int) (l:List Int):Sup×Int:=
 if (openV place l).2.2≠0 then (supZero,(openV place l).2.2)
 else if (openV place l).1≠1\/(openV place l).2.1.length≠116 then (supZero,2)
 else if Int.tmod (parseQ (openV place l).2.1) 2≠place then (supZero,2)
 else ((parseQ (openV place l).2.1,parseT (openV place l).2.1),0)
theorem qbS(place:Int)(l:List Int):(readSV place l).1.2.length=27:=by unfold readSV;split<;>(try rfl);split<;>(try rfl);split<;>rfl
def newestV (a b:List Int):Sup×Int:=
 if (readSV 0 a).2≠0/\(readSV 1 b).2≠0 then (supZero,5)
 else if (readSV 0 a).2≠0\/((readSV 1 b).2=0/\(readSV 1 b).1.1>(readSV 0 a).1.1) then ((readSV 1 b).1,0)
 else ((readSV 0 a).1,0)
theorem qka(a b:List Int):(newestV a b).1.2.length=27:=by unfold newestV;split<;>(try rfl);split<;>exact qbS _ _
theorem qou{S:List Nat}{w:World}{s:Sl}{l:List Int}{place:Int}{K:List Value×Int->WP}(h:RdB S w s l)(hv:Hv w)(hB:IsB l)(hl:l.length<=100000)(I:place=0\/place=1)(hk:∀w',Fr [] w w'->K (supV (readSV place l).1.1 (readSV place l).1.2,(readSV place l).2) w'): cW 162 [.i place,s.v] [.raw,.one .i] w K:=by
 refine qn8 ?_;unfold qkq;refine Own.newZ (Own.start [] w) qfa fun r1 w1 e1 u=>?_;have J:wrap .u32 place=place:=by rcases I with rfl|rfl<;>kernel_rfl
 have O:wrap .u64 place=place:=by rcases I with rfl|rfl<;>kernel_rfl
 rw[J,O];refine qaf (fun b w'=>b=false/\w'=w1) ?_ ?_;rcases I with rfl|rfl;exact cond_false rfl ⟨rfl,rfl⟩;exact cond_true rfl ⟨rfl,rfl⟩;rintro b w2 ⟨rfl,rfl⟩;refine cond_false rfl ?_;have z:∀ {e:Int} {w':World},readSV place l=(supZero,e)->Fr [] w w'->K (supV 0 (zs 27),e) w':=by
  intro e w' A hf
  have:=hk w' hf
  rw[A] at this;exact this
 refine qmG (h.frame0 u.fr) (hv.frame0 u.fr) hB hl fun s3 B3 w3 b3 f3 n3=>?_;have u:=u.frame0 f3;refine qaa (fun y=>?_) (fun y=>?_);have A:(openV place l).2.2≠0:=(by simpa using y);refine qeN ?_;refine qcw u 0 rfl rfl rfl fun w4 f4=>?_;exact z (by rw[readSV,if_pos A]) f4;have A:¬(openV place l).2.2≠0:=(by simpa using y);refine qaf (fun b w'=>b=decide ((openV place l).1≠1\/(openV place l).2.1.length≠116)/\w'=w3) ?_ ?_;refine qaa (fun y=>?_) (fun y=>?_);have G:(openV place l).1≠1:=(by simpa using y);exact⟨by simp[G],rfl⟩;have G:(openV place l).1=1:=(by simpa using y);have Q:s3.len=(openV place l).2.1.length:=b3.len;refine⟨?_,rfl⟩;dsimp only;rw[Q];by_cases hx:(openV place l).2.1.length=116;rw[hx];simp[G];have:¬(((openV place l).2.1.length:Int)=116):=(by omega);simp[G,hx,this];rintro b w4 ⟨rfl,rfl⟩;refine qaa (fun y=>?_) (fun y=>?_);refine qeN ?_;refine qcw u 0 rfl rfl rfl fun w5 R=>?_;exact z (by rw[readSV,if_neg A,if_pos (zC y)]) R;have C:=zB y;have E:(openV place l).2.1.length=116:=by rcases Nat.decEq (openV place l).2.1.length 116 with h|h;exact absurd (Or.inr h) C;exact h
 have U:=b3.rds (S:=[]) qat (by simp);refine qsE U E fun w5 R=>?_;have u:=u.frame0 R;refine Own.newZ u qfa fun r6 w6 e6 u=>?_;refine qgI u 0 rfl rfl (qaR _) fun w7 u=>?_;refine Own.ld u 0 rfl (parseQ (openV place l).2.1) rfl ?_;refine qaa (fun y=>?_) (fun y=>?_);have V:Int.tmod (parseQ (openV place l).2.1) 2≠place:=(by simpa using y);refine qeN ?_;refine qcw u 1 rfl rfl rfl fun w8 f8=>?_;exact z (by rw[readSV,if_neg A,if_neg C,if_pos V]) f8;have V:¬Int.tmod (parseQ (openV place l).2.1) 2≠place:=(by simpa using y);refine qeA (u.at (i:=0) rfl) (qaR _) ?_;refine qcw u 1 rfl rfl (qaR _) fun w8 f8=>?_
 have:=hk w8 f8
 rw[readSV,if_neg A,if_neg C,if_neg V] at this;exact this
theorem qrv{S:List Nat}{w:World}{Q sb:Sl}{a b:List Int}{K:List Value×Int->WP}(ha:RdB S w Q a)(hb:RdB S w sb b)(R:Hv w)(E:IsB a)(G:IsB b)(I:a.length<=100000)(J:b.length<=100000)(O:∀w',Fr [] w w'->K (supV (newestV a b).1.1 (newestV a b).1.2,(newestV a b).2) w'): cW 129 [Q.v,sb.v] [.raw,.one .i] w K:=by
 refine qmf ?_;unfold qhU;refine Own.newZ (Own.start [] w) qfa fun r1 w1 e1 h=>?_;refine qou (ha.frame0 h.fr) (R.frame0 h.fr) E I (.inl rfl) fun w2 f2=>?_;have h:=h.frame0 f2;refine Own.newZ h qfa fun r3 w3 e3 h=>?_;refine qgI h 0 rfl rfl (qbS _ _) fun w4 h=>?_;refine qou (hb.frame0 h.fr) (R.frame0 h.fr) G J (.inr rfl) fun w5 f5=>?_;have h:=h.frame0 f5;refine Own.newZ h qfa fun r6 w6 e6 h=>?_;refine qgI h 0 rfl rfl (qbS _ _) fun w7 h=>?_;refine qaf (fun c w'=>c=decide ((readSV 0 a).2≠0/\(readSV 1 b).2≠0)/\w'=w7) ?_ ?_;refine qaa (fun u=>?_) (fun u=>?_);have y:(readSV 0 a).2≠0:=(by simpa using u);refine⟨?_,rfl⟩;by_cases C:(readSV 1 b).2=0<;>simp[y,C];have y:(readSV 0 a).2=0:=(by simpa using u);exact⟨by simp[y],rfl⟩;rintro c w8 ⟨rfl,rfl⟩;refine qaa (fun u=>?_) (fun u=>?_);refine qeN ?_;refine qcw h 2 rfl rfl rfl fun U f9=>?_
 have:=O U f9
 rw[newestV,if_pos (zC u)] at this;exact this;have V:=zB u;refine qaf (fun c w'=>c=decide ((readSV 0 a).2≠0\/((readSV 1 b).2=0/\(readSV 1 b).1.1>(readSV 0 a).1.1))/\w'=w8) ?_ ?_;refine qaa (fun u=>?_) (fun u=>?_);have y:(readSV 0 a).2≠0:=(by simpa using u);exact⟨by simp[y],rfl⟩;have y:(readSV 0 a).2=0:=(by simpa using u);refine qaa (fun u=>?_) (fun u=>?_);have C:(readSV 1 b).2=0:=(by simpa using u);refine Own.ld h 0 rfl (readSV 1 b).1.1 rfl ?_;refine Own.ld h 1 rfl (readSV 0 a).1.1 rfl ?_;refine⟨?_,rfl⟩;by_cases h3:(readSV 1 b).1.1>(readSV 0 a).1.1<;>simp[y,C,h3];have C:(readSV 1 b).2≠0:=(by simpa using u);exact⟨by simp[y,C],rfl⟩;rintro c U ⟨rfl,rfl⟩;refine qaa (fun u=>?_) (fun u=>?_);refine qeA (h.at (i:=0) rfl) (qbS _ _) ?_;refine qcw h 2 rfl rfl (qbS _ _) fun z A=>?_
 have:=O z A
 rw[newestV,if_neg V,if_pos (zC u)] at this;exact this;refine qeA (h.at (i:=1) rfl) (qbS _ _) ?_;refine qcw h 2 rfl rfl (qbS _ _) fun z A=>?_
 have:=O z A
 rw[newestV,if_neg V,if_neg (zB u)] at this;exact this
abbrev PGT:TypeId:=127
abbrev MLT:TypeId:=123
def look {β:Type} (n:Int):List (Int×β)->Option (Nat×β)
 | []=>none
 | p::r=>if n=p.1 then some (0,p.2) else (look n r).map fun q=>(q.1+1,q.2)
def setL {β:Type} (n:Int) (v:β) (l:List (Int×β)):List (Int×β):=match look n l with|some q=>l.set q.1 (n,v)|none=>l++[(n,v)]
def delL {β:Type} (n:Int) (l:List (Int×β)):List (Int×β):=match look n l with|some q=>l.eraseIdx q.1|none=>l
theorem qcc{β γ:Type}(g:β->γ)(n:Int):∀l:List (Int×β),look n (l.map fun e=>(e.1,g e.2))=(look n l).map fun q=>(q.1,g q.2)
 | []=>rfl
 | p::r=>by simp only[xK,look];by_cases h:n=p.1;simp[h];rw[if_neg h,if_neg h,qcc g n r];cases look n r<;>rfl
theorem qbR(n:Int):∀l:List (Int×Value),posOf n l=look n l
 | []=>rfl
 | p::r=>by simp only[posOf,look,qbR n r]
theorem qa0{β:Type}{n:Int}:∀ {l:List (Int×β)} {q:Nat×β},look n l=some q->l[q.1]?=some (n,q.2)/\(n,q.2)∈l
 | p::r,q,h=>by simp only[look] at h;by_cases hp:n=p.1;rw[if_pos hp] at h;cases h;subst hp;exact⟨rfl,by simp⟩;rw[if_neg hp] at h;obtain⟨x,u,rfl⟩:=yS.1 h;obtain⟨y,z⟩:=qa0 u;exact⟨by simpa using y,zN _ z⟩
theorem qbf{β:Type}{n:Int}:∀ {l:List (Int×β)},look n l=none↔n∉l.map (·.1)
 | []=>by simp[look]
 | p::r=>by simp only[look,xK,zG,not_or];by_cases hp:n=p.1;simp[hp];rw[if_neg hp,Option.map_eq_none_iff,qbf (l:=r)];simp[hp]
theorem qhx{β γ:Type}(g:β->γ)(n:Int)(v:β)(l:List (Int×β)):(setL n v l).map (fun e=>(e.1,g e.2))=setL n (g v) (l.map fun e=>(e.1,g e.2)):=by
 unfold setL;rw[qcc];cases look n l with
 | none=>simp
 | some q=>simp[map_set]
theorem qoD{β γ:Type}(g:β->γ)(n:Int)(l:List (Int×β)):(delL n l).map (fun e=>(e.1,g e.2))=delL n (l.map fun e=>(e.1,g e.2)):=by
 unfold delL;rw[qcc];cases look n l with
 | none=>rfl
 | some q=>simp only[Option.map_some];exact qbp _ l q.1
theorem qhi{β:Type}{n:Int}{v:β}{l:List (Int×β)}{e:Int×β}(h:e∈setL n v l):e∈l\/e=(n,v):=by unfold setL at h;split at h;exact mem_or_eq_of_mem_set h;rcases zD.1 h with h|h;exact .inl h;exact .inr (by simpa using h)
theorem qpc{β:Type}{n:Int}{l:List (Int×β)}{e:Int×β}(h:e∈delL n l):e∈l:=by unfold delL at h;split at h;exact mem_of_mem_eraseIdx h;exact h
theorem qhw{t et:TypeId}{v:Value}{w:World}(Q:Tryz.prog.underlying t=some (.map 37 et)){b:Nat}{f:List (Int×Value)}(h:MapS u32V w b f)(x:Int): ∃o,(Instr.mapUpdate t (.map (some b)) (u32V x) v).run Tryz.prog w=.ok () (upd w b o)/\MapS u32V (upd w b o) b (setL x v f):=by
 have K:=qcj;cases C:posOf x f with
 | none=>
  obtain⟨o,E,V⟩:=MapS.new Q K h x (v:=v) C;refine⟨o,E,?_⟩;rw[qbR] at C;rw[setL,C];exact V
 | some q=>
  obtain⟨y,c,I,R,hs,U⟩:=h;have J:=C;rw[qbR] at J;obtain⟨E,_⟩:=qa0 J;have A:=R;simp only[Ents] at A;have hi:y[q.1]?.map (·.key)=some (u32V x):=by
   have:=congrArg (·[q.1]?) A
   simp only[zQ,E,Option.map_some] at this;rw[<- Array.getElem?_toList];cases z:y.toList[q.1]? with
   | none=>rw[z] at this;cases this
   | some e=>rw[z] at this;simp at this;simp[this.1]
  refine⟨.map (y.modify q.1 fun e=>{ e with key:=u32V x,val:=v }) c,?_,y.modify q.1 fun e=>{ e with key:=u32V x,val:=v },c,?_,?_,?_,?_⟩;simp[Instr.mapUpdate,run_underlying Q,Go.MapKept.run_getObj_map I,K.check,qaQ K R,C,hi,Instr.keyThatStays,Instr.sameBits,Go.MapKept.run_setObj_map _ I];rfl;rw[qay _ _ _ _ (qac I),if_pos rfl];rw[setL,J];show ((y.modify q.1 _).toList).map _=(f.set q.1 (x,v)).map _;rw[Array.toList_modify];apply ext_getElem?;intro j;have u:=congrArg (·[j]?) A;simp only[zQ] at u;rw[zQ,zQ,List.getElem?_modify,xU];by_cases hqj:q.1=j;subst hqj;have O:=(zP.1 E).1;rw[E] at u;cases z:y.toList[q.1]? with
  | none=>rw[z] at u;cases u
  | some e=>simp[O]
  simp only[hqj,if_false];rw[<- u];cases y.toList[j]?<;>rfl;have e:(y.modify q.1 fun e=>{ e with key:=u32V x,val:=v }).toList.map (·.born)=y.toList.map (·.born):=by rw[Array.toList_modify];apply ext_getElem?;intro j;rw[zQ,zQ,List.getElem?_modify];by_cases hqj:q.1=j;subst hqj;cases y.toList[q.1]?<;>simp;simp[hqj]
  rw[e];exact hs;intro e G;rw[Array.toList_modify] at G;obtain⟨j,u⟩:=mem_iff_getElem?.1 G;rw[List.getElem?_modify] at u;by_cases hqj:q.1=j;subst hqj;cases z:y.toList[q.1]? with
  | none=>rw[z] at u;simp at u
  | some e0=>
   rw[z] at u;simp at u;subst u;exact U e0 (yE z)
  simp[hqj] at u;exact U e (yE (by rw[Array.getElem?_toList];exact u))
section
structure PgM where
 sup:Sup
 lists:List Int
 named:List Int
 turn:Int
 over:Bool
 free:List Int
 deferred:List Int
 fresh:List (Int×Int×List Int)
 roots:List Int
abbrev Leaf:=Int×Sl×List Int
def leafV (x:Leaf):Value:=.agg #[.b x.1,x.2.1.v]
def pgRest (sl sn:Sl) (turn:Int) (over:Bool) (fb defb mb:Nat):List Value:=
 [sl.v,sn.v,.i turn,.bool over,.pointer (pW fb),.pointer (pW defb),.map (some mb)]
def pgCells (db:Option Addr) (sup:Sup) (sl sn:Sl) (turn:Int) (over:Bool) (fb defb mb:Nat) (roots:List Int):Array Value:=
 ((.pointer db::supV sup.1 sup.2)++pgRest sl sn turn over fb defb mb++roots.map (Value.int .u32)).toArray
section
variable {db:Option Addr} {sup:Sup} {sl sn:Sl} {turn:Int} {over:Bool} {fb defb mb:Nat} {roots:List Int}
theorem qa1(h:sup.2.length=27):(Value.pointer db::supV sup.1 sup.2).length=29:=by rw[yH,qaG h]
theorem qmI(h:sup.2.length=27):(pgCells db sup sl sn turn over fb defb mb roots).size=36+roots.length:=by rw[pgCells,size_toArray,zF,zF,qa1 h,zK];rfl
theorem qr5:(pgCells db sup sl sn turn over fb defb mb roots)[0]?=some (.pointer db):=rfl
theorem qtw:(pgCells db sup sl sn turn over fb defb mb roots)[1]?=some (.int .u64 sup.1):=rfl
theorem qpr(y:sup.2.length=27)(n:Nat)(h:n<27):(pgCells db sup sl sn turn over fb defb mb roots)[n+2]?=some (.u (sup.2.getD n 0)):=by
 rw[pgCells,List.getElem?_toArray,zV,yY (by rw[qa1 y];omega),List.getElem?_cons_succ]
 have:=qgR (q:=sup.1) (t:=sup.2) n (by omega)
 rw[List.getElem?_toArray] at this;exact this
theorem qht(u:sup.2.length=27)(j:Nat)(h:j<7):(pgCells db sup sl sn turn over fb defb mb roots)[29+j]?=(pgRest sl sn turn over fb defb mb)[j]?:=by rw[pgCells,List.getElem?_toArray,zV,yX (by rw[qa1 u];omega),qa1 u,xY,yY (by exact h)]
theorem qkX(h:sup.2.length=27):(pgCells db sup sl sn turn over fb defb mb roots)[29]?=some sl.v:=qht h 0 (by decide)
theorem quP(h:sup.2.length=27):(pgCells db sup sl sn turn over fb defb mb roots)[30]?=some sn.v:=qht h 1 (by decide)
theorem qmJ(h:sup.2.length=27):(pgCells db sup sl sn turn over fb defb mb roots)[31]?=some (.i turn):=qht h 2 (by decide)
theorem qcS(h:sup.2.length=27):(pgCells db sup sl sn turn over fb defb mb roots)[32]?=some (.bool over):=qht h 3 (by decide)
theorem qdB(h:sup.2.length=27):(pgCells db sup sl sn turn over fb defb mb roots)[33]?=some (.pointer (pW fb)):=qht h 4 (by decide)
theorem qiQ(h:sup.2.length=27):(pgCells db sup sl sn turn over fb defb mb roots)[34]?=some (.pointer (pW defb)):=qht h 5 (by decide)
theorem qbG(h:sup.2.length=27):(pgCells db sup sl sn turn over fb defb mb roots)[35]?=some (.map (some mb)):=qht h 6 (by decide)
end
structure Rows (F:List Nat) (w:World) (sl sn:Sl) (lists named:List Int) (fs:List (Int×Leaf)):Prop where
 lists:Rd F w sl lists
 named:Rd F w sn named
 bodies:∀ e∈fs,RdB F w e.2.2.1 e.2.2.2
theorem Rows.frame{F F':List Nat}{w w':World}{sl sn:Sl}{lists named:List Int}{y:List (Int×Leaf)}(h:Rows F w sl sn lists named y)(f:Fr F w w')(u:∀b∈F',b∈F\/w.heap.size<=b):Rows F' w' sl sn lists named y:=
 ⟨h.lists.frame f u,h.named.frame f u,fun e z=>(h.bodies e z).frame f u⟩
structure PgX (w:World) (X:List Nat) (pb:Nat) (db:Option Addr) (M:PgM) (fb defb mb:Nat) (sl sn:Sl) (F1 F2:List Nat) (fs:List (Int×Leaf)):Prop where
 cell:w.heap[pb]?=some (.cells (pgCells db M.sup sl sn M.turn M.over fb defb mb M.roots) PGT (0,0))
 free:PoolAt w fb F1 M.free
 deferred:PoolAt w defb F2 M.deferred
 map:MapS u32V w mb (fs.map fun e=>(e.1,leafV e.2))
 fresh:M.fresh=fs.map fun e=>(e.1,e.2.1,e.2.2.2)
 rows:Rows (X++pb::mb::(F1++F2)) w sl sn M.lists M.named fs
 xlt:∀ b∈X,b<w.heap.size
 xsep:∀ b∈X,b∉pb::mb::(F1++F2)
 sep:pb≠mb/\(∀ b∈F1,b≠pb/\b≠mb/\b∉F2)/\(∀ b∈F2,b≠pb/\b≠mb)
 suplen:M.sup.2.length=27
 rootlen:M.roots.length=24
def PagerAt (w:World) (X:List Nat) (pb:Nat) (db:Option Addr) (F:List Nat) (M:PgM):Prop:=
 ∃fb defb mb sl sn h u y,F=pb::mb::(h++u)/\PgX w X pb db M fb defb mb sl sn h u y
theorem PgX.lt_mb{w:World}{X:List Nat}{pb:Nat}{db:Option Addr}{M:PgM}{fb defb mb:Nat}{sl sn:Sl}{F1 F2:List Nat}{u:List (Int×Leaf)}(h:PgX w X pb db M fb defb mb sl sn F1 F2 u):mb<w.heap.size:=by exact h.map.lt
theorem PgX.lt{w:World}{X:List Nat}{pb:Nat}{db:Option Addr}{M:PgM}{fb defb mb:Nat}{sl sn:Sl}{F1 F2:List Nat}{y:List (Int×Leaf)}(h:PgX w X pb db M fb defb mb sl sn F1 F2 y):∀b∈pb::mb::(F1++F2),b<w.heap.size:=by intro b u;rcases zG.1 u with rfl|u;exact qac h.cell;rcases zG.1 u with rfl|u;exact h.lt_mb;rcases zD.1 u with u|u;exact h.free.lt b u;exact h.deferred.lt b u
theorem PagerAt.lt{w:World}{X:List Nat}{pb:Nat}{db:Option Addr}{F:List Nat}{M:PgM}(h:PagerAt w X pb db F M):∀b∈F,b<w.heap.size:=by obtain⟨fb,defb,mb,sl,sn,y,z,A,rfl,u⟩:=h;exact u.lt
theorem PgX.frame{w w':World}{S X:List Nat}{pb:Nat}{db:Option Addr}{M:PgM}{fb defb mb:Nat}{sl sn:Sl}{F1 F2:List Nat}{z:List (Int×Leaf)}(h:PgX w X pb db M fb defb mb sl sn F1 F2 z)(f:Fr S w w')(y:∀b∈pb::mb::(F1++F2),b∉S)(A:Rows (X++pb::mb::(F1++F2)) w' sl sn M.lists M.named z):PgX w' X pb db M fb defb mb sl sn F1 F2 z where
 cell:=by rw[f.block pb (qac h.cell) (y pb (by simp))];exact h.cell
 free:=h.free.frame f fun b u=>y b (by simp[u])
 deferred:=h.deferred.frame f fun b u=>y b (by simp[u])
 map:=h.map.frame f (y mb (by simp))
 fresh:=h.fresh
 rows:=A
 xlt:=fun b u=>yC (h.xlt b u) f.size
 xsep:=h.xsep
 sep:=h.sep
 suplen:=h.suplen
 rootlen:=h.rootlen
theorem PgX.frame0{w w':World}{X:List Nat}{pb:Nat}{db:Option Addr}{M:PgM}{fb defb mb:Nat}{sl sn:Sl}{F1 F2:List Nat}{y:List (Int×Leaf)}(h:PgX w X pb db M fb defb mb sl sn F1 F2 y)(f:Fr [] w w'):PgX w' X pb db M fb defb mb sl sn F1 F2 y:=
 h.frame f (by simp) (h.rows.frame (f.mono (fun b u=>by cases u)) (fun b u=>.inl u))
theorem PagerAt.frame0{w w':World}{X:List Nat}{pb:Nat}{db:Option Addr}{F:List Nat}{M:PgM}(h:PagerAt w X pb db F M)(f:Fr [] w w'):PagerAt w' X pb db F M:=by obtain⟨fb,defb,mb,sl,sn,u,y,z,rfl,A⟩:=h;exact⟨fb,defb,mb,sl,sn,u,y,z,rfl,A.frame0 f⟩
theorem qod{w:World}{pb mb:Nat}{F1 u F2:List Nat}(n1:∀b∈u,b∈F1\/w.heap.size<=b):∀b∈pb::mb::(u++F2),b∈pb::mb::(F1++F2)\/w.heap.size<=b:=fun b h=>by simp only[zG,zD] at h⊢;rcases h with h|h|h|h;exact .inl (.inl h);exact .inl (.inr (.inl h));rcases n1 b h with y|y;exact .inl (.inr (.inr (.inl y)));exact .inr y;exact .inl (.inr (.inr (.inr h)))
theorem qr1{w:World}{pb mb:Nat}{F1 F2 u:List Nat}(n1:∀b∈u,b∈F2\/w.heap.size<=b):∀b∈pb::mb::(F1++u),b∈pb::mb::(F1++F2)\/w.heap.size<=b:=fun b h=>by simp only[zG,zD] at h⊢;rcases h with h|h|h|h;exact .inl (.inl h);exact .inl (.inr (.inl h));exact .inl (.inr (.inr (.inl h)));rcases n1 b h with y|y;exact .inl (.inr (.inr (.inr y)));exact .inr y
theorem qmC{w:World}{X F F':List Nat}(n:∀b∈F',b∈F\/w.heap.size<=b):∀b∈X++F',b∈X++F\/w.heap.size<=b:=fun b u=>by rcases zD.1 u with h|h;exact .inl (zH _ h);rcases n b h with h|h;exact .inl (zI _ h);exact .inr h
theorem quZ{w:World}{X F F':List Nat}(y:∀b∈X,b<w.heap.size)(z:∀b∈X,b∉F)(n:∀b∈F',b∈F\/w.heap.size<=b):∀b∈X,b∉F':=fun b u h=>by
 rcases n b h with h|h;exact z b u h
 have:=y b u;omega
theorem PgX.setFree{w w':World}{X:List Nat}{pb:Nat}{db:Option Addr}{M:PgM}{fb defb mb:Nat}{sl sn:Sl}{F1 y F2:List Nat}{C:List (Int×Leaf)}{l:List Int}(h:PgX w X pb db M fb defb mb sl sn F1 F2 C)(f:Fr F1 w w')(G:PoolAt w' fb y l)(z:∀b∈y,b∈F1\/w.heap.size<=b): PgX w' X pb db { M with free:=l } fb defb mb sl sn y F2 C where
 cell:=by rw[f.block pb (qac h.cell) (fun u=>(h.sep.2.1 pb u).1 rfl)];exact h.cell
 free:=G
 deferred:=h.deferred.frame f fun b u A=>(h.sep.2.1 b A).2.2 u
 map:=h.map.frame f (fun u=>(h.sep.2.1 mb u).2.1 rfl)
 fresh:=h.fresh
 rows:=h.rows.frame (f.mono fun b u _=>by simp[u]) (qmC (qod z))
 xlt:=fun b u=>yC (h.xlt b u) f.size
 xsep:=quZ h.xlt h.xsep (qod z)
 sep:=⟨h.sep.1,fun b u=>by rcases z b u with E|E;exact h.sep.2.1 b E;have J:=qac h.cell;have K:=h.lt_mb;exact⟨by omega,by omega,fun I=>by have:=h.deferred.lt b I;omega⟩,h.sep.2.2⟩
 suplen:=h.suplen
 rootlen:=h.rootlen
theorem PgX.setDef{w w':World}{X:List Nat}{pb:Nat}{db:Option Addr}{M:PgM}{fb defb mb:Nat}{sl sn:Sl}{F1 F2 y:List Nat}{E:List (Int×Leaf)}{l:List Int}(h:PgX w X pb db M fb defb mb sl sn F1 F2 E)(f:Fr F2 w w')(G:PoolAt w' defb y l)(A:∀b∈y,b∈F2\/w.heap.size<=b): PgX w' X pb db { M with deferred:=l } fb defb mb sl sn F1 y E where
 cell:=by rw[f.block pb (qac h.cell) (fun u=>(h.sep.2.2 pb u).1 rfl)];exact h.cell
 free:=h.free.frame f fun b u C=>(h.sep.2.1 b u).2.2 C
 deferred:=G
 map:=h.map.frame f (fun u=>(h.sep.2.2 mb u).2 rfl)
 fresh:=h.fresh
 rows:=h.rows.frame (f.mono fun b u _=>by simp[u]) (qmC (qr1 A))
 xlt:=fun b u=>yC (h.xlt b u) f.size
 xsep:=quZ h.xlt h.xsep (qr1 A)
 sep:=⟨h.sep.1,fun b u=>⟨(h.sep.2.1 b u).1,(h.sep.2.1 b u).2.1,fun I=>by
  rcases A b I with z|z;exact (h.sep.2.1 b u).2.2 z
  have:=h.free.lt b u;omega⟩,fun b u=>by
  rcases A b u with z|z;exact h.sep.2.2 b z;have J:=qac h.cell;have K:=h.lt_mb;exact⟨by omega,by omega⟩⟩
 suplen:=h.suplen
 rootlen:=h.rootlen
theorem PgX.setMap{w:World}{o:Obj}{X:List Nat}{pb:Nat}{db:Option Addr}{M:PgM}{fb defb mb:Nat}{sl sn:Sl}{F1 F2:List Nat}{C y:List (Int×Leaf)}(h:PgX w X pb db M fb defb mb sl sn F1 F2 C)(G:MapS u32V (upd w mb o) mb (y.map fun e=>(e.1,leafV e.2)))(u:∀e∈y,e∈C\/RdB (X++pb::mb::(F1++F2)) w e.2.2.1 e.2.2.2): PgX (upd w mb o) X pb db { M with fresh:=y.map fun e=>(e.1,e.2.1,e.2.2.2) } fb defb mb sl sn F1 F2 y:=by
 have f:Fr [mb] w (upd w mb o):=qfi h.lt_mb o;have E:Fr (X++pb::mb::(F1++F2)) w (upd w mb o):=f.mono fun b u _=>by simp only[zE] at u;subst u;simp
 have z:=h.rows.frame E (F':=X++pb::mb::(F1++F2)) (fun b u=>.inl u);exact {
  cell:=by rw[f.block pb (qac h.cell) (by simpa using h.sep.1)];exact h.cell
  free:=h.free.frame f fun b u=>by simpa using (h.sep.2.1 b u).2.1
  deferred:=h.deferred.frame f fun b u=>by simpa using (h.sep.2.2 b u).2
  map:=G
  fresh:=rfl
  rows:=⟨z.lists,z.named,fun e I=>by rcases u e I with A|A;exact z.bodies e A;exact A.frame E (fun b u=>.inl u)⟩
  xlt:=fun b u=>yC (h.xlt b u) f.size
  xsep:=h.xsep
  sep:=h.sep
  suplen:=h.suplen
  rootlen:=h.rootlen }
theorem PagerAt.frameX{w w':World}{X X':List Nat}{pb:Nat}{db:Option Addr}{F:List Nat}{M:PgM}(h:PagerAt w X pb db F M)(f:Fr X w w')(y:∀b∈X',b<w'.heap.size)(A:∀b∈X',b∈X\/w.heap.size<=b):PagerAt w' X' pb db F M:=by
 obtain⟨fb,defb,mb,sl,sn,C,E,I,rfl,h⟩:=h;have J:∀b∈pb::mb::(C++E),b∉X:=fun b u y=>h.xsep b y u;have z:=h.frame (w':=w') f J (h.rows.frame (f.mono fun b u _=>zH _ u) (fun b u=>.inl u));refine⟨fb,defb,mb,sl,sn,C,E,I,rfl,{ z with rows:=h.rows.frame (f.mono fun b u _=>zH _ u) (fun b u=>?_),xlt:=y,xsep:=fun b u G=>?_ }⟩;rcases zD.1 u with u|u;rcases A b u with u|u;exact .inl (zH _ u);exact .inr u;exact .inl (zI _ u);rcases A b u with u|u;exact h.xsep b u G
 have:=h.lt b G;omega
theorem PagerAt.sep{w:World}{X:List Nat}{pb:Nat}{db:Option Addr}{F:List Nat}{M:PgM}(h:PagerAt w X pb db F M):∀b∈X,b∉F:=by obtain⟨fb,defb,mb,sl,sn,u,y,z,rfl,h⟩:=h;exact h.xsep
end
section
theorem qt4{S:List Nat}{w:World}{s:Sl}{l:List Int}{n:Int}{K:Int->WP}(h:Rd S w s l)(I:l.length<=1000000)(C:∀x:Int,(decide (x>=0)=decide (n∈l))->K x w): cW 201 [s.v,.u n] [.one .i] w K:=by refine qmb ?_;unfold qhT;have E:=h.1;refine qaj (fun x w'=>w'=w/\∃i:Nat,x=i/\i<=l.length/\n∉l.take i) (fun x _=>((l.length:Int)-x).toNat) ⟨rfl,0,rfl,by omega,by simp⟩ ?_;rintro x w' ⟨rfl,i,rfl,J,y⟩ X G;refine qaa (fun z=>?_) (fun z=>?_);have A:i<l.length:=(by have:=zC z;omega);refine Rd.at h i rfl (zA A) ?_;refine qaa (fun z=>?_) (fun z=>?_);have e:n=l[i]:=(by simpa using z);refine C _ ?_;rw[zZ (show (i:Int)>=0 by omega),zZ (by rw[e];exact zW A)];have e:n≠l[i]:=(by simpa using z);rw[wi' _ (by omega)];refine G _ _ ⟨rfl,i+1,by simp,by omega,?_⟩ (by omega);rw[yF A];simp only[zD,zE,not_or];exact⟨y,e⟩;have:i=l.length:=(by have:=zB z;omega);subst this;rw[xX] at y;refine C _ ?_;rw[zU (by decide),zU y]
theorem qp1{S:List Nat}{w:World}{s:Sl}{l:List Int}{n:Int}{K:Bool->WP}(h:Rd S w s l)(y:l.length<=1000000)(z:K (decide (n∈l)) w): cW 155 [s.v,.u n] [.one .bool] w K:=by refine qiY ?_;unfold qe6;refine qt4 h y fun x A=>?_;rw[A];exact z
theorem qwv:∀w,(zeroValue 161).run Tryz.prog w=.ok (.agg #[.b 0,.slice none 0 0]) w:=fun w=>by kernel_rfl
theorem qmA:Tryz.prog.underlying MLT=some (.map 37 161):=by kernel_rfl
theorem qjr{w:World}{mb:Nat}{y:List (Int×Leaf)}{n:Int}{K:((Int×Sl)×Bool)->Prop}(h:MapAt u32V w mb (y.map fun e=>(e.1,leafV e.2)))(A:∀q,look n y=some q->K ((q.2.1,q.2.2.1),true))(C:look n y=none->K ((0,⟨none,0,0⟩),false)): runQ [Ty1.agg [Cell.int .u8,Cell.slice],Ty1.one Cell.bool] (fun w'=>(Instr.lookup MLT (.map (some mb)) (.u n) true).run Tryz.prog w') w K:=by
 have:=qpF (P:=Tryz.prog) qmA qwv qcj h n
 rw[qbR,qcc] at this;cases z:look n y with
 | none=>
  rw[z] at this;exact qaM (ts:=[Ty1.agg [Cell.int .u8,Cell.slice],Ty1.one Cell.bool]) ((0,⟨none,0,0⟩),false) this (C z)
 | some q=>
  rw[z] at this;exact qaM (ts:=[Ty1.agg [Cell.int .u8,Cell.slice],Ty1.one Cell.bool]) ((q.2.1,q.2.2.1),true) this (A q z)
section
variable {w:World} {X:List Nat} {pb:Nat} {db:Option Addr} {F:List Nat} {M:PgM}
theorem quc{K:Int->WP}(h:PagerAt w X pb db F M)(y:K M.free.length w):cW 46 [.pointer (pW pb)] [.one .i] w K:=by obtain⟨fb,defb,mb,sl,sn,z,A,C,rfl,u⟩:=h;refine qh4 ?_;unfold qeo;refine qae (qah u.cell (pW fb) (qdB u.suplen) ?_);exact qqJ u.free y
theorem qoq{K:Sl->WP}(h:PagerAt w X pb db F M)(y:M.free.length<=1000000)(z:∀s w',Told w w' s M.free->Fr [] w w'->K s w'):cW 47 [.pointer (pW pb)] [.one .slice] w K:=by obtain⟨fb,defb,mb,sl,sn,A,C,E,rfl,u⟩:=h;refine qh1 ?_;unfold qel;refine qae (qah u.cell (pW fb) (qdB u.suplen) ?_);exact qji u.free y z
theorem qih{K:Sl->WP}(h:PagerAt w X pb db F M)(y:M.deferred.length<=1000000)(z:∀s w',Told w w' s M.deferred->Fr [] w w'->K s w'):cW 48 [.pointer (pW pb)] [.one .slice] w K:=by obtain⟨fb,defb,mb,sl,sn,A,C,E,rfl,u⟩:=h;refine qfm ?_;unfold qcR;refine qae ?_;simp only[Addr.add_mk];refine qah u.cell (pW defb) (qiQ u.suplen) ?_;exact qji u.deferred y z
def usedV (M:PgM) (n:Int):Bool:=!(decide (n<2)||decide (n>=M.sup.2.getD 0 0)||decide (n∈M.lists)||decide (n∈M.free)||decide (n∈M.deferred))&&(look n M.fresh).isNone
theorem qos{n:Int}{K:Bool->WP}(h:PagerAt w X pb db F M)(U:M.lists.length<=1000000)(J:∀w',Fr [] w w'->K (usedV M n) w'):cW 124 [.pointer (pW pb),.u n] [.one .bool] w K:=by
 obtain⟨fb,defb,mb,sl,sn,F1,F2,R,rfl,y⟩:=h;refine qh9 ?_;unfold qet;refine qaf (fun b w'=>b=(decide (n<2)||decide (n>=M.sup.2.getD 0 0)||decide (n∈M.lists)||decide (n∈M.free)||decide (n∈M.deferred))/\w'=w) ?_ ?_;refine qaa (fun z=>⟨by rw[z];rfl,rfl⟩) (fun z=>?_);refine qae ?_;simp only[Addr.add_mk];refine qah y.cell (M.sup.2.getD 0 0) (qpr y.suplen 0 (by decide)) ?_;refine qaa (fun A=>⟨by rw[z,A];rfl,by trivial⟩) (fun A=>?_);refine qae (qah y.cell sl (qkX y.suplen) ?_);refine qp1 y.rows.lists U ?_;refine qaa (fun C=>⟨by rw[z,A,C];rfl,by trivial⟩) (fun C=>?_);refine qae (qah y.cell (pW fb) (qdB y.suplen) ?_);refine qon y.free ?_;refine qaa (fun E=>⟨by rw[z,A,C,E];rfl,by trivial⟩) (fun E=>?_);refine qae ?_;refine qah y.cell (pW defb) (qiQ y.suplen) ?_;refine qon y.deferred ⟨by rw[z,A,C,E];rfl,by trivial⟩;rintro b w' ⟨rfl,rfl⟩;have I:(look n M.fresh).isNone=(look n R).isNone:=by rw[y.fresh,qcc (fun x:Leaf=>(x.1,x.2.2))];cases look n R<;>rfl
 refine qaa (fun z=>?_) (fun z=>?_)
 have:=J w' (.refl _ _)
 rw[usedV,z] at this;exact this;refine qae ?_;simp only[Addr.add_mk];refine qah y.cell (some mb) (qbG y.suplen) ?_;refine qjr y.map.at (fun q O=>?_) (fun O=>?_);refine Own.new' (Own.start [] w') fun r V e1 f1 G=>?_;refine Own.st G 0 rfl _ rfl rfl rfl fun Q G _=>?_
 have:=J Q G.fr
 rw[usedV,z,I,O] at this;exact this;refine Own.new' (Own.start [] w') fun r V e1 f1 G=>?_;refine Own.st G 0 rfl _ rfl rfl rfl fun Q G _=>?_
 have:=J Q G.fr
 rw[usedV,z,I,O] at this;exact this
def makeV (M:PgM) (kind:Int) (body:List Int):(Int×Int)×PgM:=
 if M.over then ((0,7),M) else if body.length>500 then ((0,3),M) else
 match M.free with
 | []=>((0,6),M)
 | n::r=>((n,0),{ M with free:=r,fresh:=setL n (kind,body) M.fresh })
theorem qua{kind:Int}{s:Sl}{body:List Int}{K:Int×Int->WP}(h:PagerAt w X pb db F M)(hb:RdB (X++F) w s body)(hl:body.length<=100000)(hf:M.free.length<=1000000)(hk:∀F' w',PagerAt w' X pb db F' (makeV M kind body).2->Fr F w w'->(∀b∈F',b∈F\/w.heap.size<=b)->K (makeV M kind body).1 w'): cW 137 [.pointer (pW pb),.b kind,s.v] [.one .u,.one .i] w K:=by
 have h0:=h;obtain⟨fb,defb,mb,sl,sn,F1,F2,fs,rfl,hx⟩:=h;have hlen:=hb.1;refine qh2 (p:=pW pb) (body:=s) ?_;unfold qem;have same:∀ {e:Int},makeV M kind body=((0,e),M)->K (0,e) w:=by
  intro e he
  have:=hk _ w (by rw[he];exact h0) (.refl _ _) (fun b hb=>.inl hb)
  rw[he] at this;exact this
 refine qae (qah (c:=.bool) hx.cell M.over (qcS hx.suplen) ?_);refine qaa (fun hc=>same (by rw[makeV,if_pos hc])) (fun hc=>?_);have ho:¬M.over=true:=(by rw[hc];decide);refine qaa (fun hc=>?_) (fun hc=>?_)
 have:=zC hc
 exact same (by rw[makeV,if_neg ho,if_pos (by omega)]);have hb5:¬body.length>500:=(by have:=zB hc;omega);refine qae (qah (c:=.ptr) hx.cell (pW fb) (qdB hx.suplen) ?_);refine qvs hx.free hf fun F1' w1 hp1 f1 n1=>?_;have hx1:=hx.setFree f1 hp1 n1;have fF:Fr (pb::mb::(F1++F2)) w w1:=f1.mono fun b hb _=>by simp[hb]
 have nF:=qod (w:=w) (pb:=pb) (mb:=mb) (F2:=F2) n1;cases hfr:M.free with
 | nil=>
  have hmv:makeV M kind body=((0,6),M):=(by rw[makeV,if_neg ho,if_neg hb5,hfr]);rw[hfr] at hp1 hx1;refine cond_true rfl ?_;have hM:{ M with free:=(takeV []).2 }=M:=(by show { M with free:=[] }=M;rw[<- hfr]);rw[hM] at hx1
  have:=hk _ w1 (by rw[hmv];exact⟨fb,defb,mb,sl,sn,F1',F2,fs,rfl,hx1⟩) fF nF
  rw[hmv] at this;exact this
 | cons n r=>
  have hmv:makeV M kind body=((n,0),{ M with free:=r,fresh:=setL n (kind,body) M.fresh }):=(by rw[makeV,if_neg ho,if_neg hb5,hfr]);rw[hfr] at hp1 hx1;refine cond_false rfl ?_;refine qae ?_;simp only[Addr.add_mk];have c1:w1.heap[pb]?=_:=hx1.cell;refine qah (w:=w1.drew) (c:=.map) c1 (some mb) (qbG hx.suplen) ?_;have hb1:RdB (X++pb::mb::(F1'++F2)) w1.drew s body:=hb.frame (fF.drew.mono fun b hb _=>zI _ hb) (qmC nF);refine qa2 hb1 (by omega) fun s2 B2 w2 b2 f2 n2 _ _=>?_;have f12:Fr [] w1 w2:=((Fr.refl [] w1).drew).trans f2;have hx2:=hx1.frame0 f12;refine qai (by show _=_;rw[qag hx2.cell];exact qbG hx.suplen) ?_;obtain⟨o,hr,hm⟩:=qhw (v:=leafV (kind,s2,body)) qmA hx2.map n;refine qju _ hr ?_;have hm':MapS u32V (upd w2 mb o) mb ((setL n (kind,s2,body) fs).map fun e=>(e.1,leafV e.2)):=(by rw[qhx leafV];exact hm);have hx3:=hx2.setMap hm' fun e he=>by
   rcases qhi he with h1|h1;exact .inl h1;subst h1;refine .inr (b2.rds qat fun b hb hb2=>?_);have l2:w1.heap.size<=b:=n2 b hb;rcases zD.1 hb2 with hb2|hb2
   have:=hx1.xlt b hb2;omega
   have:=hx1.lt b hb2;omega
  have hM:(setL n (kind,s2,body) fs).map (fun e=>(e.1,e.2.1,e.2.2.2))=setL n (kind,body) M.fresh:=(by rw[hx.fresh];exact qhx (fun x:Leaf=>(x.1,x.2.2)) n (kind,s2,body) fs);rw[hM] at hx3;have f3:Fr (pb::mb::(F1++F2)) w (upd w2 mb o):=(fF.trans' f12 (by simp)).trans' (qfi hx2.lt_mb o) fun b hb=>by simp only[zE] at hb;subst hb;exact .inl (by simp)
  have:=hk _ (upd w2 mb o) (by rw[hmv];exact⟨fb,defb,mb,sl,sn,F1',F2,_,rfl,hx3⟩) f3 nF
  rw[hmv] at this;exact this
end
end
section
theorem PgX.fresh_look{w:World}{X:List Nat}{pb:Nat}{db:Option Addr}{M:PgM}{fb defb mb:Nat}{sl sn:Sl}{F1 F2:List Nat}{u:List (Int×Leaf)}(h:PgX w X pb db M fb defb mb sl sn F1 F2 u)(n:Int):look n M.fresh=(look n u).map fun q=>(q.1,q.2.1,q.2.2.2):=by rw[h.fresh,qcc (fun x:Leaf=>(x.1,x.2.2))]
section
variable {w:World} {X:List Nat} {pb:Nat} {db:Option Addr} {F:List Nat} {M:PgM}
def putV (M:PgM) (n kind:Int) (body:List Int):Int×PgM:=
 if M.over then (7,M) else match look n M.fresh with
 | none=>(10,M)
 | some _=>if body.length>500 then (3,M) else (0,{ M with fresh:=setL n (kind,body) M.fresh })
theorem qvo{n kind:Int}{s:Sl}{body:List Int}{K:Int->WP}(h:PagerAt w X pb db F M)(z:RdB (X++F) w s body)(hl:body.length<=100000)(hk:∀w',PagerAt w' X pb db F (putV M n kind body).2->Fr F w w'->K (putV M n kind body).1 w'): cW 136 [.pointer (pW pb),.u n,.b kind,s.v] [.one .i] w K:=by
 have h0:=h;obtain⟨fb,defb,mb,sl,sn,F1,F2,fs,rfl,A⟩:=h;have am:=z.1;refine qiP ?_;unfold qe3;have C:∀ {e:Int} {w':World},putV M n kind body=(e,M)->Fr [] w w'->K e w':=by
  intro e w' he hf
  have:=hk w' (by rw[he];exact h0.frame0 hf) (hf.mono (fun b z=>by cases z))
  rw[he] at this;exact this
 have E:=A.fresh_look n;refine qae (qah A.cell M.over (qcS A.suplen) ?_);refine qaa (fun O=>C (by rw[putV,if_pos O]) (.refl _ _)) (fun O=>?_);have ho:¬M.over=true:=(by rw[O];decide);refine qae ?_;simp only[Addr.add_mk];refine qah A.cell (some mb) (qbG A.suplen) ?_;refine qjr A.map.at (fun q hq=>?_) (fun hq=>?_);rw[hq] at E;refine Own.new' (Own.start [] w) fun r w1 e1 f1 y=>?_;refine Own.st y 0 rfl _ rfl rfl rfl fun I y _=>?_;refine cond_false rfl ?_;refine qaa (fun O=>?_) (fun O=>?_)
 have:=zC O
 exact C (by rw[putV,if_neg ho,E];dsimp only [Option.map_some];rw[if_pos (by omega)]) y.fr;have ai:¬body.length>500:=(by have:=zB O;omega);have R:putV M n kind body=(0,{ M with fresh:=setL n (kind,body) M.fresh }):=(by rw[putV,if_neg ho,E];dsimp only [Option.map_some];rw[if_neg ai]);have Q:=A.frame0 y.drew.fr;refine qae ?_;refine qah (w:=I.drew) (c:=.map) Q.cell (some mb) (qbG A.suplen) ?_;refine qa2 (z.frame0 y.drew.fr) (by omega) fun s2 B2 w3 b2 f2 n2 _ _=>?_;have U:Fr [] w w3:=y.drew.fr.trans f2;have J:=A.frame0 U;refine qai (by show _=_;simp only[Addr.add_mk];rw[qag J.cell];exact qbG A.suplen) ?_;obtain⟨o,hr,hm⟩:=qhw (v:=leafV (kind,s2,body)) qmA J.map n;refine qju _ hr ?_;have aj:MapS u32V (upd w3 mb o) mb ((setL n (kind,s2,body) fs).map fun e=>(e.1,leafV e.2)):=(by rw[qhx leafV];exact hm);have V:=J.setMap aj fun e he=>by rcases qhi he with h1|h1;exact .inl h1;subst h1;refine .inr (b2.rds qat fun b z G=>?_);have l2:I.drew.heap.size<=b:=n2 b z;rcases zD.1 G with G|G;have:b<I.heap.size:=Q.xlt b G;have:I.drew.heap.size=I.heap.size:=rfl;omega;have:b<I.heap.size:=Q.lt b G;have:I.drew.heap.size=I.heap.size:=rfl;omega
 have hM:(setL n (kind,s2,body) fs).map (fun e=>(e.1,e.2.1,e.2.2.2))=setL n (kind,body) M.fresh:=(by rw[A.fresh];exact qhx (fun x:Leaf=>(x.1,x.2.2)) n (kind,s2,body) fs);rw[hM] at V;have f4:Fr (pb::mb::(F1++F2)) w (upd w3 mb o):=(U.mono (T:=pb::mb::(F1++F2)) (fun b z=>by cases z)).trans' (qfi J.lt_mb o) fun b z=>by simp only[zE] at z;subst z;exact .inl (by simp)
 have:=hk (upd w3 mb o) (by rw[R];exact⟨fb,defb,mb,sl,sn,F1,F2,_,rfl,V⟩) f4
 rw[R] at this;exact this;rw[hq] at E;refine Own.new' (Own.start [] w) fun r w1 e1 f1 y=>?_;refine Own.st y 0 rfl _ rfl rfl rfl fun I y _=>?_;refine cond_true rfl ?_;exact C (by rw[putV,if_neg ho,E];rfl) y.fr
def dropV (M:PgM) (n:Int):Int×PgM:=
 if M.over then (7,M) else match look n M.fresh with
 | some _=>(0,{ M with fresh:=delL n M.fresh,free:=ins n M.free })
 | none=>if usedV M n then (0,{ M with deferred:=ins n M.deferred }) else (10,M)
theorem qt8{n:Int}{K:Int->WP}(h:PagerAt w X pb db F M)(hl:M.lists.length<=1000000)(hf:M.free.length<=1000000)(hd:M.deferred.length<=1000000)(hk:∀F' w',PagerAt w' X pb db F' (dropV M n).2->Fr F w w'->(∀b∈F',b∈F\/w.heap.size<=b)->K (dropV M n).1 w'): cW 110 [.pointer (pW pb),.u n] [.one .i] w K:=by
 have h0:=h;obtain⟨fb,defb,mb,sl,sn,F1,F2,fs,rfl,C⟩:=h;refine qh0 ?_;unfold qek;have O:∀ {e:Int} {w':World},dropV M n=(e,M)->Fr [] w w'->K e w':=by
  intro e w' he hf
  have:=hk _ w' (by rw[he];exact h0.frame0 hf) (hf.mono (fun b z=>by cases z)) (fun b z=>.inl z)
  rw[he] at this;exact this
 have E:=C.fresh_look n;refine qae (qah C.cell M.over (qcS C.suplen) ?_);refine qaa (fun Q=>O (by rw[dropV,if_pos Q]) (.refl _ _)) (fun Q=>?_);have ho:¬M.over=true:=(by rw[Q];decide);refine qae ?_;simp only[Addr.add_mk];refine qah C.cell (some mb) (qbG C.suplen) ?_;refine qjr C.map.at (fun q hq=>?_) (fun hq=>?_);rw[hq] at E;refine Own.new' (Own.start [] w) fun r w1 e1 f1 y=>?_;refine Own.st y 0 rfl _ rfl rfl rfl fun w2 y _=>?_;refine cond_true rfl ?_;have G:dropV M n=(0,{ M with fresh:=delL n M.fresh,free:=ins n M.free }):=(by rw[dropV,if_neg ho,E];rfl);have I:=C.frame0 y.fr;refine qae ?_;refine qah I.cell (some mb) (qbG C.suplen) ?_;obtain⟨o,hr,hm⟩:=MapS.del (ty:=0) qmA qcj I.map n;refine qpG (ts:=[]) () _ hr ?_;have an:MapS u32V (upd w2 mb o) mb ((delL n fs).map fun e=>(e.1,leafV e.2)):=by
  rw[qoD leafV];rw[qbR] at hm;unfold delL;cases hl:look n (fs.map fun e=>(e.1,leafV e.2)) with
  | none=>rw[hl] at hm;exact hm
  | some q=>rw[hl] at hm;exact hm
 have A:=I.setMap an fun e he=>.inl (qpc he);have hM:(delL n fs).map (fun e=>(e.1,e.2.1,e.2.2.2))=delL n M.fresh:=by rw[C.fresh];exact qoD (fun x:Leaf=>(x.1,x.2.2)) n fs
 rw[hM] at A;have f3:Fr (pb::mb::(F1++F2)) w (upd w2 mb o):=(y.fr.mono (T:=pb::mb::(F1++F2)) (fun b z=>by cases z)).trans' (qfi I.lt_mb o) fun b z=>by simp only[zE] at z;subst z;exact .inl (by simp)
 refine qae (qah A.cell (pW fb) (qdB C.suplen) ?_);refine qlj A.free hf fun ap w4 R f4 n4=>?_;have U:=A.setFree f4 R n4;have hs:w.heap.size<=(upd w2 mb o).heap.size:=by rw[qbT];exact y.fr.size
 have:=hk _ w4 (by rw[G];exact⟨fb,defb,mb,sl,sn,ap,F2,_,rfl,U⟩) (f3.trans' f4 fun b z=>.inl (by simp[z])) fun b z=>by rcases qod n4 b z with V|V;exact .inl V;exact .inr (zL hs V)
 rw[G] at this;exact this;rw[hq] at E;refine Own.new' (Own.start [] w) fun r w1 e1 f1 y=>?_;refine Own.st y 0 rfl _ rfl rfl rfl fun w2 y _=>?_;refine cond_false rfl ?_;refine qos (h0.frame0 y.fr) hl fun w3 f3=>?_;have J:=y.fr.trans f3;refine qaa (fun Q=>?_) (fun Q=>?_);have hu:usedV M n=false:=(by simpa using Q);exact O (by rw[dropV,if_neg ho,E];show (if usedV M n then _ else _)=_;rw[hu];rfl) J;have hu:usedV M n=true:=(by simpa using Q);have G:dropV M n=(0,{ M with deferred:=ins n M.deferred }):=by rw[dropV,if_neg ho,E];show (if usedV M n then _ else _)=_;rw[hu];rfl
 have A:=C.frame0 J;refine qae (qah A.cell (pW defb) (qiQ C.suplen) ?_);refine qlj A.deferred hd fun au w4 R f4 n4=>?_;have U:=A.setDef f4 R n4
 have:=hk _ w4 (by rw[G];exact⟨fb,defb,mb,sl,sn,F1,au,_,rfl,U⟩) ((J.mono (T:=pb::mb::(F1++F2)) (fun b z=>by cases z)).trans' f4 fun b z=>.inl (by simp[z])) fun b z=>by rcases qr1 n4 b z with V|V;exact .inl V;exact .inr (zL J.size V)
 rw[G] at this;exact this
end
end
def keyI (e:MapEntry):Int:=match e.key with | .int _ n=>n|_=>0
theorem quG{es:List MapEntry}{f:List (Int×Value)}(h:Ents u32V es f):es.map keyI=f.map (·.1)/\∀e∈es,e.key=u32V (keyI e):=by
 induction es generalizing f with
 | nil=>cases f with
  | nil=>exact⟨rfl,by simp⟩
  | cons p f=>simp[Ents] at h
 | cons e es ih=>cases f with
  | nil=>simp[Ents] at h
  | cons p f=>
   simp only[Ents,xK,List.cons.injEq,Prod.mk.injEq] at h;obtain⟨⟨y,I⟩,A⟩:=h;obtain⟨C,E⟩:=ih A;have z:keyI e=p.1:=(by unfold keyI;rw[y]);refine⟨by rw[xK,xK,z,C],fun G u=>?_⟩;rcases zG.1 u with rfl|u;rw[z];exact y;exact E G u
theorem qnw{β:Type}{g:β->Nat}:∀ {l:List β} {e:β},(l.map g).Pairwise (· < ·)->e∈l->l.Perm (e::l.filter fun x=>!(g x==g e))
 | x::l,e,u,z=>by
  rw[xK,yI] at u;rcases zG.1 z with rfl|z;have:(e::l).filter (fun x=>!(g x==g e))=l:=by
   rw[filter_cons_of_neg (by simp)];exact filter_eq_self.2 fun y A=>by
    have:=u.1 (g y) (zY A)
    have h:g y≠g e:=(by omega);simp[h]
  rw[this];have C:=u.1 (g e) (zY z);have h:g x≠g e:=(by omega);rw[filter_cons_of_pos (by simp[h])];exact ((qnw u.2 z).cons x).trans (List.Perm.swap e x _)
def left (es:Array MapEntry) (seen:Array Nat):List MapEntry:=es.toList.filter fun e=>!seen.toList.contains e.born
theorem qtk{es:Array MapEntry}{seen:Array Nat}{e:MapEntry}(hs:(es.toList.map (·.born)).Pairwise (· < ·))(he:e∈es.toList)(hn:e.born∉seen.toList):(left es seen).Perm (e::left es (seen.push e.born)):=by have h1:left es (seen.push e.born)=(left es seen).filter fun x=>!(x.born==e.born):=(by rw[left,left,filter_filter];congr 1;funext x;rw[Array.toList_push];by_cases h:x.born=e.born<;>simp[h]);rw[h1];refine qnw (g:=fun x:MapEntry=>x.born) ?_ (mem_filter.2 ⟨he,by simpa using hn⟩);exact hs.sublist (filter_sublist.map _)
def seenAt (w:World) (u:Nat):Nat:=match w.heap[u]? with|some (.mapIter _ _ h _)=>h.size|_=>0
theorem qnI{w:World}{y:Nat}{a:Option Nat}{b c:Nat}{u:Array Nat}(h:w.heap[y]?=some (.mapIter a b u c)):seenAt w y=u.size:=by unfold seenAt;rw[h]
theorem qnT{w:World}{mb rk:Nat}{f:List (Int×Value)}{T:TypeId}{K:Sl->WP}(hm:MapS u32V w mb f)(hrk:w.heap[rk]?=some (.cells #[.map (some mb)] T (0,0)))(hf:f.length<=100000)(hk:∀s' B l' w',BufU w' s' l' B->l'.Perm (f.map (·.1))->Fr [] w w'->(∀b∈B,w.heap.size<=b)->K s' w'): cW 154 [.slice none 0 0,.func (.func 122) #[] #[.pointer (pW rk)]] [.one .slice] w K:=by
 refine qia (s:=⟨none,0,0⟩) ?_;unfold qeu;obtain⟨es,c,hb,he,hs,hc⟩:=hm;obtain⟨hkm,hkey⟩:=quG he;have hesl:es.toList.length=f.length:=(by have:=congrArg List.length hkm;simpa using this);have hbW:∀ {w':World},Fr [] w w'->w'.heap[mb]?=some (.map es c):=fun f=>by rw[f.block mb (qac hb) (by simp)];exact hb
 have hrW:∀ {w':World},Fr [] w w'->w'.heap[rk]?=some (.cells #[.map (some mb)] T (0,0)):=fun f=>by rw[f.block rk (qac hrk) (by simp)];exact hrk
 refine Own.new' (Own.start [] w) fun r1 w1 e1 f1 ho=>?_;refine Own.rng (lb:=[.pointer (pW rk)]) ho rfl (by kernel_rfl) fun Dm l R Bz J E E0 w6 el eD f56 ho6 hy=>?_;refine qlM ?_;unfold qhK;refine qah (c:=.map) (hrW ho6.fr) (some mb) rfl ?_;refine qpG (ts:=[.one .any]) _ _ (qtN qmA (hbW ho6.fr)) ?_;have ho7:=ho6.alloc (.mapIter (some mb) c #[] c);generalize hit:w6.heap.size=it at ho7;refine qaj (fun _ w'=>∃(seen:Array Nat) (so:Sl) (xs:List Int) (Bo:List Nat),
   Own [] w w' [(it,.mapIter (some mb) c seen c),(l,R),(Dm,.deferred (some [])),(r1,.cells #[so.v] 92 (0,0))]/\(xs++(left es seen).map keyI).Perm (f.map (·.1))/\xs.length=seen.size/\BufU w' so xs Bo/\
   ∀b∈Bo,w.heap.size<=b/\b∉[it,l,Dm,r1]) (fun _ w'=>f.length-seenAt w' it)
  ⟨#[],⟨none,0,0⟩,[],[],ho7,?_,rfl,.nil _ _ _,by simp⟩ ?_
 have:left es #[]=es.toList:=(by unfold left;exact filter_eq_self.2 (by simp));rw[this,hkm];exact .refl _;rintro _ w8 ⟨seen,so,xs,Bo,ho8,hperm,hxl,hbu,hBo⟩ X hX;have hxs:xs.length+(left es seen).length=f.length:=(by have:=hperm.length_eq;simpa using this);refine qwy (hbW ho8.fr) (ho8.at (i:=0) rfl) hc (fun hall=>?_) (fun e hem hne w9 hsame=>?_);have hl0:left es seen=[]:=filter_eq_nil_iff.2 fun e he=>by simpa using hall e he
 rw[hl0,map_nil,xF] at hperm;refine .inl ⟨ho8.at (i:=1) rfl,?_⟩;have ho9:=ho8.upd (o':=E0) 1 rfl;have hbu9:=hbu.frame (qbl (qac (ho8.at (i:=1) rfl)) E0) (fun b hb hm=>by simp only[zE] at hm;subst hm;exact (hBo _ hb).2 (by simp));refine Own.ld (c:=.slice) ho9 3 rfl so rfl ?_;refine Own.undefer ho9.rebase 2 rfl fun w10 hd=>?_;exact hk so Bo xs w10 (hbu9.frame hd.fr (fun b hb=>(hBo b hb).2)) hperm (ho9.back (L':=[]) hd.fr) (fun b hb=>(hBo b hb).1);have ho9:=(ho8.frame0 (.of_same hsame)).upd (o':=.mapIter (some mb) c (seen.push e.born) c) 0 rfl;have hbu9:BufU (Pt.upd w9 it (.mapIter (some mb) c (seen.push e.born) c)) so xs Bo:=(hbu.frame0 (.of_same hsame)).frame (qbl (qac ((ho8.frame0 (.of_same hsame)).at (i:=0) rfl)) _) (fun b hb hm=>by simp only[zE] at hm;subst hm;exact (hBo _ hb).2 (by simp));generalize hw10:Pt.upd w9 it (.mapIter (some mb) c (seen.push e.born) c)=w10 at ho9 hbu9;refine qwo (hbW ho9.fr) (ho9.at (i:=0) rfl) hem hs ?_;rw[hkey e hem];refine hy (keyI e) w10 _ (ho9.at (i:=1) rfl) ?_;dsimp only;refine⟨ho9.at (i:=1) rfl,?_⟩;have hoA:=ho9.upd (o':=Bz) 1 rfl;have hbuA:=hbu9.frame (qbl (qac (ho9.at (i:=1) rfl)) Bz) (fun b hb hm=>by simp only[zE] at hm;subst hm;exact (hBo _ hb).2 (by simp));refine Own.ld (c:=.slice) hoA 3 rfl so rfl ?_;refine qr8 hbuA (by omega) fun s11 B11 w11 b11 f11 n11=>?_;have hLlt:∀p∈[it,l,Dm,r1],p<(Pt.upd w10 l Bz).heap.size:=fun p hp=>by have hlt:=fun (k:Nat) (q:Nat×Obj) (hq:_[k]?=some q)=>qac (hoA.at (i:=k) hq);simp only[zG,xV,or_false] at hp;rcases hp with rfl|rfl|rfl|rfl;exact hlt 0 _ rfl;exact hlt 1 _ rfl;exact hlt 2 _ rfl;exact hlt 3 _ rfl
 have hB11:∀b∈B11,w.heap.size<=b/\b∉[it,l,Dm,r1]:=fun b hb=>by rcases n11 b hb with h|h;exact hBo b h;refine⟨zL hoA.fr.size h,fun hm=>?_⟩;exact Nat.lt_irrefl _ (yC (hLlt b hm) h)
 have hoB:=hoA.frame f11 (fun b hb=>.inr (hBo b hb).1) (fun p hp hb=>(hBo _ hb).2 (zY (f:=(·.1)) hp));refine Own.sz hoB 3 rfl _ fun w12 hoC f12=>?_;refine⟨hoC.at (i:=1) rfl,?_⟩;have hoD:=hoC.upd (o':=R) 1 rfl;have b12:=(b11.frame f12 (fun b hb hm=>by simp only[zE] at hm;subst hm;exact (hB11 _ hb).2 (by simp))).frame (qbl (qac (hoC.at (i:=1) rfl)) R) (fun b hb hm=>by simp only[zE] at hm;subst hm;exact (hB11 _ hb).2 (by simp));refine cond_false rfl ?_;have hpk:=qtk hs hem hne;refine hX _ _ ⟨seen.push e.born,s11,xs++[keyI e],B11,hoD,?_,by simp[hxl],b12,hB11⟩ ?_;refine List.Perm.trans ?_ hperm;rw[zV];exact (hpk.symm.map keyI).append_left xs;have h1:=qnI (ho8.at (i:=0) rfl);have h2:seenAt (Pt.upd w12 l R) it=(seen.push e.born).size:=qnI (hoD.at (i:=0) rfl);have h3:=hpk.length_eq;rw[yH] at h3;show f.length-seenAt (Pt.upd w12 l R) it<f.length-seenAt w8 it;rw[h1,h2,Array.size_push];omega
abbrev Blk:={l:List Int // l.length=512}
def encK (b:Blk):List Value:=b.1.map (Value.int .u8)
theorem qaY(b:Blk):(encK b).length=512:=by rw[encK,zK,b.2]
def encW (x:Int×Blk):List Value:=Value.int .i64 x.1::encK x.2
theorem qbO(x:Int×Blk):(encW x).length=513:=by rw[encW,yH,qaY]
def Blk.zero:Blk:=⟨zs 512,qaI 512⟩
structure DiskM where
 safe:List Blk
 waits:List (Int×Blk)
 fuse:Int
 down:Bool
 writes:Int
structure DiskM.Ok (D:DiskM):Prop where
 at_:∀ x∈D.waits,0<=x.1/\x.1<D.safe.length
 fuse:-1<=D.fuse/\D.fuse<=1000000000
 safe:D.safe.length<=4096
 waits:D.waits.length<=1000000
 writes:0<=D.writes/\D.writes<=1000000000
 bytesS:∀ b∈D.safe,IsB b.1
 bytesW:∀ x∈D.waits,IsB x.2.1
abbrev DT:TypeId:=175
def dCells (D:DiskM) (sb:Nat) (h:Sl):Array Value:=#[.slice (pW sb) D.safe.length D.safe.length,h.v,.i D.fuse,.bool D.down,.i D.writes]
def DiskAt (w:World) (db:Nat) (F:List Nat) (D:DiskM):Prop:=
 ∃(sb:Nat) (T:TypeId) (h:Sl) (B:List Nat),F=db::sb::B/\(db::sb::B).Nodup/\w.heap[db]?=some (.cells (dCells D sb h) DT (0,0))/\w.heap[sb]?=some (.cells (D.safe.flatMap encK).toArray T (0,0))/\Buf encW 513 w h D.waits B
theorem DiskAt.frame{w w':World}{db:Nat}{F S:List Nat}{D:DiskM}(h:DiskAt w db F D)(f:Fr S w w')(u:∀b∈F,b∉S):DiskAt w' db F D:=by obtain⟨sb,T,y,B,rfl,C,z,A,E⟩:=h;exact⟨sb,T,y,B,rfl,C,by rw[f.block db (qac z) (u _ (by simp))];exact z,by rw[f.block sb (qac A) (u _ (by simp))];exact A,E.frame f (fun b G=>u b (by simp[G]))⟩
theorem DiskAt.frame0{w w':World}{db:Nat}{F:List Nat}{D:DiskM}(h:DiskAt w db F D)(f:Fr [] w w'):DiskAt w' db F D:=h.frame f (fun _ _ h=>by cases h)
theorem DiskAt.lt{w:World}{db:Nat}{F:List Nat}{D:DiskM}(h:DiskAt w db F D):∀b∈F,b<w.heap.size:=by obtain⟨sb,T,y,B,rfl,E,z,A,C⟩:=h;intro b u;simp only[zG] at u;rcases u with rfl|rfl|u;exact qac z;exact qac A;exact C.lt b u
theorem DiskAt.cell{w:World}{db:Nat}{F:List Nat}{D:DiskM}(h:DiskAt w db F D):∃sb u,w.heap[db]?=some (.cells (dCells D sb u) DT (0,0)):=by obtain⟨sb,T,u,B,rfl,z,y,A,C⟩:=h;exact⟨sb,u,y⟩
theorem DiskAt.mem{w:World}{db:Nat}{F:List Nat}{D:DiskM}(h:DiskAt w db F D):db∈F:=by obtain⟨sb,T,u,B,rfl,_⟩:=h;simp
def dCellsC (D:DiskM) (sb c:Nat) (h:Sl):Array Value:=#[.slice (pW sb) D.safe.length c,h.v,.i D.fuse,.bool D.down,.i D.writes]
def DiskZ (w:World) (db:Nat) (F:List Nat) (D:DiskM) (c:Nat) (Z:List Value):Prop:=
 ∃(sb:Nat) (T:TypeId) (h:Sl) (B:List Nat),F=db::sb::B/\(db::sb::B).Nodup/\w.heap[db]?=some (.cells (dCellsC D sb c h) DT (0,0))/\w.heap[sb]?=some (.cells (D.safe.flatMap encK++Z).toArray T (0,0))/\Buf encW 513 w h D.waits B
theorem DiskAt.z{w:World}{db:Nat}{F:List Nat}{D:DiskM}(h:DiskAt w db F D):DiskZ w db F D D.safe.length []:=by obtain⟨sb,T,u,B,rfl,y,A,C,E⟩:=h;exact⟨sb,T,u,B,rfl,y,A,by rw[xF];exact C,E⟩
theorem DiskAt.turn{w w':World}{db:Nat}{F:List Nat}{D D':DiskM}{sb:Nat}{y:Sl}(h:DiskAt w db F D)(O:w.heap[db]?=some (.cells (dCells D sb y) DT (0,0)))(f:Fr [db] w w')(Q:D'.safe=D.safe)(R:D'.waits=D.waits)(E:w'.heap[db]?=some (.cells (dCells D' sb y) DT (0,0))):DiskAt w' db F D':=by
 obtain⟨z,T,u,B,rfl,A,U,J,V⟩:=h;have C:z=sb/\u=y:=by have q:=U.symm.trans O;have q0:=congrArg (fun o=>match o with|some (Obj.cells G _ _)=>(match G[0]? with|some (Value.slice (some a) _ _)=>a.block|_=>0)|_=>0) q;have q1:=congrArg (fun o=>match o with|some (Obj.cells G _ _)=>G[1]? | _=>none) q;refine⟨q0,?_⟩;have K:Value.slice u.a u.len u.cap=Value.slice y.a y.len y.cap:=yN q1;cases y;cases u;simp only[Value.slice.injEq] at K;obtain⟨rfl,rfl,rfl⟩:=K;rfl
 obtain⟨rfl,rfl⟩:=C;have I:z≠db:=fun e=>by rw[e] at A;simp at A
 have hB:∀b∈B,b∉[db]:=fun b hb C=>by simp at C;subst C;simp at A;exact A.1.2 hb
 exact⟨z,T,u,B,rfl,A,E,by rw[Q,f.block z (qac J) (by simpa using I)];exact J,by rw[R];exact V.frame f hB⟩
theorem qie{w:World}{db:Nat}{F:List Nat}{D:DiskM}{K:Int->WP}(h:DiskAt w db F D)(u:K D.safe.length w):cW 97 [.pointer (pW db)] [.one .i] w K:=by refine qhX ?_;unfold qei;obtain⟨sb,y,z⟩:=h.cell;refine qae (qah z ⟨pW sb,D.safe.length,D.safe.length⟩ rfl ?_);exact u
def newM (blocks:Nat):DiskM:=⟨List.replicate blocks .zero,[],-1,false,0⟩
theorem qvW{n:Nat}(h:n<=4096):(newM n).Ok:=
 ⟨fun _ h=>(by cases h),⟨by show (-1:Int)<=-1;decide,by show (-1:Int)<=1000000000;decide⟩,by rw[newM];simpa using h,by simp[newM],by simp[newM],fun b u=>by rw[eq_of_mem_replicate u];exact IsB.zs 512,fun _ h=>(by cases h)⟩
theorem qqh(n:Nat)(b:Blk):(List.replicate n (encK b)).flatten=(List.replicate n b).flatMap encK:=by rw[flatMap_def,map_replicate]
set_option maxRecDepth 100000 in
theorem qvh{w:World}{blocks:Int}{K:Option Addr×Int->WP}(y:(blocks<8\/blocks>4096)->K (none,1) w)(C:8<=blocks->blocks<=4096->∀db F w',DiskAt w' db F (newM blocks.toNat)->Fr [] w w'->(∀b∈F,w.heap.size<=b)->K (pW db,0) w'): cW 57 [.i blocks] [.one .ptr,.one .i] w K:=by
 refine qqc ?_;unfold qm9;refine qaf (fun b w'=>b=decide (blocks<8\/blocks>4096)/\w'=w) ?_ ?_;refine qaa (fun u=>?_) (fun u=>?_);exact⟨by rw[zZ (Or.inl (zC u))],rfl⟩
 have:=zB u
 exact⟨by simp[this],rfl⟩;rintro b E ⟨rfl,rfl⟩;refine qaa (fun u=>y (zC u)) (fun u=>?_);have O:=zB u;have G:8<=blocks:=(by omega);have I:blocks<=4096:=(by omega);obtain⟨n,rfl⟩:∃n:Nat,blocks=n:=⟨blocks.toNat,by omega⟩;refine Own.mkN (zero:=encK Blk.zero) (Own.start [] E) (qaY _) (by omega) (by omega) (by omega) (by omega) fun sb Q R h=>?_;refine Own.new h fun db J U V h=>?_;have z:(List.replicate (n:Int).toNat (encK Blk.zero)).flatten=((newM n).safe).flatMap encK:=(by rw[zJ];exact qqh n _);refine C G I db [db,sb] J ⟨sb,177,⟨none,0,0⟩,[],rfl,?_,?_,?_,.nil _ _ _⟩ h.fr (fun b A=>?_)
 have:=h.nodup;simpa using this
 have:=h.at (i:=0) rfl
 rw[this];simp[dCells,newM]
 have:=h.at (i:=1) rfl
 rw[this,zJ,<- z,zJ];simp at A
 have:=h.own
 rcases A with rfl|rfl
 have:=h.own (b,_) (yE (i:=0) rfl)
 simpa using this
 have:=h.own (b,_) (yE (i:=1) rfl)
 simpa using this
def actM (D:DiskM):DiskM×Bool:=if D.fuse=0 then ({ D with down:=true },true) else if D.fuse>0 then ({ D with fuse:=D.fuse-1 },false) else (D,false)
theorem qsI{w:World}{db:Nat}{F:List Nat}{D:DiskM}{K:Bool->WP}(h:DiskAt w db F D)(R:D.fuse<=1000000000)(J:∀w',DiskAt w' db F (actM D).1->Fr [db] w w'->K (actM D).2 w'): cW 131 [.pointer (pW db)] [.one .bool] w K:=by
 refine qkF ?_;unfold qgp;obtain⟨sb,C,E⟩:=h.cell;have u:Own [db] w w [(db,.cells (dCells D sb C) DT (0,0))]:=⟨by simpa using E,by simp,.refl _ _,by simp⟩;refine qae (Own.ld u 0 rfl D.fuse rfl ?_);refine qaa (fun G=>?_) (fun G=>?_);have y:D.fuse=0:=(by simpa using G);refine qae ?_;refine Own.st u 0 rfl _ rfl rfl rfl fun A u _=>?_
 have:=J A (by rw[actM,if_pos y];exact h.turn E u.fr rfl rfl (u.at (i:=0) rfl)) u.fr
 rw[actM,if_pos y] at this;exact this;have y:¬D.fuse=0:=(by simpa using G);refine qaf (fun _ w'=>DiskAt w' db F (actM D).1/\Fr [db] w w') ?_ ?_;refine qae (Own.ld u 0 rfl D.fuse rfl ?_);refine qaa (fun I=>?_) (fun I=>?_);have z:D.fuse>0:=zC I;refine qae (Own.ld u 0 rfl D.fuse rfl ?_);refine qae ?_;rw[wi' _ (by omega)];refine Own.st u 0 rfl _ rfl rfl rfl fun A u _=>?_;refine⟨?_,u.fr⟩;rw[actM,if_neg y,if_pos z];exact h.turn E u.fr rfl rfl (u.at (i:=0) rfl);have z:¬D.fuse>0:=zB I;refine⟨?_,.refl _ _⟩;rw[actM,if_neg y,if_neg z];exact h;rintro _ A ⟨O,Q⟩
 have:=J A O Q
 have e:(actM D).2=false:=(by rw[actM,if_neg y];split<;>rfl);rw[e] at this;exact this
theorem qvb:∃i,Tryz.prog.info? 179=some i/\(∃z,i.zero=some z/\z.cells.size=513)/\i.size=513/\i.bytes=520:=by have h:(Tryz.prog.info? 179).map (fun i=>(i.zero.map (fun z=>z.cells.size),i.size,i.bytes))=some (some 513,513,520):=(by kernel_rfl);obtain⟨i,A,u⟩:=yS.1 h;simp only[Prod.mk.injEq] at u;obtain⟨z,C,y⟩:=yS.1 u.1;exact⟨i,A,⟨z,C,y⟩,u.2.1,u.2.2⟩
def addW (D:DiskM) (n:Int) (b:Blk):DiskM:={ D with waits:=D.waits++[(n,b)],writes:=D.writes+1 }
def writeM (D:DiskM) (n:Int) (l:List Int):DiskM×Int:=
 if D.down then (D,7) else if n<0\/n>=D.safe.length then (D,4) else
 if h:l.length=512 then ((actM (addW D n ⟨l,h⟩)).1,if (actM (addW D n ⟨l,h⟩)).2 then 7 else 0) else (D,1)
theorem qp6(n:Int)(b:Blk)(w:World):(Instr.build 179 #[(0,.i n),(1,.agg (encK b).toArray)]).run Tryz.prog w=.ok (.agg (encW (n,b)).toArray) w:=by
 obtain⟨z,hz,hzs⟩:∃z,(Tryz.prog.info? 179).bind (·.zero)=some z/\z.cells.size=513:=by obtain⟨i,hi,⟨z,hz,hzs⟩,_⟩:=qvb;exact⟨z,by rw[hi];exact hz,hzs⟩
 have:=qsm (P:=Tryz.prog) (a:=.i n) (b:=.agg (encK b).toArray) (o1:=1) (s0:=1) (s1:=512) hz (by kernel_rfl) (fun w=>by kernel_rfl) rfl (by show (encK b).toArray.size=512;rw[size_toArray,qaY]) rfl hzs w
 exact this
theorem qjy(l:List Int):((l.map (Value.int .u8)).all Value.oneCell')=true:=by rw[all_eq_true];intro v h;obtain⟨x,_,rfl⟩:=mem_map.1 h;rfl
theorem qoF(b:Blk):((encK b).all Value.oneCell')=true:=qjy _
theorem qkH(x:Int×Blk):((encW x).all Value.oneCell')=true:=by rw[encW,all_cons,qoF];rfl
theorem qtE{S:List Nat}{w:World}{s:Sl}{l:List Int}(h:RdB S w s l)(z:l≠[]):∃b o u T y,s.a=some ⟨b,o,none⟩/\w.heap[b]?=some (.cells u T y)/\b∉S/\(u.toList.drop o).take l.length=l.map (Value.int .u8):=by
 rcases h.2.2 with A|⟨b,o,u,T,y,C,E,G,I⟩;exact absurd A z;refine⟨b,o,u,T,y,C,E,G,?_⟩;apply ext_getElem?;intro i;rw[xA,zQ];by_cases hi:i<l.length;rw[if_pos hi,yZ,zA hi]
 have:=I i l[i] (zA hi)
 rw[xQ] at this
 have:=congrArg (·[0]?) this
 simpa using this;rw[if_neg hi,yR (by omega)];rfl
theorem qmW{S:List Nat}{w:World}{db:Nat}{F:List Nat}{D:DiskM}{n:Int}{s:Sl}{l:List Int}{K:Int->WP}(h:DiskAt w db F D)(hD:D.Ok)(hs:RdB S w s l)(hk:∀F' w',DiskAt w' db F' (writeM D n l).1->Fr F w w'->(∀b∈F',b∈F\/w.heap.size<=b)->K (writeM D n l).2 w'): cW 99 [.pointer (pW db),.i n,s.v] [.one .i] w K:=by
 refine qiq (d:=pW db) (b:=s) ?_;unfold qeU;have hlen:=hs.1;have hdb:=h.mem;obtain⟨sb,T,wsl,B,hF,hn,hc,hsb,hbuf⟩:=h;have h:DiskAt w db F D:=⟨sb,T,wsl,B,hF,hn,hc,hsb,hbuf⟩;have ho:Own F w w [(db,.cells (dCells D sb wsl) DT (0,0))]:=⟨by simpa using hc,by simp,.refl _ _,by simp[hdb]⟩;refine qae (Own.ld (c:=.bool) ho 0 rfl D.down rfl ?_);have same:∀ {e:Int},writeM D n l=(D,e)->∀ {w'},w'=w->K e w':=by
  rintro e he w' rfl
  have:=hk F w' (by rw[he];exact h) (.refl _ _) (fun b hb=>.inl hb)
  rw[he] at this;exact this
 refine qaa (fun hd=>same (by rw[writeM,if_pos hd]) rfl) (fun hd=>?_);refine qaf (fun b w'=>b=decide (n<0\/n>=D.safe.length)/\w'=w) ?_ ?_;refine qaa (fun hc=>?_) (fun hc=>?_);exact⟨by rw[zZ (Or.inl (zC hc))],rfl⟩;refine qae (Own.ld (c:=.slice) ho 0 rfl ⟨pW sb,D.safe.length,D.safe.length⟩ rfl ⟨?_,rfl⟩)
 have:=zB hc
 by_cases h2:n>=D.safe.length<;>simp[this,h2];rintro b w1 ⟨rfl,rfl⟩;refine qaa (fun hr=>same (by rw[writeM,if_neg (by simpa using hd),if_pos (zC hr)]) rfl) (fun hr=>?_);have hr':=zB hr;refine qaa (fun hq=>same ?_ rfl) (fun hq=>?_);have:¬l.length=512:=(by simp at hq;omega);rw[writeM,if_neg (by simpa using hd),if_neg hr',dif_neg this];have h512:l.length=512:=(by simp at hq;omega);obtain⟨blk,hblk⟩:∃blk:Blk,blk.1=l:=⟨⟨l,h512⟩,rfl⟩;have hw:writeM D n l=((actM (addW D n blk)).1,if (actM (addW D n blk)).2 then 7 else 0):=by rw[writeM,if_neg (by simpa using hd),if_neg hr',dif_pos h512];have:blk=⟨l,h512⟩:=Subtype.ext hblk;rw[this]
 rw[hw] at hk;have hd1:=ho.drew;refine qae (Own.ld (c:=.slice) hd1 0 rfl wsl rfl ?_);obtain⟨sbk,so,scs,sT,sfr,hsa,hsbk,hsS,hscs⟩:=qtE hs (by rw[<- length_pos_iff];omega);obtain⟨sa,slen,scap⟩:=s;simp only at hsa hlen;subst hsa;refine qwB (by omega) ?_;refine qaZ (n:=512) (w:=w1.drew) hsbk (encK blk) (qaY _) (by rw[<- h512,hscs,encK,hblk]) ?_;refine qaM (ts:=[.raw]) (encW (n,blk)) (qp6 n blk _) ?_;refine qaT (qbO _) ?_;refine Own.new' hd1 fun r w2 er fr2 ho2=>?_;refine qai (ho2.cell (off:=1) 1 rfl rfl) ?_;obtain⟨iW,hi,⟨z,hz,hzs⟩,hsz,hby⟩:=qvb;have hwl:=hD.waits;have hwr:=hD.writes;have hfz:=hD.fuse;have fr2':Fr [] w1 w2:=(Fr.refl [] w1).drew.trans fr2;have hbuf2:Buf encW 513 w2 wsl D.waits B:=hbuf.frame0 fr2';have hsb2:w2.heap[sb]?=some (.cells (D.safe.flatMap encK).toArray T (0,0)):=(by rw[fr2'.block sb (qac hsb) (by simp)];exact hsb);have hBF:∀b∈B,b∈F:=fun b hb=>by rw[hF];simp[hb]
 have hdbB:∀b∈B,b≠db:=fun b hb e=>by subst e;simp at hn;exact hn.1.2 hb
 have hsbB:∀b∈B,b≠sb:=fun b hb e=>by subst e;simp at hn;exact hn.2.1 hb
 have hrB:∀b∈B,b≠r:=fun b hb e=>by have:=hbuf.lt b hb;have e1:w1.drew.heap.size=w1.heap.size:=rfl;omega
 refine Buf.appSrc (ys:=[(n,blk)]) (e:=179) hbuf2 qbO (by kernel_rfl) hi hz hsz hzs (.ofSlice _ (e':=179) (by kernel_rfl) _ 1 1 _ ?_ ?_ ?_) rfl (by rw[hby];omega) (by omega) fun s' B' w3 g1 g2 g3 _=>?_;simp[qbO];intro j u hj;rw[Addr.add_mk,qag (ho2.at (i:=0) rfl),xO];have:(encW (n,blk))[j]?=some u:=(by simpa using hj);simpa using this;intro u hu;have:u∈encW (n,blk):=(by simpa using hu);exact all_eq_true.1 (qkH (n,blk)) u this;have ho3:Own F w1 w3 [(r,.cells (encW (n,blk)).toArray 179 (0,0)),(db,.cells (dCells D sb wsl) DT (0,0))]:=
  ho2.frame g2 (fun b hb=>.inl (hBF b hb)) (fun p hp=>by simp at hp;rcases hp with rfl|rfl;exact fun hb=>hrB _ hb rfl;exact fun hb=>hdbB _ hb rfl)
 have hsb3:w3.heap[sb]?=some (.cells (D.safe.flatMap encK).toArray T (0,0)):=(by rw[g2.block sb (qac hsb2) (fun hb=>hsbB _ hb rfl)];exact hsb2);have hc3:=ho3.at (i:=1) rfl;refine qae ?_;refine qdN hc3 (dCells { D with waits:=D.waits++[(n,blk)] } sb s') rfl rfl (zO rfl) fun w4 hc4 f4=>?_;refine qae (qah (c:=.i) hc4 D.writes rfl ?_);refine qae ?_;rw[wi' (D.writes+1) (by omega)];refine qdN hc4 (dCells (addW D n blk) sb s') rfl rfl (zO rfl) fun w5 hc5 f5=>?_;have hs2:=fr2'.size;have hs3:=g2.size;have hne:sb≠db:=fun e=>by rw[e] at hn;simp at hn
 have f35:Fr [db] w3 w5:=f4.trans f5;have hB'db:∀b∈B',b≠db:=fun b hb e=>by
  rcases g3 b hb with h'|h';exact hdbB b h' e
  have:=qac hc;omega
 have hB'sb:∀b∈B',b≠sb:=fun b hb e=>by
  rcases g3 b hb with h'|h';exact hsbB b h' e
  have:=qac hsb;omega
 have hB'n:B'.Nodup:=by rcases g1 with ⟨_,_,rfl⟩|⟨b',o',cs',T',rfl,_⟩;simp;simp
 have h5:DiskAt w5 db (db::sb::B') (addW D n blk):=(by refine⟨sb,T,s',B',rfl,?_,hc5,?_,?_⟩;simp only[nodup_cons,zG,not_or];exact⟨⟨fun e=>hne e.symm,fun hb=>hB'db _ hb rfl⟩,fun hb=>hB'sb _ hb rfl,hB'n⟩;rw[f35.block sb (qac hsb3) (by simpa using hne)];exact hsb3;exact g1.frame f35 (fun b hb=>by simpa using hB'db b hb));have hF':∀b∈db::sb::B',b∈F\/w1.heap.size<=b:=fun b hb=>by simp only[zG] at hb;rcases hb with rfl|rfl|hb;exact .inl hdb;exact .inl (by rw[hF];simp);rcases g3 b hb with h'|h';exact .inl (hBF b h');exact .inr (by omega)
 have f15:Fr F w1 w5:=((fr2'.mono (fun i hi _=>by cases hi)).trans' g2 (fun b hb=>.inl (hBF b hb))).trans' f35 (fun b hb=>by simp at hb;subst hb;exact .inl hdb);refine qsI h5 (by show D.fuse<=_;omega) fun w6 h6 f6=>?_
 have:=hk (db::sb::B') w6 h6 (f15.trans' f6 (fun b hb=>by simp at hb;subst hb;exact .inl hdb)) hF'
 refine qaa (fun ha=>?_) (fun ha=>?_);rw[ha] at this;exact this;rw[ha] at this;exact this
def laySafe (s:List Blk) (x:Int×Blk):List Blk:=s.set x.1.toNat x.2
theorem qcu(l:List (Int×Blk)):∀s:List Blk,(l.foldl laySafe s).length=s.length:=by
 induction l with
 | nil=>intro s;rfl
 | cons x l ih=>intro s;rw[foldl_cons,ih,laySafe,xE]
def syncM (D:DiskM):DiskM×Int:=
 if D.down then (D,7) else if (actM D).2 then ((actM D).1,7) else ({ (actM D).1 with safe:=D.waits.foldl laySafe D.safe,waits:=[] },0)
theorem qcF(D:DiskM):(actM D).1.safe=D.safe/\(actM D).1.waits=D.waits:=by unfold actM;split;exact⟨rfl,rfl⟩;split<;>exact⟨rfl,rfl⟩
theorem qok{w:World}{db:Nat}{F:List Nat}{D:DiskM}{K:Int->WP}(h:DiskAt w db F D)(hD:D.Ok)(hk:∀F' w',DiskAt w' db F' (syncM D).1->Fr F w w'->(∀b∈F',b∈F)->K (syncM D).2 w'): cW 100 [.pointer (pW db)] [.one .i] w K:=by
 refine qjA ?_;unfold qfC;have ac:=h.mem;have aG:=hD.fuse;refine qaf (fun b w'=>(D.down=true/\b=true/\w'=w)\/(D.down=false/\b=(actM D).2/\DiskAt w' db F (actM D).1/\Fr [db] w w')) ?_ ?_;obtain⟨sb,y,hc⟩:=h.cell;refine qae (qah hc D.down rfl ?_);refine qaa (fun I=>.inl ⟨I,rfl,rfl⟩) (fun I=>?_);exact qsI h (by omega) fun w1 h1 f1=>.inr ⟨I,rfl,h1,f1⟩;rintro b w1 (⟨I,rfl,rfl⟩|⟨I,rfl,h1,f1⟩);refine cond_true rfl ?_
 have:=hk F w1 (by rw[syncM,if_pos I];exact h) (.refl _ _) (fun b R=>R)
 rw[syncM,if_pos I] at this;exact this;have fF:Fr F w w1:=f1.mono (fun i z _=>by simp at z;subst z;exact ac);refine qaa (fun ha=>?_) (fun ha=>?_)
 have:=hk F w1 (by rw[syncM,if_neg (by simp[I]),if_pos ha];exact h1) fF (fun b R=>R)
 rw[syncM,if_neg (by simp[I]),if_pos ha] at this;exact this;have au:syncM D=({ (actM D).1 with safe:=D.waits.foldl laySafe D.safe,waits:=[] },0):=(by rw[syncM,if_neg (by simp[I]),if_neg (by simp[ha])]);rw[au] at hk;obtain⟨O,ag⟩:=qcF D;generalize (actM D).1=D1 at h1 O ag hk;obtain⟨sb,T,y,B,hF,hn,hc,ai,A⟩:=h1;rw[O] at ai;rw[ag] at A;have U:sb≠db:=fun e=>by rw[e] at hn;simp at hn
 have hB:∀b∈B,b∉[sb]:=fun b R he=>by simp at he;subst he;simp at hn;exact hn.2.1 R
 have aI:=A.len;have av:=hD.waits;have aw:=hD.safe;refine qae (qah hc y rfl ?_);refine qaj (fun x w'=>∃i:Nat,x=i/\i<=D.waits.length/\w'.heap[sb]?=some (.cells (((D.waits.take i).foldl laySafe D.safe).flatMap encK).toArray T (0,0))/\Fr [sb] w1 w') (fun x _=>((D.waits.length:Int)-x).toNat)
  ⟨0,rfl,by omega,ai,.refl _ _⟩ ?_
 rintro x w2 ⟨i,rfl,z,C,f2⟩ X hX;have V:w2.heap[db]?=some (.cells (dCells D1 sb y) DT (0,0)):=(by rw[f2.block db (qac hc) (by simpa using fun e=>U e.symm)];exact hc);refine qaa (fun E=>?_) (fun E=>?_);have G:i<D.waits.length:=(by have:=zC E;omega);have ax:Rds encW 513 [] w2 y D.waits:=(A.frame f2 hB).rds qbO (by simp);have aj:=zA G;have aK:=hD.at_ D.waits[i] (zW G);refine ax.getV qbO i rfl aj ?_;refine Own.newFill (Own.start [] w2) (by kernel_rfl) (qbO _) (qkH _) fun r J er ho=>?_;have ay:J.heap[sb]?=some (.cells (((D.waits.take i).foldl laySafe D.safe).flatMap encK).toArray T (0,0)):=(by rw[ho.fr.block sb (qac C) (by simp)];exact C);have aa:J.heap[db]?=some (.cells (dCells D1 sb y) DT (0,0)):=(by rw[ho.fr.block db (qac V) (by simp)];exact V);refine qae (qah (w:=J.drew) aa ⟨pW sb,D1.safe.length,D1.safe.length⟩ rfl ?_);have ak:=ho.at (i:=0) rfl;refine qah (w:=J.drew) ak D.waits[i].1 rfl ?_;refine qaZ (n:=512) (w:=J.drew) ak (encK D.waits[i].2) (qaY _) (by rw[show (encW D.waits[i]).toArray.toList.drop 1=encK D.waits[i].2 from rfl,zS (by rw[qaY];exact zM _)]) ?_;have u:=qcu (D.waits.take i) D.safe;refine qdx (by omega) (by rw[O];omega) ?_;refine qaT (qaY _) ?_;have Q:0+Int.toNat D.waits[i].1*512+(encK D.waits[i].2).length<=(((D.waits.take i).foldl laySafe D.safe).flatMap encK).toArray.size:=by rw[size_toArray,qbX qaY,qaY,u];omega
 refine qdN (w:=J.drew) ay (((((D.waits.take i).foldl laySafe D.safe).set D.waits[i].1.toNat D.waits[i].2).flatMap encK).toArray) (by rw[xO];exact qqC qaY ((D.waits.take i).foldl laySafe D.safe) D.waits[i].1.toNat D.waits[i].2 (by rw[u];omega)) (qoF _) Q fun w4 az f4=>?_;rw[wi' _ (by omega)];refine hX _ _ ⟨i+1,by simp,by omega,?_,?_⟩ (by omega);rw[yF G,foldl_append];exact az;have aA:Fr [sb] w2 J.drew:=ho.fr.drew.mono (fun i z _=>by cases z);exact f2.trans (aA.trans f4);have G:i=D.waits.length:=(by have:=zB E;omega);subst G;rw[xX] at C;refine qae ?_;have u:=qcu D.waits D.safe;refine qdN V (dCells { D1 with safe:=D.waits.foldl laySafe D.safe,waits:=[] } sb ⟨none,0,0⟩) (by simp[splice,dCells,u,O]) rfl (zO rfl) fun J aa f3=>?_;have aB:Fr F w J:=(fF.trans (f2.mono (fun i z _=>by simp at z;subst z;rw[hF];simp))).trans (f3.mono (fun i z _=>by simp at z;subst z;exact ac));refine hk [db,sb] J ⟨sb,T,⟨none,0,0⟩,[],rfl,by simpa using fun e=>U e.symm,aa,?_,.nil _ _ _⟩ aB (fun b R=>by rw[hF];simp at R;rcases R with rfl|rfl<;>simp);rw[f3.block sb (qac C) (by simpa using U)];exact C
def lastW (n:Int):List (Int×Blk)->Option Blk
 | []=>none
 | x::r=>match lastW n r with|some b=>some b|none=>if x.1=n then some x.2 else none
theorem qnk{n:Int}:∀(l:List (Int×Blk)) (i:Nat) (h:i<l.length),lastW n (l.drop (i+1))=none->l[i].1=n->lastW n l=some l[i].2
 | x::l,0,h,u,y=>by simp only[xO,drop_succ_cons,xD] at u;simp only[getElem_cons_zero] at y⊢;simp[lastW,u,y]
 | x::l,i+1,h,u,y=>by
  have:=qnk l i (by simpa using h) (by simpa using u) (by simpa using y)
  simp only[lastW,this,getElem_cons_succ]
theorem qrV{n:Int}:∀(l:List (Int×Blk)) (i:Nat) (h:i<l.length),lastW n (l.drop (i+1))=none->l[i].1≠n->lastW n (l.drop i)=none:=by intro l i h y u;rw[zX h,lastW,y];simp[u]
def readV (D:DiskM) (n:Int):List Int×Int:=
 if D.down then ([],7) else if n<0\/n>=D.safe.length then ([],4) else
 match lastW n D.waits with|some b=>(b.1,0)|none=>((D.safe.getD n.toNat .zero).1,0)
theorem qpK{b o n:Nat}{h:Nat}{K:Sl->Prop}(u:0<n)(k:K ⟨some ⟨b,o,none⟩,n,n⟩):slcP ⟨b,o,none⟩ n none none none h K:=by unfold slcP;refine⟨by simp,?_⟩;simp only[xT,zJ,Int.toNat_zero,Nat.sub_zero,Nat.zero_mul];rw[if_neg (by omega),qij];exact k
theorem qoG{S:List Nat}{w:World}{b o:Nat}{cs:Array Value}{T:TypeId}{h:Nat×Nat}{x:Blk}(A:w.heap[b]?=some (.cells cs T h))(C:(cs.toList.drop o).take 512=encK x)(E:b∉S):RdB S w ⟨some ⟨b,o,none⟩,512,512⟩ x.1:=by
 refine⟨x.2.symm,zM _,.inr ⟨b,o,cs,T,h,rfl,A,E,fun i v u=>?_⟩⟩;have y:=(zP.1 u).1;rw[x.2] at y;rw[xQ];have z:(encK x)[i]?=some (.b v):=(by rw[encK,zQ,u];rfl);rw[<- C,xA,if_pos y,yZ] at z;apply ext_getElem?;intro j;rw[xA,yZ];match j with
 | 0=>simpa using z
 | j+1=>simp
theorem qp0{w:World}{s:Sl}{K:Value->WP}(u:∀rb w',(∀S w0 L,Own S w0 w L->Own S w0 w' ((rb,.cells #[s.v] 173 (0,0))::L))->K (.func (.func 202) #[] #[.pointer (pW rb)]) w'): cW 156 [s.v] [.one .any] w K:=by refine qiX ?_;unfold qe5;exact Pt.qiH (u _ _ fun S w0 L h=>h.alloc _)
theorem qqg{Z:List Value}(l:List Blk)(i:Nat)(x:Blk)(h:l[i]?=some x):((l.flatMap encK++Z).drop (i*512)).take 512=encK x:=by have y:=(zP.1 h).1;have u:(l.flatMap encK).length=l.length*512:=qbX qaY l;rw[drop_append_of_le_length (by rw[u];omega),take_append_of_le_length (by rw[yB,u];omega)];exact qhb qaY l i x h
theorem qsy{w:World}{db c:Nat}{F:List Nat}{D:DiskM}{Z:List Value}{n:Int}{K:Sl×Int->WP}(h:DiskZ w db F D c Z)(hD:D.Ok)(hk:∀s' B w',BufB w' s' (readV D n).1 B->Fr [] w w'->(∀b∈B,w.heap.size<=b)->K (s',(readV D n).2) w'): cW 125 [.pointer (pW db),.i n] [.one .slice,.one .i] w K:=by
 refine qjz ?_;unfold qfB;refine Own.new' (Own.start [] w) fun r1 w1 e1 f1 z=>?_;refine Own.new' z fun r3 w2 e2 f2 z=>?_;refine Own.new' z fun r5 w3 e3 f3 z=>?_;obtain⟨sb,T,Q,B,hF,hn,hc,aw,ah⟩:=h;have ae:∀ {w':World},Fr [] w w'->w'.heap[db]?=some (.cells (dCellsC D sb c Q) DT (0,0)):=fun f=>by rw[f.block db (qac hc) (by simp)];exact hc
 have ax:∀ {w':World},Fr [] w w'->w'.heap[sb]?=some (.cells (D.safe.flatMap encK++Z).toArray T (0,0)):=fun f=>by rw[f.block sb (qac aw) (by simp)];exact aw
 have ay:∀ {e:Int} {w':World} {L'},readV D n=([],e)->Own [] w w' L'->L'[1]?=some (r3,.cells #[.slice none 0 0] 23 (0,0))->L'[0]?=some (r5,.cells #[.i e] 33 (0,0))->ld Cell.slice ⟨r3,0,none⟩ w' fun s=>ld .i ⟨r5,0,none⟩ w' fun x=>K (s,x) w':=by
  intro e w' L' he z h1 h0;refine Own.ld z 1 h1 ⟨none,0,0⟩ rfl ?_;refine Own.ld z 0 h0 e rfl ?_
  have:=hk ⟨none,0,0⟩ [] w' (by rw[he];exact .nil _ _ _) z.fr (by simp)
  rw[he] at this;exact this
 refine qae (qah (ae z.fr) D.down rfl ?_);refine qaa (fun hd=>?_) (fun hd=>?_);refine Own.st z 1 rfl _ rfl rfl rfl fun w4 z _=>?_;refine Own.st z 0 rfl _ rfl rfl rfl fun w5 z _=>?_;exact ay (by rw[readV,if_pos hd]) z rfl rfl;refine qaf (fun b w'=>b=decide (n<0\/n>=D.safe.length)/\w'=w3.drew) ?_ ?_;refine Own.ld z.drew 2 rfl n rfl ?_;refine qaa (fun hc=>?_) (fun aO=>?_);exact⟨by rw[zZ (Or.inl (zC hc))],rfl⟩;refine Own.ld z.drew 2 rfl n rfl ?_;refine qae (qah (ae z.drew.fr) ⟨pW sb,D.safe.length,c⟩ rfl ⟨?_,rfl⟩)
 have:=zB aO
 by_cases h2:n>=D.safe.length<;>simp[this,h2];rintro b w4 ⟨rfl,rfl⟩;refine qaa (fun hr=>?_) (fun hr=>?_);refine Own.st z.drew 1 rfl _ rfl rfl rfl fun w4 z _=>?_;refine Own.st z 0 rfl _ rfl rfl rfl fun w5 z _=>?_;exact ay (by rw[readV,if_neg (by simpa using hd),if_pos (zC hr)]) z rfl rfl;have aQ:=zB hr;have aR:0<=n:=(by omega);have aS:n<D.safe.length:=(by omega);have aT:=hD.waits;have aU:=hD.safe;have aV:=ah.len;have aC:readV D n=match lastW n D.waits with|some b=>(b.1,0)|none=>((D.safe.getD n.toNat .zero).1,0):=by rw[readV,if_neg (by simpa using hd),if_neg aQ]
 refine qae (qah (ae z.drew.fr) Q rfl ?_);refine qp0 fun rb w5 aW=>?_;have aX:=aW _ _ _ z.drew;refine Own.rng (lb:=[.pointer (pW rb)]) aX rfl (by kernel_rfl) fun Dm l R Bz J E E0 w6 el eD bf aG hy=>?_;refine qgL ?_;unfold qdt;refine Own.ld aG 2 rfl Q rfl ?_;rw[wi' _ (by omega)];have aH:∀ {bl:Blk} {s7:Sl} {Bf:List Nat} {U wz:World} {af:List (Nat×Obj)},readV D n=(bl.1,0)->Own [] w U af->BufB U s7 bl.1 Bf->(∀b∈Bf,w.heap.size<=b)->(∀b∈Bf,b∉af.map (·.1))->Fr (af.map (·.1)) U wz->K (s7,0) wz:=by
  intro bl s7 Bf U wz af he aZ ab C G fz
  have:=hk s7 Bf wz (by rw[he];exact ab.frame fz G) (aZ.back (L':=[]) fz) C
  rw[he] at this;exact this
 refine qaj (fun x w'=>∃i:Nat,x=(i:Int)-1/\i<=D.waits.length/\lastW n (D.waits.drop i)=none/\Own [] w w' [(l,R),(Dm,.deferred (some [])),(rb,.cells #[Q.v] 173 (0,0)),(r5,.cells #[.i 0] 33 (0,0)),(r3,.cells #[.slice none 0 0] 23 (0,0)),(r1,.cells #[.i n] 3 (0,0))]) (fun x _=>(x+1).toNat)
  ⟨D.waits.length,by rw[aV],zM _,by rw[drop_length];rfl,aG⟩ ?_
 rintro x w7 ⟨i,rfl,hi,ag,V⟩ X hX;refine qaa (fun al=>?_) (fun al=>?_);have bi:=zC al;obtain⟨i,rfl⟩:∃k,i=k+1:=⟨i-1,by omega⟩;have am:i<D.waits.length:=(by omega);refine Own.ld V 2 rfl Q rfl ?_;have a0:Rds encW 513 [] w7 Q D.waits:=(ah.frame0 V.fr).rds qbO (by simp);refine a0.getV qbO i (by omega) (zA am) ?_;refine hy ((((i+1:Nat):Int)-1),encW D.waits[i]) w7 _ (V.at (i:=0) rfl) ?_;dsimp only;refine Own.newFill V (by kernel_rfl) (qbO _) (qkH _) fun r w8 er A=>?_;refine⟨A.at (i:=1) rfl,?_⟩;have I:=A.upd (o':=Bz) 1 rfl;refine Own.ld I 0 rfl D.waits[i].1 rfl ?_;refine Own.ld I 6 rfl n rfl ?_;refine qaa (fun hm=>?_) (fun hm=>?_);have ao:D.waits[i].1=n:=(by simpa using hm);have ap:=qnk D.waits i am ag ao;have ac:readV D n=(D.waits[i].2.1,0):=(by rw[aC,ap]);refine qpK (by decide) ?_;have aq:RdB [] (Pt.upd w8 l Bz) ⟨some ⟨r,1,none⟩,512,512⟩ D.waits[i].2.1:=
  qoG (x:=D.waits[i].2) (I.at (i:=0) rfl) (by rw[show (encW D.waits[i]).toArray.toList.drop 1=encK D.waits[i].2 from rfl,zS (by rw[qaY];exact zM _)]) (by simp)
 refine qa2 (s:=⟨some ⟨r,1,none⟩,512,512⟩) aq (by rw[D.waits[i].2.2];decide) fun s7 Bf U ab ar ad _ _=>?_;have O:=I.frame0 ar;have u:=O.rebase;have C:∀b∈Bf,w.heap.size<=b:=fun b hb=>by have h1:(Pt.upd w8 l Bz).heap.size<=b:=ad b hb;have:=I.fr.size;omega
 have G:∀b∈Bf,b∉[r,l,Dm,rb,r5,r3,r1]:=fun b hb hm=>by
  have h1:(Pt.upd w8 l Bz).heap.size<=b:=ad b hb;have h2:∀p∈[r,l,Dm,rb,r5,r3,r1],p<(Pt.upd w8 l Bz).heap.size:=fun p hp=>by have y:=fun (k:Nat) (q:Nat×Obj) (hq:_[k]?=some q)=>qac (I.at (i:=k) hq);simp only[zG,xV,or_false] at hp;rcases hp with rfl|rfl|rfl|rfl|rfl|rfl|rfl;exact y 0 _ rfl;exact y 1 _ rfl;exact y 2 _ rfl;exact y 3 _ rfl;exact y 4 _ rfl;exact y 5 _ rfl;exact y 6 _ rfl
  have:=h2 b hm
  omega
 refine Own.st u 5 rfl _ rfl rfl rfl fun a2 u _=>?_;refine Own.st u 4 rfl _ rfl rfl rfl fun a3 u _=>?_;refine⟨u.at (i:=1) rfl,?_⟩;have u:=u.upd (o':=J 0) 1 rfl;refine cond_true rfl ?_;refine .inr ⟨0,_,rfl,u.at (i:=1) rfl,?_⟩;have u:=u.upd (o':=E 0) 1 rfl;refine Own.undefer u 2 rfl fun a4 u=>?_;refine Own.ld u 5 rfl s7 rfl ?_;refine Own.ld u 4 rfl 0 rfl ?_;exact aH ac O ab C G u.fr;have ao:D.waits[i].1≠n:=(by simpa using hm);refine⟨I.at (i:=1) rfl,?_⟩;have a5:=I.upd (o':=R) 1 rfl;refine cond_false rfl ?_;rw[wi' _ (by omega)];refine hX _ _ ⟨i,by omega,by omega,qrV D.waits i am ag ao,a5.sub (sublist_cons_self _ _)⟩ (by omega);have y:=zB al;obtain rfl:i=0:=by omega
 rw[xD] at ag;refine .inl ⟨V.at (i:=0) rfl,?_⟩;have A:=(V.upd (o':=E0) 0 rfl).drew;have ac:readV D n=((D.safe.getD n.toNat .zero).1,0):=(by rw[aC,ag]);have aJ:n.toNat<D.safe.length:=(by omega);have a6:D.safe[n.toNat]?=some (D.safe.getD n.toNat .zero):=(by rw[yQ,zA aJ];rfl);refine qae (qah (ae A.fr) ⟨pW sb,D.safe.length,c⟩ rfl ?_);refine Own.ld A 5 rfl n rfl ?_;refine qdx aR aS ?_;refine qpK (by decide) ?_;have aq:RdB [] (Pt.upd w7 l E0).drew ⟨some ⟨sb,0+n.toNat*512,none⟩,512,512⟩ (D.safe.getD n.toNat .zero).1:=
  qoG (ax A.fr) (by rw[xO];exact qqg D.safe n.toNat _ a6) (by simp)
 refine qa2 (s:=⟨some ⟨sb,0+n.toNat*512,none⟩,512,512⟩) aq (by rw[(D.safe.getD n.toNat .zero).2];decide) fun s7 Bf U ab ar ad _ _=>?_;have O:=A.frame0 ar;have u:=O.rebase;have C:∀b∈Bf,w.heap.size<=b:=fun b hb=>by have h1:(Pt.upd w7 l E0).drew.heap.size<=b:=ad b hb;have:=A.fr.size;omega
 have G:∀b∈Bf,b∉[l,Dm,rb,r5,r3,r1]:=fun b hb hm=>by
  have h1:(Pt.upd w7 l E0).drew.heap.size<=b:=ad b hb;have h2:∀p∈[l,Dm,rb,r5,r3,r1],p<(Pt.upd w7 l E0).drew.heap.size:=fun p hp=>by have y:=fun (k:Nat) (q:Nat×Obj) (hq:_[k]?=some q)=>qac (A.at (i:=k) hq);simp only[zG,xV,or_false] at hp;rcases hp with rfl|rfl|rfl|rfl|rfl|rfl;exact y 0 _ rfl;exact y 1 _ rfl;exact y 2 _ rfl;exact y 3 _ rfl;exact y 4 _ rfl;exact y 5 _ rfl
  have:=h2 b hm
  omega
 refine Own.st u 4 rfl _ rfl rfl rfl fun a2 u _=>?_;refine Own.st u 3 rfl _ rfl rfl rfl fun a3 u _=>?_;refine Own.undefer u 1 rfl fun a4 u=>?_;refine Own.ld u 4 rfl s7 rfl ?_;refine Own.ld u 3 rfl 0 rfl ?_;exact aH ac O ab C G u.fr
theorem qgY{w:World}{db:Nat}{F:List Nat}{D:DiskM}{n:Int}{K:Sl×Int->WP}(h:DiskAt w db F D)(y:D.Ok)(A:∀u B w',BufB w' u (readV D n).1 B->Fr [] w w'->(∀b∈B,w.heap.size<=b)->K (u,(readV D n).2) w'): cW 125 [.pointer (pW db),.i n] [.one .slice,.one .i] w K:=qsy h.z y A
abbrev U32 (n:Int):Prop:=0<=n/\n<4294967296
theorem qfD{n:Int}(h:U32 n)(r:List Int):first4 (be n 4++r)=n:=by rw[be4 h.1];exact qul h
theorem qnc:∀(c:List Int) (i:Nat),(c.flatMap (be · 4)).drop (4*i)=(c.drop i).flatMap (be · 4)
 | [],i=>by simp
 | a::c,0=>by simp
 | a::c,i+1=>by rw[yG,drop_succ_cons,<- qnc c i,drop_append,qao,xZ (by rw[qao];omega),xG];congr 1
theorem quw(c:List Int):(c.flatMap (be · 4)).length=4*c.length:=by
 induction c with
 | nil=>rfl
 | cons a c ih=>rw[yG,zF,qao,ih,yH];omega
theorem qj0{c:List Int}{i:Nat}(h:i<c.length)(u:∀x∈c,U32 x):first4 ((c.flatMap (be · 4)).drop (4*i))=c[i]:=by rw[qnc,zX h,yG];exact qfD (u _ (zW h)) _
theorem qfw(next:Int)(c:List Int):(bodyV next c).length=6+4*c.length:=by rw[bodyV,zF,zF,qao,quw];rfl
theorem qoO(c:List Int):IsB (c.flatMap (be · 4)):=by
 induction c with
 | nil=>exact fun x h=>by cases h
 | cons a c ih=>rw[yG];exact (qbC _ _).append ih
theorem qwf(x:Int):0<=wrap .u8 x/\wrap .u8 x<256:=by rw[wu8];omega
theorem qm2(next:Int)(c:List Int):IsB (bodyV next c):=by refine ((qbC _ _).append fun x h=>?_).append (qoO c);simp only[zG,xV,or_false] at h;rcases h with rfl|rfl<;>exact qwf _
theorem qpq{next:Int}{c:List Int}(y:U32 next)(C:next≠1)(E:∀x∈c,U32 x)(G:risesB 1 c=true)(R:c.length<=123):parseV (bodyV next c)=(next,c,0):=by
 have z:=qfw next c
 have e:bodyV next c=be next 4++([wrap .u8 (Int.fdiv c.length (2^8)),wrap .u8 c.length]++c.flatMap (be · 4)):=by rw[bodyV,zV]
 have A:first4 (bodyV next c)=next:=by rw[e];exact qfD y _
 have h:cntV (bodyV next c)=c.length:=(by have I:(bodyV next c).getD 4 0=wrap .u8 (Int.fdiv c.length (2^8)):=(by rw[e,be4 y.1];rfl);have J:(bodyV next c).getD 5 0=wrap .u8 c.length:=(by rw[e,be4 y.1];rfl);have K:Int.fdiv (c.length:Int) (2^8)=0:=(by rw[Int.fdiv_eq_ediv_of_nonneg _ (by decide)];omega);rw[cntV,I,J,wu8,wu8,K];omega);have u:numsV (bodyV next c) c.length=c:=by
  apply ext_getElem;simp[numsV];intro i C O;have:(bodyV next c).drop (6+4*i)=(c.flatMap (be · 4)).drop (4*i):=by have Q:(bodyV next c).drop 6=c.flatMap (be · 4):=(by rw[e,be4 y.1];rfl);rw[<- Q,xB]
  simp only[numsV,getElem_map,getElem_range,this];exact qj0 O E
 rw[parseV,if_neg (by omega),if_neg (by rw[A,h];omega),h,zJ,u,if_pos G,A]
theorem qpY(x:Int)(h:0<=x/\x<18446744073709551616):wrap .u64 x=x:=by unfold wrap;have:(IntKind.u64.signed)=false:=rfl;simp only[this,Bool.false_and,Bool.false_eq_true,if_false];exact Int.emod_eq_of_lt h.1 h.2
theorem qtv{A B:Int}(k:Nat)(C:0<=A)(y:A%2^k=0)(E:0<=B)(h:B<2^k)(G:A+B<18446744073709551616):bits .or .u64 A B=A+B:=by
 obtain⟨a,rfl⟩:∃a:Nat,A=a:=⟨A.toNat,by omega⟩;obtain⟨b,rfl⟩:∃b:Nat,B=b:=⟨B.toNat,by omega⟩;have z:a%2^k=0:=by have:((a:Int)%((2^k:Nat):Int))=0:=(by rw[Int.natCast_pow];exact y);omega
 have u:b<2^k:=(by have:(b:Int)<((2^k:Nat):Int):=(by rw[Int.natCast_pow];exact h);omega);obtain⟨q,rfl⟩:∃q,a=2^k*q:=⟨a / 2^k,by have:=Nat.div_add_mod a (2^k);omega⟩;show wrap .u64 ((BitVec.ofInt 64 ((2^k*q:Nat):Int)||| BitVec.ofInt 64 (b:Int)).toNat:Nat)=_;rw[BitVec.toNat_or,BitVec.ofInt_natCast,BitVec.ofInt_natCast,BitVec.toNat_ofNat,BitVec.toNat_ofNat,Nat.mod_eq_of_lt (show 2^k*q<2^64 by omega),Nat.mod_eq_of_lt (show b<2^64 by omega),<- Nat.two_pow_add_eq_or_of_lt u];rw[qpY _ (by omega)];omega
abbrev U64 (n:Int):Prop:=0<=n/\n<18446744073709551616
theorem qdl{q:Int}{t:List Int}:superB q t=be (wrap .u32 (Int.fdiv q (2^32))) 4++(be (wrap .u32 q) 4++t.flatMap (be · 4)):=by rw[superB,zV]
theorem qhQ{q:Int}{t:List Int}(C:U64 q):parseQ (superB q t)=q:=by have h:Int.fdiv q (2^32)=q / 4294967296:=(by rw[Int.fdiv_eq_ediv_of_nonneg _ (by decide)];rfl);have u:first4 (superB q t)=q / 4294967296:=(by rw[qdl,h,qa4 _ (by omega)];exact qfD (by constructor<;>omega) _);have y:(superB q t).drop 4=be (wrap .u32 q) 4++t.flatMap (be · 4):=(by rw[qdl,drop_append,qao,xZ (by rw[qao];exact zM _)];rfl);have z:wrap .u32 q=q%4294967296:=(by unfold wrap;have:(IntKind.u32.signed)=false:=rfl;simp only[this,Bool.false_and,Bool.false_eq_true,if_false];rfl);have A:first4 ((superB q t).drop 4)=q%4294967296:=(by rw[y,z];exact qfD (by constructor<;>omega) _);rw[parseQ,u,A,qpY (q / 4294967296) (by omega),qpY (q%4294967296) (by omega),qpY (q / 4294967296*2^32) (by omega)];rw[qtv 32 (by omega) (by omega) (by omega) (by omega) (by omega)];omega
theorem qsu(q:Int)(t:List Int):IsB (superB q t):=by rw[qdl];exact (qbC _ _).append ((qbC _ _).append (qoO t))
theorem qn5{q:Int}{t:List Int}(h:t.length=27)(u:∀x∈t,U32 x):parseT (superB q t)=t:=by
 apply ext_getElem;rw[qaR,h];intro i A y;have z:(superB q t).drop 8=t.flatMap (be · 4):=by rw[qdl,<- zV,drop_append,zF,qao,qao,xZ (by rw[zF,qao,qao];exact zM _)];rfl
 have:(superB q t).drop (8+4*i)=(t.flatMap (be · 4)).drop (4*i):=(by rw[<- z,xB]);simp only[parseT,getElem_map,getElem_range,this];exact qj0 y u
theorem qqy{q place:Int}{t:List Int}(h:U64 q)(u:t.length=27)(A:∀x∈t,U32 x)(z:Int.tmod q 2=place):readSV place (sealV place 1 (superB q t))=((q,t),0):=by have y:U32 place:=(by rw[<- z,Int.tmod_eq_emod_of_nonneg h.1];constructor<;>omega);have C:=qgd (kind:=1) (body:=superB q t) y (by rw[qcn u];decide);rw[readSV,C,if_neg (by simp),if_neg (by simp[qcn u]),if_neg (by rw[qhQ h,z];simp),qhQ h,qn5 u A]
end Go.Proofs.YtmmkegapckbomaaGreatDoor
end
section
namespace Go.Proofs.YtmmkegapckbomaaGreatDoor
open Go Go.Pt List
open Go.IntKind (wrap)
open Classical
theorem qum{a b:Int}(h:IsB [a,b]):be (getV [a,b]) 2=[a,b]/\getV [a,b]=a*256+b:=by
 have u:=h a (by simp);have y:=h b (by simp);have e:getV [a,b]=a*256+b:=by rw[qhf h (zO rfl)];show ((0*256+a)*256+b)=_;omega
 refine⟨?_,e⟩;rw[e,be2 (by omega)];congr 1;omega;congr 1;omega
structure NodeM where
 leaf:Bool
 keys:List Key
 vals:List Key
 kids:List Int
def zeroN:NodeM:=⟨false,[],[],[]⟩
def capsV (k v:Nat):Nat×Nat:=if k<1\/k>24\/v>108 then (0,0) else (498 / (k+v),(498+k) / (4+k))
def rightV (n:NodeM) (k v:Nat):Prop:=
 (∀a∈n.keys,a.length=k)/\(∀a∈n.vals,a.length=v)/\Rising n.keys/\
 if n.leaf then n.kids=[]/\1<=n.keys.length/\n.keys.length<=(capsV k v).1/\n.vals.length=n.keys.length
 else (∀x∈n.kids,2<=x)/\n.vals=[]/\2<=n.kids.length/\n.kids.length<=(capsV k v).2/\n.keys.length+1=n.kids.length
def leafB (keys vals:List Key):List Int:=(keys.zip vals).flatMap fun x=>x.1++x.2
def bodyN (n:NodeM):List Int:=if n.leaf then be n.keys.length 2++leafB n.keys n.vals else be n.kids.length 2++n.kids.flatMap (fun x=>be x 4)++n.keys.flatten
def kindN (n:NodeM):Int:=if n.leaf then 3 else 4
noncomputable def writeNV (n:NodeM) (k v:Nat):Int×List Int×Int:=if rightV n k v then (kindN n,bodyN n,0) else (0,[],1)
def leafR (k v:Nat):Nat->List Int->List Key×List Key
 | 0,_=>([],[])
 | c+1,b=>(b.take k::(leafR k v c (b.drop (k+v))).1,(b.drop k).take v::(leafR k v c (b.drop (k+v))).2)
def kidsR:Nat->List Int->List Int
 | 0,_=>[]
 | c+1,b=>getV (b.take 4)::kidsR c (b.drop 4)
def keysR (k:Nat):Nat->List Int->List Key
 | 0,_=>[]
 | c+1,b=>b.take k::keysR k c (b.drop k)
def countV (b:List Int):Nat:=(b.getD 0 0*256+b.getD 1 0).toNat
def leafN (k v:Nat) (b:List Int):NodeM:=⟨true,(leafR k v (countV b) (b.drop 2)).1,(leafR k v (countV b) (b.drop 2)).2,[]⟩
def innerN (k:Nat) (b:List Int):NodeM:=⟨false,keysR k (countV b-1) ((b.drop 2).drop (countV b*4)),[],kidsR (countV b) (b.drop 2)⟩
noncomputable def readNV (kind:Int) (b:List Int) (k v:Nat):NodeM×Int:=
 if (capsV k v).1=0\/b.length<2\/b.length>500 then (zeroN,2)
 else if kind=3/\(b.drop 2).length=countV b*(k+v)/\rightV (leafN k v b) k v then (leafN k v b,0)
 else if kind=4/\1<=countV b/\(b.drop 2).length=countV b*4+(countV b-1)*k/\rightV (innerN k b) k v then (innerN k b,0)
 else (zeroN,2)
theorem qpA{kind:Int}{b:List Int}{k v:Nat}(h:(readNV kind b k v).2=0):rightV (readNV kind b k v).1 k v:=by unfold readNV at h⊢;split at h;cases h;rename_i z;rw[if_neg z];split at h;rename_i u;rw[if_pos u];exact u.2.2;rename_i u;rw[if_neg u];split at h;rename_i y;rw[if_pos y];exact y.2.2.2;cases h
theorem qiE{k v:Nat}:∀ {keys vals:List Key},(∀a∈keys,a.length=k)->(∀a∈vals,a.length=v)->keys.length=vals.length->(leafB keys vals).length=keys.length*(k+v)
 | [],[],_,_,_=>by simp[leafB]
 | a::r,b::s,y,z,A=>by
  have:=qiE (keys:=r) (vals:=s) (fun x u=>y x (zN _ u)) (fun x u=>z x (zN _ u)) (by simpa using A)
  unfold leafB at this⊢;rw[zip_cons_cons,yG,zF,zF,y a (by simp),z b (by simp),this,yH,xR];omega
 | [],_::_,_,_,h=>by simp at h
 | _::_,[],_,_,h=>by simp at h
theorem qre{k v:Nat}:∀ {keys vals:List Key},(∀a∈keys,a.length=k)->(∀a∈vals,a.length=v)->keys.length=vals.length->leafR k v keys.length (leafB keys vals)=(keys,vals)
 | [],[],_,_,_=>rfl
 | a::r,b::s,y,z,G=>by have ih:=qre (k:=k) (v:=v) (keys:=r) (vals:=s) (fun x u=>y x (zN _ u)) (fun x u=>z x (zN _ u)) (by simpa using G);have A:=y a (by simp);have C:=z b (by simp);have e:leafB (a::r) (b::s)=a++(b++leafB r s):=(by unfold leafB;rw[zip_cons_cons,yG,zV]);rw[yH,leafR,e];have e1:(a++(b++leafB r s)).take k=a:=(by rw[<- A,take_left'];rfl);have E:(a++(b++leafB r s)).drop k=b++leafB r s:=(by rw[<- A,drop_left'];rfl);have I:(a++(b++leafB r s)).drop (k+v)=leafB r s:=(by rw[<- xB,E,<- C,drop_left'];rfl);have J:(b++leafB r s).take v=b:=(by rw[<- C,take_left'];rfl);rw[I,ih,e1,E,J]
 | [],_::_,_,_,h=>by simp at h
 | _::_,[],_,_,h=>by simp at h
theorem qra{r:List Int}:∀ {l:List Int},(∀x∈l,0<=x/\x<4294967296)->kidsR l.length (l.flatMap (fun x=>be x 4)++r)=l
 | [],_=>rfl
 | a::l,h=>by have ih:=qra (r:=r) (l:=l) fun x y=>h x (zN _ y);have u:=qao a 4;rw[yH,kidsR,yG,zV];generalize l.flatMap (fun x=>be x 4)++r=R at ih⊢;have e1:(be a 4++R).take 4=be a 4:=take_left' u;have z:(be a 4++R).drop 4=R:=drop_left' u;rw[e1,z,ih,qkM (h a (by simp))]
theorem qq9{k:Nat}:∀ {l:List Key},(∀a∈l,a.length=k)->keysR k l.length l.flatten=l
 | [],_=>rfl
 | a::l,h=>by have ih:=qq9 (k:=k) (l:=l) fun x y=>h x (zN _ y);have u:=h a (by simp);rw[yH,keysR,flatten_cons];have e1:(a++l.flatten).take k=a:=(by rw[<- u];exact take_left);have z:(a++l.flatten).drop k=l.flatten:=(by rw[<- u];exact drop_left);rw[e1,z,ih]
theorem qiu(l:List Int):(l.flatMap fun x=>be x 4).length=l.length*4:=by
 induction l with
 | nil=>rfl
 | cons a l ih=>rw[yG,zF,ih,qao,yH];omega
theorem qiv{k:Nat}:∀ {l:List Key},(∀a∈l,a.length=k)->l.flatten.length=l.length*k
 | [],_=>by simp
 | a::l,h=>by rw[flatten_cons,zF,qiv fun x u=>h x (zN _ u),h a (by simp),yH,xR];omega
theorem qm5{n:Nat}(h:n<65536)(r:List Int):countV (be (n:Int) 2++r)=n:=by
 have z:=qao (n:Int) 2;obtain⟨a,b,e⟩:∃a b,be (n:Int) 2=[a,b]:=by
  match be (n:Int) 2,z with
  | [a,b],_=>exact⟨a,b,rfl⟩
 have u:=qbC (n:Int) 2;have y:=qoU (n:=(n:Int)) ⟨by omega,by omega⟩;rw[e] at u y
 have:=(qum u).2
 rw[y] at this;unfold countV;rw[e];show (a*256+b).toNat=n;omega
theorem qqW{n:Int}{r:List Int}:(be n 2++r).drop 2=r:=by
 have:=drop_left (l₁:=be n 2) (l₂:=r)
 rw[qao] at this;exact this
theorem qjW(a b:Nat):a / b*b<=a:=Nat.div_mul_le_self a b
theorem qsJ{k v c:Nat}(h:c<=(capsV k v).1):c*(k+v)<=498:=by unfold capsV at h;split at h;rw[show c=0 from Nat.le_zero.1 h];omega;exact zL (Nat.mul_le_mul_right _ h) (qjW _ _)
theorem qrE{k v c:Nat}(h:c<=(capsV k v).2):c*4+(c-1)*k<=498:=by
 unfold capsV at h;split at h;rw[show c=0 from Nat.le_zero.1 h];omega;have u:c*(4+k)<=498+k:=zL (Nat.mul_le_mul_right _ h) (qjW _ _);cases c with
 | zero=>omega
 | succ c=>
  rw[Nat.add_sub_cancel];rw[xR,Nat.mul_add] at u;rw[xR];omega
theorem qgl{k v:Nat}:(capsV k v).1<=498/\(capsV k v).2<=498:=by unfold capsV;split;exact⟨by decide,by decide⟩;exact⟨Nat.div_le_self _ _,Nat.div_le_of_le_mul (by have:(498+k)<=(4+k)*498:=(by rw[xR];omega);exact this)⟩
theorem qfv{n:NodeM}{k v:Nat}(h:rightV n k v):2<=(bodyN n).length/\(bodyN n).length<=500:=by
 obtain⟨y,A,C,u⟩:=h;unfold bodyN;cases z:n.leaf with
 | true=>
  rw[z,if_pos rfl] at u;rw[if_pos rfl,zF,qao,qiE y A u.2.2.2.symm]
  have:=qsJ u.2.2.1
  omega
 | false=>
  rw[z,if_neg (by decide)] at u;rw[if_neg (by decide),zF,zF,qao,qiu,qiv y]
  have:=qrE u.2.2.2.1
  have e:n.keys.length=n.kids.length-1:=(by omega);rw[e];omega
theorem qpi{n:NodeM}:(⟨n.leaf,n.keys,n.vals,n.kids⟩:NodeM)=n:=rfl
theorem qse{n:NodeM}{k v:Nat}(h:rightV n k v)(U:∀x∈n.kids,x<4294967296):readNV (kindN n) (bodyN n) k v=(n,0):=by
 have J:=qfv h;have K:=h;obtain⟨G,O,h3,A⟩:=h;have V:=(qgl (k:=k) (v:=v));unfold readNV;cases z:n.leaf with
 | true=>
  rw[z,if_pos rfl] at A;have u:countV (bodyN n)=n.keys.length:=(by unfold bodyN;rw[z,if_pos rfl];exact qm5 (by omega) _);have y:(bodyN n).drop 2=leafB n.keys n.vals:=(by unfold bodyN;rw[z,if_pos rfl];exact qqW);have C:leafN k v (bodyN n)=n:=by unfold leafN;rw[u,y,qre G O A.2.2.2.symm];rw[<- qpi (n:=n),z,A.1]
  rw[if_neg (by omega),if_pos ⟨by unfold kindN;rw[z];rfl,by rw[u,y,qiE G O A.2.2.2.symm],by rw[C];exact K⟩,C]
 | false=>
  rw[z,if_neg (by decide)] at A;have Q:bodyN n=be n.kids.length 2++(n.kids.flatMap (fun x=>be x 4)++n.keys.flatten):=(by unfold bodyN;rw[z,if_neg (by decide),zV]);have u:countV (bodyN n)=n.kids.length:=(by rw[Q];exact qm5 (by omega) _);have y:(bodyN n).drop 2=n.kids.flatMap (fun x=>be x 4)++n.keys.flatten:=(by rw[Q];exact qqW);have E:n.keys.length=n.kids.length-1:=(by omega);have C:innerN k (bodyN n)=n:=by unfold innerN;have e:(n.kids.flatMap (fun x=>be x 4)++n.keys.flatten).drop (n.kids.length*4)=n.keys.flatten:=(by rw[<- qiu];exact drop_left);rw[u,y,qra fun x R=>⟨by have:=A.1 x R;omega,U x R⟩,e,<- E,qq9 G];rw[<- qpi (n:=n),z,A.2.1]
  have aa:1<=(capsV k v).1:=(by have I:=A.2.2.2.1;have h6:=A.2.2.1;unfold capsV at I⊢;by_cases hc:k<1\/k>24\/v>108;rw[if_pos hc] at I;have h8:n.kids.length<=0:=I;omega;rw[if_neg hc];have h7:k+v<=498:=(by omega);exact (Nat.le_div_iff_mul_le (show 0<k+v by omega)).2 (by rw[Nat.one_mul];exact h7));rw[if_neg (by omega),if_neg (fun h=>by unfold kindN at h;rw[z] at h;exact absurd h.1 (by decide)),if_pos ⟨by unfold kindN;rw[z];rfl,by rw[u];omega,by rw[u,y,zF,qiu,qiv G,E],by rw[C];exact K⟩,C]
theorem IsB.flat{l:List Key}(h:∀a∈l,IsB a):IsB l.flatten:=fun x u=>by obtain⟨a,y,u⟩:=mem_flatten.1 u;exact h a y x u
theorem qm1{n:NodeM}(u:∀a∈n.keys,IsB a)(A:∀a∈n.vals,IsB a):IsB (bodyN n):=by unfold bodyN;split;refine (qbC _ _).append fun x h=>?_;obtain⟨y,C,h⟩:=yJ.1 h;have z:=of_mem_zip (a:=y.1) (b:=y.2) C;rcases zD.1 h with h|h;exact u _ z.1 x h;exact A _ z.2 x h;refine ((qbC _ _).append fun x h=>?_).append (IsB.flat u);obtain⟨y,_,h⟩:=yJ.1 h;exact qbC _ _ x h
end Go.Proofs.YtmmkegapckbomaaGreatDoor
end
section
namespace Go.Proofs.YtmmkegapckbomaaGreatDoor
open Go.ChangeShapes Go.WideShapes Go.ChangeAt Go.RowKit Go.Pt
theorem qwP:ownKnob Tryz.prog.godebug=none:=by kernel_rfl
theorem qtj:laidOutB Tryz.prog=true:=by kernel_rfl
abbrev laidH:List (String×DataW Unit):=[("cashbook/crc.halves",Rows.laid_cashbook_crc_halves)]
theorem qq4:Tryz.prog.globalNamed "cashbook/crc.halves"=some HG:=by kernel_rfl
theorem qvD:(Tryz.prog.globals[HG]?).map (·.type)=some 308:=by kernel_rfl
theorem qvE:Tryz.prog.underlying 308=some (.array 16 37):=by kernel_rfl
theorem quA:Tryz.prog.underlying 37=some (.int .u32):=by kernel_rfl
set_option maxRecDepth 100000 in
theorem qut(h:Os)(args:Array Value):laidMetH Tryz.prog laidH ((World.doorLaid Tryz.prog 4000 h).forCall (fun _ _=>0) ⟨#[],args,[]⟩).memory:=
 laidMetH_of_parts3 (fuel:=8) (laidMet_of_run' 8 (by kernel_rfl) (by kernel_rfl)) (by kernel_rfl) (by kernel_rfl)
theorem qrO{W:World}(h:laidMetH Tryz.prog laidH W):Hv W:=by
 rw[MakeChecks.laidMetH_plain _ _ _ (by kernel_rfl)] at h;obtain⟨ps,⟨g0,t0,cs0,f0,p0,q0,hg0,ht0,hv0,hd0,_,_⟩,_,_⟩:=h;obtain rfl:=yN (qq4.symm.trans hg0);obtain rfl:=yN (qvD.symm.trans ht0);obtain⟨xs,m1,rfl,hx1,hlen,hn3,hel⟩:=DataW.trod_array qvE hd0;simp only[Prod.mk.injEq] at hx1;have hx:=hx1.1;unfold Rows.laid_cashbook_crc_halves at hx;rw[DataW.agg.injEq] at hx;have c31:Tryz.prog.cellsOf 37=1:=(by kernel_rfl);have hcl:Tryz.prog.cellsOf 308=16:=(by kernel_rfl);have hb:∃T fr,W.heap[HG]?=some (.cells cs0 T fr):=by unfold World.var? at hv0;rw[qq4,Option.bind_some] at hv0;split at hv0;rename_i cs T fr hb;cases hv0;exact⟨T,fr,hb⟩;cases hv0
 obtain⟨T,fr,hb⟩:=hb;have key:∀(i:Nat) (n:Int),(xs.map (·.1))[i]?=some (DataW.lit (.int .u32 n))->cs0.toList[i]?=some (.int .u32 n):=by
  intro i n hi;rw[zQ] at hi;obtain⟨y,hy,hyn⟩:=yS.1 hi;have hil:i<xs.length:=(zP.1 hy).1;have h1:=hel i (by omega);rw[c31] at h1;rw[hy] at h1;obtain⟨k,e1,e2,_⟩:=DataW.trod_int quA h1;rw[e2] at hyn;have hk:k=n:=(by simpa using hyn);subst hk
  have:=congrArg (·[0]?) e1
  simpa using this
 refine⟨T,fr,?_⟩;rw[hb];refine congrArg (fun c=>some (Obj.cells c T fr)) ?_;apply Array.ext';apply List.ext_getElem?;intro i;have hsz:cs0.toList.length=16:=hlen.trans hcl;have hx':xs.map (·.1)=halvesL.map (fun n=>DataW.lit (.int .u32 n)):=hx.symm;by_cases hi:i<halvesL.length;have h1:=key i halvesL[i] (by rw[hx',zQ,zA hi];rfl);rw[h1];show _=(halvesL.map (Value.int .u32))[i]?;rw[zQ,zA hi];rfl;have h16:halvesL.length=16:=rfl;rw[yR (by omega)];exact (yR (by rw[zK];omega)).symm
theorem qsv{x:Int}(h:IntKind.u8.has x):0<=x/\x<256:=by have u:(0:Int)<=x/\x<=255:=h;omega
end Go.Proofs.YtmmkegapckbomaaGreatDoor
end
section
namespace Go.Proofs.YtmmkegapckbomaaGreatDoor
open Go Go.Pt Go.Sort List
attribute [local irreducible] ld ldA ldV fld fldA newZ st new idx idxS idxA slc slcS slcP mkS chk nn call callV inv run runQ runU join loop held ext rng undefer s2a nxt ent IntKind.wrap
theorem qeV(l:List Int):l.flatMap encU=l.map (Value.int .u32):=by
 induction l with
 | nil=>rfl
 | cons a l ih=>rw[yG,ih];rfl
theorem qov{w:World}{s:Sl}{l:List Int}{B:List Nat}{K:Unit->WP}(h:BufU w s l B)(hl:l.length<=1000000)(R:∀C w',BufU w' s C B->C.Perm l->C.Pairwise (·<=·)->Fr B w w'->K () w'): cW 113 [s.v] [] w K:=by
 rcases h with ⟨rfl,rfl,rfl⟩|⟨b,o,y,T,rfl,rfl,U,hb,V,h2,h3,E⟩;exact qow (R [] w (.nil _ _ _) (.refl _) .nil (.refl _ _));obtain⟨a,len,cap⟩:=s;simp only at U V h2 h3 E;subst U V;rw[xD,xQ,qeV] at E;rw[xO,xQ] at h3;have G:y=u32s l.toArray++(y.toList.drop l.length).toArray:=by apply Array.ext';rw[Array.toList_append,u32s,Array.toList_map,<- E,xC]
 have z:Arr b ⟨T,some (y.toList.drop l.length).toArray⟩ w w l.toArray:=⟨.refl _ _,by rw[hb];show _=some (Obj.cells (u32s l.toArray++(y.toList.drop l.length).toArray) T (0,0));rw[<- G]⟩;refine qqM (len:=l.length) z ⟨by simp,by omega⟩ fun u w' s1 s2 s3=>?_;have A:u.size=l.length:=(by have:=s1.1;simpa using this);have hp:u.toList.Perm l:=by
  have:=qcv s1
  rw[zS (by rw[Array.length_toList];omega)] at this;simpa using this
 have I:u.toList.length=l.length:=(by rw[<- A];rfl);have ah:y.toList.length=y.size:=rfl;refine R u.toList w' (.inr ⟨b,0,_,T,rfl,rfl,rfl,s3.blk,?_,?_,?_,?_⟩) hp ?_ s3.fr;show l.length=u.toList.length;exact I.symm;exact h2;show 0+cap*1<=(u32s u++(y.toList.drop l.length).toArray).size;have e:(y.toList.drop l.length).toArray.size=y.size-l.length:=(by simp);rw[Array.size_append,qc4,e,A];omega;show ((u32s u++(y.toList.drop l.length).toArray).toList.drop 0).take _=_;rw[xD,xQ,Array.toList_append,u32s,Array.toList_map,take_append_of_le_length (by rw[zK];exact zM _),zS (by rw[zK];exact zM _),qeV];rw[pairwise_iff_getElem];intro i j J O Q;have J:i<u.size:=J;have O:j<u.size:=O
 have:=s2 i j (yW _) Q (by omega)
 rw[getElem!_pos u i J,getElem!_pos u j O] at this;simp[ltInt] at this;simpa using this
theorem qom{w:World}{mb:Nat}{f:List (Int×Value)}{K:Sl->WP}(G:MapS u32V w mb f)(I:f.length<=100000)(J:∀u B h w',BufU w' u h B->h.Perm (f.map (·.1))->h.Pairwise (·<=·)->Fr [] w w'->(∀b∈B,w.heap.size<=b)->K u w'): cW 89 [.map (some mb)] [.one .any] w fun v w'=> cW 88 [v] [.one .slice] w' fun s w'=>K s w':=by refine qpb ?_;unfold qlL;refine Own.new' (Own.start [] w) fun rk w1 e1 y O=>?_;refine qlc ?_;unfold qgP;refine qjH ?_;unfold qfS;refine qnT (G.frame y (by simp)) (O.at (i:=0) rfl) I fun u B h w2 Q A R C=>?_;have hl:h.length=f.length:=(by have:=A.length_eq;simpa using this);refine qov Q (by omega) fun U V b3 p3 s3 f3=>?_;have E:=y.size;exact J u B U V b3 (p3.trans A) s3 ((y.trans R).trans' f3 fun b z=>.inr (zL E (C b z))) fun b z=>zL E (C b z)
section
variable {w:World} {X:List Nat} {pb:Nat} {db:Option Addr} {F:List Nat} {M:PgM}
theorem qii{K:Sl->WP}(h:PagerAt w X pb db F M)(z:M.fresh.length<=100000)(A:∀s B l w',BufU w' s l B->l.Perm (M.fresh.map (·.1))->l.Pairwise (·<=·)->Fr [] w w'->(∀b∈B,w.heap.size<=b)->K s w'): cW 49 [.pointer (pW pb)] [.one .slice] w K:=by obtain⟨fb,defb,mb,sl,sn,E,G,C,rfl,u⟩:=h;refine qho ?_;unfold qd1;refine qae ?_;simp only[Addr.add_mk];refine qah u.cell (some mb) (qbG u.suplen) ?_;have y:C.length<=100000:=(by rw[u.fresh] at z;simpa using z);refine qom u.map (by simpa using y) fun s B l w' b p o f n=>?_;refine A s B l w' b ?_ o f n;rw[u.fresh];simpa[Function.comp_def] using p
end
end Go.Proofs.YtmmkegapckbomaaGreatDoor
end
section
namespace Go.Proofs.YtmmkegapckbomaaGreatDoor
open Go Go.Pt List
open Go.IntKind (wrap)
attribute [local irreducible] ld ldA ldV fld fldA newZ st new idx idxS idxA slc slcS slcP mkS chk nn call callV inv run runQ runU join loop held ext rng undefer s2a nxt ent IntKind.wrap
theorem qa5{A X Y Z:List Value}(h:X.length=Y.length):splice (A++X++Z).toArray A.length Y=(A++Y++Z).toArray:=by apply Array.ext';rw[qas _ _ _ (by rw[size_toArray];simp only[zF];omega)];exact qe9 A X Y Z h
theorem qaB{offs:Array (Nat×Nat)}{u:Array Value}{i o s:Nat}{v:Value}{y:List (Nat×Value)}(h:offs[i]?=some (o,s))(z:v.cells.size=s)(C:o+s<=u.size): Instr.fill (offs[·]?) u ((i,v)::y)=Instr.fill (offs[·]?) (splice u o v.cells.toList) y:=by have A:=qha o v.cells u;simp only[Instr.fill,h];rw[if_neg (by simp[z];omega),A]
theorem qcT{P:Program}{t:TypeId}{z:Value}{parts:List (Nat×Value)}{offs:Array (Nat×Nat)}{cs:Array Value}(u:(P.info? t).bind (·.zero)=some z)(y:P.underlying t=some (.struct (fieldsOf P t)))(h:∀w,((fieldsOf P t).mapM fun f=>do pure (f.offset,<- sizeOf f.type):Sem (Array (Nat×Nat))).run P w=.ok offs w)(A:Instr.fill (offs[·]?) z.cells parts=some cs)(w:World):(Instr.build t parts.toArray).run P w=.ok (.agg cs) w:=by simp only[Instr.build,Sem.run_bind,qaN u,Result.andThen_ok,run_underlying y,h,A,Sem.run_pure]
abbrev WKT:TypeId:=125
def workV (x y:Option Addr) (m:Option Nat) (roots:List Int):List Value:=[.pointer x,.pointer y,.map m]++roots.map (Value.int .u32)
theorem qav{x y:Option Addr}{m:Option Nat}{roots:List Int}(h:roots.length=24):(workV x y m roots).length=27:=by simp[workV,h]
theorem qwR:(Tryz.prog.info? WKT).bind (·.zero)=some (.agg (workV none none none (zs 24)).toArray):=by kernel_rfl
theorem qrD{x y:Option Addr}{m:Option Nat}{roots:List Int}(h:roots.length=24)(w:World): (Instr.build WKT #[(0,.pointer x),(1,.pointer y),(2,.map m),(3,.agg (roots.map (Value.int .u32)).toArray)]).run Tryz.prog w=.ok (.agg (workV x y m roots).toArray) w:=by refine qcT (parts:=[(0,.pointer x),(1,.pointer y),(2,.map m),(3,.agg (roots.map (Value.int .u32)).toArray)]) (offs:=#[(0,1),(1,1),(2,1),(3,24)]) qwR (by kernel_rfl) (fun w=>by kernel_rfl) ?_ w;have u:(Value.agg (roots.map (Value.int .u32)).toArray).cells.size=24:=(by show (roots.map (Value.int .u32)).toArray.size=24;simp[h]);rw[qaB (o:=0) (s:=1) rfl rfl (zO rfl),qaB (o:=1) (s:=1) rfl rfl (zO rfl),qaB (o:=2) (s:=1) rfl rfl (zO rfl),qaB (o:=3) (s:=24) rfl u (zO rfl)];show some _=_;congr 1;exact qa5 (A:=[.pointer x,.pointer y,.map m]) (X:=(zs 24).map (Value.int .u32)) (Z:=[]) (Y:=roots.map (Value.int .u32)) (by simp[h,qaI]) |>.trans (by rw[xF];rfl)
def pgRaw (db:Option Addr) (sup:Sup) (sl sn:Sl) (turn:Int) (over:Bool) (wk:List Value):Array Value:=
 ((Value.pointer db::supV sup.1 sup.2)++([sl.v,sn.v,.i turn,.bool over]:List Value)++wk).toArray
theorem qbt{db:Option Addr}{sup:Sup}{sl sn:Sl}{turn:Int}{over:Bool}{fb defb mb:Nat}{roots:List Int}: pgRaw db sup sl sn turn over (workV (pW fb) (pW defb) (some mb) roots)=pgCells db sup sl sn turn over fb defb mb roots:=by simp[pgRaw,pgCells,pgRest,workV]
section
variable {db:Option Addr} {sup:Sup} {sl sn:Sl} {turn:Int} {over:Bool} {wk:List Value}
theorem qbu(h:sup.2.length=27):(pgRaw db sup sl sn turn over wk).size=33+wk.length:=by rw[pgRaw,size_toArray,zF,zF,qa1 h];rfl
theorem qd5(u:sup.2.length=27)(j:Nat)(h:j<4):(pgRaw db sup sl sn turn over wk)[29+j]?=([sl.v,sn.v,.i turn,.bool over]:List Value)[j]?:=by rw[pgRaw,List.getElem?_toArray,zV,yX (by rw[qa1 u];omega),qa1 u,xY,yY (by exact h)]
theorem qwQ:(pgRaw db sup sl sn turn over wk)[0]?=some (.pointer db):=rfl
theorem qjt(y:sup.2.length=27)(n:Nat)(h:n<27):(pgRaw db sup sl sn turn over wk)[n+2]?=some (.u (sup.2.getD n 0)):=by
 rw[pgRaw,List.getElem?_toArray,zV,yY (by rw[qa1 y];omega),List.getElem?_cons_succ]
 have:=qgR (q:=sup.1) (t:=sup.2) n (by omega)
 rw[List.getElem?_toArray] at this;exact this
theorem qiR(h:sup.2.length=27):((pgRaw db sup sl sn turn over wk).toList.drop 5).take 24=(sup.2.drop 3).map (Value.int .u32):=by have u:((sup.2.drop 3).map (Value.int .u32)).length=24:=(by rw[zK,yB,h]);have e:(pgRaw db sup sl sn turn over wk).toList.drop 5=(sup.2.drop 3).map (Value.int .u32)++([sl.v,sn.v,.i turn,.bool over]++wk):=(by show List.drop 3 ((sup.2.map (Value.int .u32))++[_,_,_,_]++wk)=_;rw[zV,drop_append_of_le_length (by rw[zK,h];decide),xM]);rw[e,take_append_of_le_length (Nat.le_of_eq u.symm),zS (Nat.le_of_eq u)]
theorem quU(y:sup.2.length=27){u:Int}:splice (pgRaw db sup sl sn turn over wk) 31 [.i u]=pgRaw db sup sl sn u over wk:=by
 have h:((Value.pointer db::supV sup.1 sup.2)++([sl.v,sn.v]:List Value)).length=31:=by rw[zF,qa1 y];rfl
 have:=qa5 (A:=(Value.pointer db::supV sup.1 sup.2)++([sl.v,sn.v]:List Value)) (X:=[.i turn]) (Y:=[.i u]) (Z:=.bool over::wk) rfl
 rw[h] at this;simpa[pgRaw] using this
theorem qpx(y:sup.2.length=27){u:List Value}(z:wk.length=u.length):splice (pgRaw db sup sl sn turn over wk) 33 u=pgRaw db sup sl sn turn over u:=by
 have h:((Value.pointer db::supV sup.1 sup.2)++([sl.v,sn.v,.i turn,.bool over]:List Value)).length=33:=by rw[zF,qa1 y];rfl
 have:=qa5 (A:=(Value.pointer db::supV sup.1 sup.2)++([sl.v,sn.v,.i turn,.bool over]:List Value)) (X:=wk) (Y:=u) (Z:=[]) z
 rw[h,xF,xF] at this;exact this
end
def insAll (l:List Int):List Int:=l.foldl (fun a n=>ins n a) []
theorem qq6(n:Int):∀l:List Int,(ins n l).length<=l.length+1
 | []=>by simp[ins]
 | a::l=>by
  have:=qq6 n l
  simp only[ins];split;simp;split;simp;simp only[yH];omega
theorem qql{l:List Int}{i:Nat}(h:i<l.length):insAll (l.take (i+1))=ins l[i] (insAll (l.take i)):=by rw[insAll,yF h,foldl_append];rfl
theorem qlG(l:List Int):(insAll l).length<=l.length:=by
 unfold insAll;have:∀(l a:List Int),(l.foldl (fun a n=>ins n a) a).length<=a.length+l.length:=by
  intro l;induction l with
  | nil=>intro a;simp
  | cons x l ih=>
   intro a;have h:=ih (ins x a);have u:=qq6 x a;rw[foldl_cons,yH];omega
 simpa using this l []
theorem qmw(l:List Int):∀a:List Int,a.Pairwise (· < ·)->(l.foldl (fun a n=>ins n a) a).Pairwise (· < ·):=by
 induction l with
 | nil=>intro a h;exact h
 | cons x l ih=>intro a h;exact ih _ (qde h)
theorem qoP(l:List Int):∀a:List Int,(a++l).Nodup->(l.foldl (fun a n=>ins n a) a).Perm (a++l):=by
 induction l with
 | nil=>intro a h;rw[xF];exact .refl _
 | cons x l ih=>
  intro a h;have y:x∉a:=fun z=>by rw[yL] at h;exact h.2.2 x z x (by simp) rfl
  have A:=qcA y;have u:(ins x a++l).Perm (a++x::l):=(A.append_right l).trans (perm_middle.symm);exact (ih (ins x a) (u.nodup_iff.2 h)).trans u
theorem qbU(l:List Int):(insAll l).Pairwise (· < ·):=qmw l [] .nil
theorem qga{l:List Int}(h:l.Nodup):(insAll l).Perm l:=by
 have:=qoP l [] (by simpa using h)
 simpa[insAll] using this
theorem qvd{l:List Int}(h:l.Pairwise (· < ·)):l.Pairwise (·<=·):=h.imp Int.le_of_lt
theorem qbP{l:List Int}(h:l.Pairwise (· < ·)):l.Nodup:=h.imp (fun h=>Int.ne_of_lt h)
theorem qbE{l l':List Int}(h:l'.Perm l)(u:l'.Pairwise (·<=·))(y:l.Nodup):l'=insAll l:=
 qcl (h.trans (qga y).symm) u (qvd (qbU l))
theorem qiz{l:List Int}(h:l.Pairwise (· < ·)):insAll l=l:=(qbE (.refl _) (qvd h) (qbP h)).symm
theorem qdA{x y:Int}:∀ {l:List Int},y∈ins x l↔y=x\/y∈l
 | []=>by simp[ins]
 | a::l=>by
  have:=qdA (x:=x) (y:=y) (l:=l)
  simp only[ins];split;simp;split;rename_i h;subst h;simp;simp only[zG,this];constructor;rintro (h|h|h);exact .inr (.inl h);exact .inl h;exact .inr (.inr h);rintro (h|h|h);exact .inr (.inl h);exact .inl h;exact .inr (.inr h)
theorem qbQ{y:Int}{l:List Int}:y∈insAll l↔y∈l:=by
 have:∀(l a:List Int),y∈l.foldl (fun a n=>ins n a) a↔y∈a\/y∈l:=by
  intro l;induction l with
  | nil=>intro a;simp
  | cons x l ih=>
   intro a;rw[foldl_cons,ih,qdA,zG];constructor;rintro ((h|h)|h);exact .inr (.inl h);exact .inl h;exact .inr (.inr h);rintro (h|h|h);exact .inl (.inr h);exact .inl (.inl h);exact .inr h
 rw[insAll,this];simp
def andThen (r:DiskM×Int) (f:DiskM->DiskM×Int):DiskM×Int:=if r.2=0 then f r.1 else r
def writesM:List (Int×List Int)->DiskM->DiskM×Int
 | [],D=>(D,0)
 | x::r,D=>andThen (writeM D x.1 x.2) (writesM r)
def spreadM (D:DiskM) (numbers pages:List Int):DiskM×Int:=
 if (bodiesV numbers pages).2≠0 then (D,(bodiesV numbers pages).2)
 else andThen (writesM ((pages.zip (bodiesV numbers pages).1).map fun x=>(x.1,sealV x.1 2 x.2)) D) syncM
def superP (s:Sup):Int×List Int:=(Int.tmod s.1 2,sealV (wrap .u32 (Int.tmod s.1 2)) 1 (superB s.1 s.2))
def sealM (D:DiskM) (s:Sup):DiskM×Int:=andThen (writeM D (superP s).1 (superP s).2) syncM
def allV (n:Nat):List Int:=(List.range (n-2)).map fun (i:Nat)=>(i:Int)+2
def fmtSup (n:Nat):Sup:=(1,[wrap .u32 n,2,wrap .u32 ((allV n).length-needP (allV n).length:Int)]++zs 24)
def formatM (D:DiskM):DiskM×Int:=
 andThen (writeM D 0 (zs 512)) fun D=>andThen (writeM D 1 (zs 512)) fun D=>andThen (syncM D) fun D=>
 andThen (spreadM D ((allV D.safe.length).drop (needP (allV D.safe.length).length)) ((allV D.safe.length).take (needP (allV D.safe.length).length))) fun D=>sealM D (fmtSup D.safe.length)
def walkM (D:DiskM) (blocks:Int):Nat->Int->List Int->List Int->Option (List Int×List Int)
 | 0,_,_,_=>none
 | f+1,a,h,named=>
  if a=0 then some (h,named) else
  if a<2\/a>=blocks\/a∈h then none else
  if (readV D a).2≠0 then none else
  if (openV a (readV D a).1).2.2≠0\/(openV a (readV D a).1).1≠2 then none else
  if (parseV (openV a (readV D a).1).2.1).2.2≠0 then none else
  walkM D blocks f (parseV (openV a (readV D a).1).2.1).1 (h++[a]) (named++(parseV (openV a (readV D a).1).2.1).2.1)
def namedB (blocks:Int) (lists:List Int):Int->List Int->Bool
 | _,[]=>true
 | h,n::r=>!(decide (n<=h)||decide (n>=blocks)||decide (n∈lists))&&namedB blocks lists n r
def loadM (D:DiskM) (s:Sup):Option (List Int×List Int):=
 match walkM D (s.2.getD 0 0) ((s.2.getD 0 0).toNat+1) (s.2.getD 1 0) [] [] with
 | none=>none
 | some x=>if namedB (s.2.getD 0 0) x.1 0 x.2=true/\(x.2.length:Int)=s.2.getD 2 0 then some x else none
def begunM (sup:Sup) (lists named:List Int) (turn:Int) (over:Bool) (h:List Int):PgM:=⟨sup,lists,named,turn,over,h,[],[],sup.2.drop 3⟩
def openM (D:DiskM):Option PgM×Int:=
 if (readV D 0).2≠0 then (none,(readV D 0).2) else
 if (readV D 1).2≠0 then (none,(readV D 1).2) else
 if (newestV (readV D 0).1 (readV D 1).1).2≠0 then (none,(newestV (readV D 0).1 (readV D 1).1).2) else
 if (newestV (readV D 0).1 (readV D 1).1).1.2.getD 0 0≠D.safe.length then (none,2) else
 match loadM D (newestV (readV D 0).1 (readV D 1).1).1 with
 | none=>(none,2)
 | some x=>(some (begunM (newestV (readV D 0).1 (readV D 1).1).1 x.1 x.2 1 false x.2),0)
def planM (M:PgM):Option (List Int×List Int):=
 if needP (M.free.length+(M.deferred++M.lists).length)>M.free.length then none
 else some (M.free.take (needP (M.free.length+(M.deferred++M.lists).length)),insAll ((M.deferred++M.lists)++M.free.drop (needP (M.free.length+(M.deferred++M.lists).length))))
def leafOf (fresh:List (Int×Int×List Int)) (n:Int):Int×List Int:=match look n fresh with|some q=>q.2|none=>(0,[])
def freshW (fresh:List (Int×Int×List Int)):List (Int×List Int):=(insAll (fresh.map (·.1))).map fun n=>(n,sealV n (leafOf fresh n).1 (leafOf fresh n).2)
def flushM (D:DiskM) (fresh:List (Int×Int×List Int)) (pages named:List Int) (next:Sup):DiskM×Int:=
 andThen (writesM (freshW fresh) D) fun D=>andThen (spreadM D named pages) fun D=>sealM D next
def nextS (M:PgM) (pages named:List Int):Sup:=(wrap .u64 (M.sup.1+1),[M.sup.2.getD 0 0,pages.headD 0,wrap .u32 named.length]++M.roots)
def overM:PgM:=begunM supZero [] [] 1 true []
def commitM (D:DiskM) (M:PgM):(DiskM×PgM)×Int:=
 if M.over then ((D,M),7) else
 if M.fresh=[]/\M.deferred=[]/\M.roots=M.sup.2.drop 3 then ((D,M),0) else
 match planM M with
 | none=>((D,M),6)
 | some x=>
  if (flushM D M.fresh x.1 x.2 (nextS M x.1 x.2)).2≠0 then (((flushM D M.fresh x.1 x.2 (nextS M x.1 x.2)).1,overM),(flushM D M.fresh x.1 x.2 (nextS M x.1 x.2)).2)
  else (((flushM D M.fresh x.1 x.2 (nextS M x.1 x.2)).1,begunM (nextS M x.1 x.2) x.1 x.2 (M.turn+1) false x.2),0)
def beginTail (pb:Nat) (x y:Option Addr) (mb:Nat) (vs:List Value) (K:Unit->WP) (w:World):Prop:=
 runQ [Ty1.raw] (fun (w':Go.World)=>(Instr.build WKT (#[(0,Value.pointer x),(1,Value.pointer y),(2,Value.map (some mb)),(3,Value.agg (List.toArray vs))])).run Tryz.prog w') w<|
 fun (u:List Value)=>
 nn (pW pb)<|
 fun (A:Addr)=>
 chk (List.length u=27)<|
 st ({ block:=A.block,off:=A.off+33 }) u w<|
 fun (C:World)=>
 nn (pW pb)<|
 fun (E:Addr)=>
 ld Cell.slice ({ block:=E.block,off:=E.off+30 }) C<|
 fun (G:Sl)=>
 loop (Int) (fun (J:Int->WP) (z:Int) (h:World)=>
  cond (decide (z<(↑G.len:Int)))
   (idx G z 1<|
   fun (O:Addr)=>
   ld (Cell.int IntKind.u32) O h<|
   fun (Q:Int)=>
   nn (pW pb)<|
   fun (I:Addr)=>
   ld Cell.ptr ({ block:=I.block,off:=I.off+33 }) h<|
   fun (R:Option Addr)=>
   cW 116 ([Value.pointer R,Value.int IntKind.u32 Q]) ([Ty1.one Cell.bool]) h<|
   fun (V:Bool) (U:World)=>
   J (wrap IntKind.i64 (z+1)) U)
   (K () h)) 0 C
theorem qry{w w3:World}{X:List Nat}{pb fb defb mb:Nat}{db:Option Addr}{sup:Sup}{sl sn:Sl}{turn:Int}{over:Bool}{wk:List Value}{lists named:List Int}{F1 F2:List Nat}{K:Unit->WP}(O:sup.2.length=27)(hw:wk.length=27)(V:∀b∈X,b<w.heap.size/\b≠pb)(C:Rd (X++[pb]) w sl lists)(z:Rd (X++[pb]) w sn named)(hn:named.length<=100000)(ho:Own [pb] w w3 [(pb,.cells (pgRaw db sup sl sn turn over wk) PGT (0,0))])(h1:PoolAt w3 fb F1 [])(h2:PoolAt w3 defb F2 [])(h3:MapS u32V w3 mb [])(n1:∀b∈F1,w.heap.size<=b)(n2:∀b∈F2,w.heap.size<=b)(n3:w.heap.size<=mb)(ay:pb<w.heap.size)(aa:mb∉F1)(ab:mb∉F2)(ac:∀b∈F1,b∉F2)(hk:∀F' w',PagerAt w' X pb db F' (begunM sup lists named turn over (insAll named))->Fr [pb] w w'->(∀b∈F',b=pb\/w.heap.size<=b)->K () w'): beginTail pb (pW fb) (pW defb) mb ((sup.2.drop 3).map (Value.int .u32)) K w3:=by
 have y:(sup.2.drop 3).length=24:=(by rw[yB,O]);unfold beginTail;refine qaM (ts:=[Ty1.raw]) (workV (pW fb) (pW defb) (some mb) (sup.2.drop 3)) (qrD y w3) ?_;refine qae ?_;refine qaT (qav y) ?_;have Q:(workV (pW fb) (pW defb) (some mb) (sup.2.drop 3)).all Value.oneCell'=true:=by rw[all_eq_true];intro v hv;simp only[workV,zD,zG,mem_map,xV,or_false] at hv;rcases hv with (rfl|rfl|rfl)|⟨x,_,rfl⟩<;>rfl
 refine Own.st' ho 0 rfl (pgCells db sup sl sn turn over fb defb mb (sup.2.drop 3)) (by rw[<- qbt];exact qpx O (by rw[hw,qav y])) Q (by rw[qbu O,qav y,hw];exact zO rfl) fun w4 E f4=>?_;have I:∀b∈F1,b≠pb:=fun b u e=>by have:=n1 b u;omega
 have J:∀b∈F2,b≠pb:=fun b u e=>by have:=n2 b u;omega
 have hS:∀b∈pb::mb::(F1++F2),b∈[pb]\/w.heap.size<=b:=fun b u=>by simp only[zG,zD] at u;rcases u with rfl|rfl|u|u;exact .inl (by simp);exact .inr n3;exact .inr (n1 b u);exact .inr (n2 b u)
 have hx:PgX w4 X pb db (begunM sup lists named turn over []) fb defb mb sl sn F1 F2 []:={
  cell:=E.at (i:=0) rfl
  free:=h1.frame f4 fun b u=>by simpa using I b u
  deferred:=h2.frame f4 fun b u=>by simpa using J b u
  map:=h3.frame f4 (by simp;omega)
  fresh:=rfl
  rows:=by have hf:Fr (X++[pb]) w w4:=E.fr.mono fun b u _=>zI _ u;exact⟨C.frame hf (qmC hS),z.frame hf (qmC hS),fun e he=>by cases he⟩
  xlt:=fun b u=>yC (V b u).1 E.fr.size
  xsep:=quZ (fun b u=>(V b u).1) (fun b u=>by simpa using (V b u).2) hS
  sep:=⟨by omega,fun b u=>⟨I b u,fun e=>aa (e▸u),ac b u⟩,fun b u=>⟨J b u,fun e=>ab (e▸u)⟩⟩
  suplen:=O
  rootlen:=y }
 refine qae (qah hx.cell sn (quP O) ?_);have aB:=z.1;refine qaj (fun x w'=>∃(i:Nat) (G:List Nat),x=i/\i<=named.length/\PgX w' X pb db (begunM sup lists named turn over (insAll (named.take i))) fb defb mb sl sn G F2 []/\Fr [pb] w w'/\∀b∈G,w.heap.size<=b) (fun x _=>((named.length:Int)-x).toNat)
  ⟨0,F1,rfl,by omega,hx,E.fr,n1⟩ ?_
 rintro x w5 ⟨i,G,rfl,hi,A,f5,n5⟩ Z hZ;refine qaa (fun hc=>?_) (fun hc=>?_);have R:i<named.length:=(by have:=zC hc;omega);refine Rd.at A.rows.named i rfl (zA R) ?_;refine qae (qah A.cell (pW fb) (qdB O) ?_);have ai:=qlG (named.take i);rw[yK] at ai;refine qlj A.free (by show (insAll (named.take i)).length<=_;omega) fun U w6 aj f6 n6=>?_;have ak:=A.setFree f6 aj n6;rw[wi' _ (by omega)];refine hZ _ _ ⟨i+1,U,by simp,by omega,?_,f5.trans' f6 (fun b u=>.inr (n5 b u)),fun b u=>?_⟩ (by omega);rw[qql R];exact ak;rcases n6 b u with h|h;exact n5 b h;exact zL f5.size h;have:i=named.length:=(by have:=zB hc;omega);subst this;rw[xX] at A;refine hk _ w5 ⟨fb,defb,mb,sl,sn,G,F2,[],rfl,A⟩ f5 fun b u=>?_;simp only[zG,zD] at u;rcases u with rfl|rfl|u|u;exact .inl rfl;exact .inr n3;exact .inr (n5 b u);exact .inr (n2 b u)
theorem qft{w:World}{X:List Nat}{pb:Nat}{db:Option Addr}{sup:Sup}{sl sn:Sl}{turn:Int}{over:Bool}{wk:List Value}{lists named:List Int}{K:Unit->WP}(hc:w.heap[pb]?=some (.cells (pgRaw db sup sl sn turn over wk) PGT (0,0)))(hs:sup.2.length=27)(hw:wk.length=27)(ht:0<=turn/\turn<=1000000000)(hX:∀b∈X,b<w.heap.size/\b≠pb)(hlists:Rd (X++[pb]) w sl lists)(hnamed:Rd (X++[pb]) w sn named)(hn:named.length<=100000)(hk:∀F' w',PagerAt w' X pb db F' (begunM sup lists named (turn+1) over (insAll named))->Fr [pb] w w'->(∀b∈F',b=pb\/w.heap.size<=b)->K () w'): cW 81 [.pointer (pW pb)] [] w K:=by
 have hpb:=qac hc;have ho:Own [pb] w w [(pb,.cells (pgRaw db sup sl sn turn over wk) PGT (0,0))]:=⟨by simpa using hc,by simp,.refl _ _,by simp⟩;refine qhp (p:=pW pb) ?_;unfold qd2;refine qae (Own.ld (c:=.i) ho 0 rfl turn (qd5 hs 2 (by decide)) ?_);rw[wi' _ (by omega)];refine qae (Own.st' ho 0 rfl (pgRaw db sup sl sn (turn+1) over wk) (quU hs) rfl (by rw[qbu hs,hw];exact zO rfl) fun w1 ho f1=>?_);have hrl:((sup.2.drop 3).map (Value.int .u32)).length=24:=(by rw[zK,yB,hs]);have hcA:∀ {w':World},w'.heap[pb]?=some (.cells (pgRaw db sup sl sn (turn+1) over wk) PGT (0,0))->cellsAt w' ⟨pb,5,none⟩ 0 ((sup.2.drop 3).map (Value.int .u32)):=fun h=>qbd h _ 5 0 (by rw[hrl];exact qiR hs);have tail:=fun {w3:World} {fb defb mb:Nat} {F1 F2:List Nat}=>qry (w:=w) (w3:=w3) (X:=X) (pb:=pb) (fb:=fb) (defb:=defb) (mb:=mb) (F1:=F1) (F2:=F2) hs hw hX hlists hnamed hn (K:=K) (turn:=turn+1) (over:=over) (wk:=wk) (db:=db);have hs1:=f1.size;have ho':=ho.drew;generalize w1.drew=wd at ho';have hld:∀ {K':List Value->Prop},K' ((sup.2.drop 3).map (Value.int .u32))->ldV 24 ⟨pb,5,none⟩ wd K':=fun k=>qaZ (ho'.at (i:=0) rfl) _ hrl (qiR hs) k;have hsd:w.heap.size<=wd.heap.size:=ho'.fr.size;have fin:∀ {w3:World} {fb defb mb:Nat} {F1 F2:List Nat},Fr [] wd w3->PoolAt w3 fb F1 []->PoolAt w3 defb F2 []->MapS u32V w3 mb []->(∀b∈F1,wd.heap.size<=b)->(∀b∈F2,wd.heap.size<=b)->wd.heap.size<=mb->mb∉F1->mb∉F2->(∀b∈F1,b∉F2)->
   beginTail pb (pW fb) (pW defb) mb ((sup.2.drop 3).map (Value.int .u32)) K w3:=fun f p1 p2 p3 n1 n2 n3 s1 s2 s3=>
  tail (ho'.frame0 f) p1 p2 p3 (fun b hb=>zL hsd (n1 b hb)) (fun b hb=>zL hsd (n2 b hb)) (zL hsd n3) hpb s1 s2 s3 hk
 refine⟨?_,?_,?_⟩;refine qae ?_;simp only[Addr.add_mk];refine hld ?_;refine qeP fun fb F1 w2 p1 f2 n1=>?_;refine qai (hcA ((ho'.frame0 f2).at (i:=0) rfl)) ?_;refine qeP fun defb F2 w3 p2 f3 n2=>?_;refine qai (hcA ((ho'.frame0 (f2.trans f3)).at (i:=0) rfl)) ?_;refine Own.new' (ho'.frame0 (f2.trans f3)) fun mb w4 e4 f4 ho4=>?_;refine qai (hcA (ho4.at (i:=1) rfl)) ?_;refine fin ((f2.trans f3).trans f4) (p1.frame (f3.trans f4) (by simp)) (p2.frame f4 (by simp)) (.empty (ho4.at (i:=0) rfl)) n1 (fun b hb=>zL f2.size (n2 b hb)) (by rw[e4];exact (f2.trans f3).size) (fun hm=>?_) (fun hm=>?_) (fun b hb hb2=>?_)
 have:=(p1.frame f3 (by simp)).lt mb hm;omega
 have:=p2.lt mb hm;omega
 have:=p1.lt b hb;have:=n2 b hb2;omega
 refine qae ?_;simp only[Addr.add_mk];refine hld ?_;refine qeP fun fb F1 w2 p1 f2 n1=>?_;refine qai (hcA ((ho'.frame0 f2).at (i:=0) rfl)) ?_;refine Own.new' (ho'.frame0 f2) fun mb w3 e3 f3 ho3=>?_;refine qai (hcA (ho3.at (i:=1) rfl)) ?_;refine qeP fun defb F2 w4 p2 f4 n2=>?_;have ho4:=ho3.frame0 f4;refine qai (hcA (ho4.at (i:=1) rfl)) ?_;have hmb:=qac (ho3.at (i:=0) rfl);refine fin ((f2.trans f3).trans f4) (p1.frame (f3.trans f4) (by simp)) p2 (.empty (ho4.at (i:=0) rfl)) n1 (fun b hb=>zL (f2.trans f3).size (n2 b hb)) (by rw[e3];exact f2.size) (fun hm=>?_) (fun hm=>?_) (fun b hb hb2=>?_)
 have:=p1.lt mb hm;omega
 have:=n2 mb hm;omega
 have:=(p1.frame f3 (by simp)).lt b hb;have:=n2 b hb2;omega
 refine qae ?_;simp only[Addr.add_mk];refine hld ?_;refine Own.new' ho' fun mb w2 e2 f2 ho2=>?_;refine qai (hcA (ho2.at (i:=1) rfl)) ?_;have hmb:=qac (ho2.at (i:=0) rfl);refine qeP fun fb F1 w3 p1 f3 n1=>?_;have ho3:=ho2.frame0 f3;refine qai (hcA (ho3.at (i:=1) rfl)) ?_;refine qeP fun defb F2 w4 p2 f4 n2=>?_;have ho4:=ho3.frame0 f4;refine qai (hcA (ho4.at (i:=1) rfl)) ?_;refine fin ((f2.trans f3).trans f4) (p1.frame f4 (by simp)) p2 (.empty (ho4.at (i:=0) rfl)) (fun b hb=>zL f2.size (n1 b hb)) (fun b hb=>zL (f2.trans f3).size (n2 b hb)) (by rw[e2];exact zM _) (fun hm=>?_) (fun hm=>?_) (fun b hb hb2=>?_)
 have:=n1 mb hm;omega
 have:=n2 mb hm;have:=f3.size;omega
 have:=p1.lt b hb;have:=n2 b hb2;omega
end Go.Proofs.YtmmkegapckbomaaGreatDoor
end
