/- Conditions: those that stand in each line. -/
import Derived.Test.YtpcmehldpoljfaaGreatDoorCSMQ6
import Derived.Test.YtpcmehldpoljfaaGreatDoorCSMQ3
import Derived.Test.YtpcmehldpoljfaaGreatDoorCSMQ1
import Derived.Test.YtpcmehldpoljfaaGreatDoorCSMQ2
set_option linter.unusedVariables false
set_option linter.unusedSimpArgs false
set_option linter.defProp false
namespace Go.Proofs.YtpcmehldpoljfaaGreatDoor
section
open Go Go.Pt List
open Go.IntKind (wrap)
open Classical
attribute [local irreducible] ld dK iF mK iY fq st new idx i3 ji fy jk iL lN gU nn call dU inv run eX iD join loop held ext jQ eu mr ma mv IntKind.wrap
variable {K:oU×Bool->WP} {S:List Nat} {d:HL jd} {n:Nat} {w:World}
section
variable {α:Type} {enc:α->List Value} {k:Nat} {w:World} {s:Sl} {l:List α} {B S:List Nat}
def Fw{i:Int}{x:α}{K:WP}(h:eP enc k w s l B)(E:∀x,(enc x).length=k)(J:∀x,∀u∈enc x,u.oneCell'=true)(hi:i=n)(V:n<l.length)(kk:∀w',eP enc k w' s (l.set n x) B->Fr B w w'->K w'):idx s i k fun a=>Pt.st a (enc x) w K:=by
 subst hi;have hf:=qs E;rcases h with ⟨_,rfl,_⟩|⟨b,o,I,T,rfl,rfl,ha,hb,h5,h6,h7,h8⟩;cases V;refine qv ha ⟨oJ,oJ⟩ ?_;rw[zJ,xS];rw[xF] at h8;have h9:l.length*k<=s.cap*k:=Nat.mul_le_mul_right k oJ;have al:l.length*k<=I.size:=oJ;have G:l=l.take n++l[n]::l.drop (n+1):=(by rw[<- zY V,xE]);have aa:I=((l.take n).flatMap enc++enc l[n]++((l.drop (n+1)).flatMap enc++I.toList.drop (l.length*k))).toArray:=by
  apply Array.ext';have:l.flatMap enc=(l.take n).flatMap enc++enc l[n]++(l.drop (n+1)).flatMap enc:=by
   conv=>lhs;rw[G]
   rw[yQ,yH,zV]
  rw[<- zV,<- this,<- h8,xE]
 have hA:((l.take n).flatMap enc).length=n*k:=(by rw[hf,yL,xR oJ]);have R:dS I (n*k) (enc x)=((l.take n).flatMap enc++enc x++((l.drop (n+1)).flatMap enc++I.toList.drop (l.length*k))).toArray:=by
  have:=tQ (A:=(l.take n).flatMap enc) (X:=enc l[n]) (Y:=enc x) (Z:=(l.drop (n+1)).flatMap enc++I.toList.drop (l.length*k)) (by rw[E,E])
  rw[hA,<- aa] at this;exact this
 have ab:(n+1)*k<=l.length*k:=Nat.mul_le_mul_right k V;rw[Nat.succ_mul] at ab;refine rm hb _ R (all_eq_true.2 (J x)) (by rw[E];omega) fun w' ac f=>kk w' (.inr ⟨b,0,_,T,rfl,rfl,ha,ac,by rw[xG];exact h5,h6,?_,?_⟩) f
 have:=congrArg Array.size R
 rw[nf] at this;rw[<- this];exact h7;rw[xF,xG];have e:(l.set n x).flatMap enc=(l.take n).flatMap enc++enc x++(l.drop (n+1)).flatMap enc:=by rw[set_eq_take_append_cons_drop,if_pos V,yQ,yH,zV]
 have U:((l.set n x).flatMap enc).length=l.length*k:=(by rw[hf,xG]);show List.take (l.length*k) (_++_++(_++_))=_;rw[<- zV,<- e,<- U];exact take_left' rfl
def Ar{t ty e:TypeId}{i:TypeInfo}{z:Value}{r:Nat}{T:TypeId}{K:Sl->WP}(R:w.heap[r]?=some (.cells #[] T (0,0)))(I:ed enc k S w s l)(E:∀x,(enc x).length=k)(G:∀x,∀u∈enc x,u.oneCell'=true)(ht:Tryz.prog.underlying t=some (.slice e))(hi:Tryz.prog.info? e=some i)(hz:i.zero=some z)(U:i.size=k)(V:z.cells.size=k)(aa:i.bytes<=1000)(hl:l.length<=1000000)(kk:∀J B w',eP enc k w' J l B->Fr [r] w w'->(∀b∈B,b=r\/w.heap.size<=b)->K J w'): Pt.run di ((Builtin.append_ #[t,t] ty #[.slice (pW r) 0 0,s.v]).run Tryz.prog w) K:=by
 refine eP.j1 (s:=⟨pW r,0,0⟩) (l:=[]) (ys:=l) (B:=[r]) (eP.none R) E ht hi hz U V (uk (e':=e) I E G ht) I.1 ?_ (by simp;have:=I.1;omega) fun J B' w' b' f' n' _=>kk J B' w' (oP b') f' fun b R=>(n' b R).imp (fun h=>zE.1 h) id
 have:=I.1
 rw[xK,xS,this];calc l.length*i.bytes<=1000000*1000:=Nat.mul_le_mul hl aa
  _<=_:=by decide
end
def BB(x:HL kL):(qK x).length=15:=rfl
def GY(x:HL kL):∀u∈qK x,u.oneCell'=true:=all_eq_true.1 rfl
def qzS:∃i,Tryz.prog.info? 74=some i/\i.zero=some (.agg (HL.mk kL A9).toArray)/\i.size=15/\i.bytes=104:=th oK
section
variable {S:List Nat} {w w':World} {r:oU} {b:Bk}
def wP{α:Type}{enc:α->List Value}{k:Nat}{w w0:World}{s:Sl}{l:List α}{B S:List Nat}(h:eP enc k w s l B)(u:∀x,(enc x).length=k)(E:∀x∈S,x<w0.heap.size)(G:∀x∈B,w0.heap.size<=x):ed enc k S w s l:=h.jw u fun b I J=>by have:=E b J;have:=G b I;omega
def A6{α κ:Type}[DecidableEq κ]{kf:α->κ}{a x:α}{l:List α}(E:l[n]?=some x)(u:(l.take n).find? (fun y=>decide (kf y=kf a))=none)(h:kf x=kf a):iK kf a l=l.set n a:=by obtain⟨G,rfl⟩:=zP.1 E;refine qrZ G h fun j I e=>?_;rw[List.find?_eq_none] at u;refine u (l[j]' oJ) ?_ (oP e);exact mem_take_iff_getElem.2 ⟨j,oJ,rfl⟩
def AC{α κ:Type}[DecidableEq κ]{kf:α->κ}{a:α}{l:List α}(h:l.find? (fun y=>decide (kf y=kf a))=none):iK kf a l=l++[a]:=D3 fun x u e=>by rw[List.find?_eq_none] at h;exact h x u (oP e)
def quk{a:HL kL}{K:oU->WP}(h:RB S w r b)(hl:b.size<=100000)(hS:∀x∈S,x<w.heap.size)(kk:∀r' w',RB S w' r' (b.mi a)->Fr [] w w'->K r' w'): cW 64 [.agg (HL.mk gp r).toArray,.agg (HL.mk kL a).toArray] [.agg gp] w K:=by
 refine qc5 ?_;have aE:b.acc.length<=100000:=(by unfold Bk.size at hl;omega);obtain⟨i,hi,hz,ab,ac⟩:=qzS;refine oB (oE [] w) fun r1 w1 _ f1 o=>oB o fun r3 w2 _ f2 o=>oB o fun r5 R _ f3 o=>oB (oE [] R) fun r7 w4 e4 f4 o2=>?_;have o4:=o.q7 f4;refine oA o4 2 rfl r.1 rfl (Ar (e:=74) (o2.at (i:=0) rfl) (h.q7 o4.fr).acc BB GY oK hi hz ab rfl (by rw[ac];decide) oJ fun s5 B5 w5 b5 f5 n5=>?_);have G:∀x∈B5,R.heap.size<=x:=fun x u=>(n5 x u).elim (fun e=>oJ) fun h=>zL f4.size h;have U:Fr [] R w5:=f4.j8 f5 fun x u=>.inr (by rw[zE.1 u];omega);have ad:∀(s:Sl) (l:List (HL kL)) (B:List Nat) w6,eP qK 15 w6 s l B->(∀x∈B,R.heap.size<=x)->Fr [] R w6->l=iK m7 a b.acc->Pt.st (dh r1) [s.v] w6 fun w7=>dK gp (dh r1) w7 fun t=>Pt.st (dh r5) (HL.mk gp t) w7 fun w8=>dK gp (dh r5) w8 fun t=>K t w8:=fun s l B w6 hb hB I e=>by
  refine (o.q7 I).st' 2 rfl (HL.mk gp (s,r.2)).toArray rfl rfl (zO rfl) fun w7 o7 f7=>oC o7 2 rfl (s,r.2) rfl (o7.st' 0 rfl _ (lZ rfl) rfl (zM _) fun w8 o8 f8=>oC o8 0 rfl (s,r.2) rfl ?_);have J:=h.q7 o8.fr;have l1:r1<R.heap.size:=eV (o.at (i:=2) rfl);have l5:r5<R.heap.size:=eV (o.at (i:=0) rfl);have ao:=(hb.q8 f7 fun x u h=>by have:=hB x u;have:=zE.1 h;omega).q8 f8 fun x u h=>by have:=hB x u;have:=zE.1 h;omega
  have ap:ed qK 15 S w8 s (iK m7 a b.acc):=(by rw[<- e];exact wP ao BB hS fun x u=>zL o.fr.size (hB x u));exact kk (s,r.2) w8 ⟨ap,J.lG,J.k8,J.due,J.mJ,J.mO,J.jT,J.told,J.gone⟩ o8.fr
 have aL:s5.len=b.acc.length:=b5.len;refine je (fun q w'=>∃n:Nat,q=n/\n<=b.acc.length/\Fr [] w5 w'/\((b.acc.take n).find? fun x=>decide (m7 x=m7 a))=none) (fun q _=>b.acc.length-q.toNat) ⟨0,rfl,yX _,.refl _ _,rfl⟩ ?_;rintro q w6 ⟨n,rfl,hn,I,hf⟩ X hX;apply cD<;>intro hc;have E:n<b.acc.length:=oJ;have u:=zA E;have b6:=(b5.q7 I).q7 (Fr.refl [] w6).drew;have o6:=o.q7 ((U.trans I).drew);refine ed.k6 (cl:=u2) (S:=[]) (b6.jw BB fun _ _ h=>nomatch h) n rfl u oM rfl (oC o6 1 rfl (m7 a) rfl (AE (a:=m7 b.acc[n]) ?_));have st:=Bs (p:=fun x=>decide (m7 x=m7 a)) u hf;apply dV<;>intro hb;refine oC o6 1 rfl a rfl (Fw b6 BB GY rfl E fun w7 b7 f7=>ad _ _ _ _ b7 G ((U.trans I).drew.j8 f7 fun x u=>.inr (G x u)) (A6 u hf (zC hb)).symm);rw[gq _ oJ];exact hX _ _ ⟨n+1,rfl,E,I.drew,st.2 hb⟩ oJ;have E:n=b.acc.length:=oJ;subst E;rw[xZ] at hf;have V:=U.trans I;refine oC (o.q7 V) 1 rfl a rfl (eP.push (e:=74) (x:=a) (b5.q7 I) BB (GY a) oK hi hz ab rfl rfl (by rw[ac];omega) oJ fun s7 B7 w7 b7 f7 n7=>ad _ _ _ _ b7 (fun x u=>(n7 x u).elim (G x) (zL V.size)) (V.j8 f7 fun x u=>.inr (G x u)) (AC hf).symm)
end
section
abbrev wj:TypeId:=49
abbrev mvs:List Cell:=[.int .u64,.int .u64,.int .u64,.int .u64,.int .u64]
def sH(x:Mv):(jP x).length=5:=rfl
def yi(x:Mv):∀u∈jP x,u.oneCell'=true:=all_eq_true.1 rfl
def qwi:∃i,Tryz.prog.info? wj=some i/\i.zero=some (.agg #[.int .u64 0,.int .u64 0,.int .u64 0,.int .u64 0,.int .u64 0])/\i.size=5/\i.bytes=40:=th oK
section
variable {S:List Nat} {w w':World} {s:Sl} {l:List Mv}
def qqS{m:Mv}{K:Sl->WP}(h:ed jP 5 S w s l)(hl:l.length<=100000)(hS:∀x∈S,x<w.heap.size)(kk:∀s' w',ed jP 5 S w' s' (iK ot m l)->Fr [] w w'->K s' w'): cW 109 [s.v,.agg #[.int .u64 m.1.1,.int .u64 m.1.2,.int .u64 m.2.1,.int .u64 m.2.2.1,.int .u64 m.2.2.2]] di w K:=by
 refine qhr ?_;obtain⟨i,hi,hz,aa,ab⟩:=qwi;refine oB (oE [] w) fun r1 w3 _ f3 o=>oB (oE [] w3) fun r7 w4 e4 f4 o2=>?_;have o4:=o.q7 f4;refine Ar (e:=wj) (o2.at (i:=0) rfl) (h.q7 o4.fr) sH yi oK hi hz aa rfl (by rw[ab];decide) oJ fun s5 B5 w5 b5 f5 n5=>?_;have I:∀x∈B5,w3.heap.size<=x:=fun x u=>(n5 x u).elim (fun e=>oJ) fun h=>zL f4.size h;have U:Fr [] w3 w5:=f4.j8 f5 fun x u=>.inr (by rw[zE.1 u];omega);have ad:∀(s:Sl) (l':List Mv) (B:List Nat) J,eP jP 5 J s l' B->(∀x∈B,w3.heap.size<=x)->Fr [] w3 J->l'=iK ot m l->K s J:=fun s l' B J E hB R e=>by refine kk s J ?_ (f3.trans R);rw[<- e];exact wP E sH hS fun x u=>zL f3.size (hB x u)
 have aF:s5.len=l.length:=b5.len;refine je (fun q w'=>∃n:Nat,q=n/\n<=l.length/\Fr [] w5 w'/\((l.take n).find? fun x=>decide (ot x=ot m))=none) (fun q _=>l.length-q.toNat) ⟨0,rfl,yX _,.refl _ _,rfl⟩ ?_;rintro q J ⟨n,rfl,hn,R,hf⟩ X hX;apply cD<;>intro hc;have G:n<l.length:=oJ;have u:=zA G;have b6:=(b5.q7 R).q7 (Fr.refl [] J).drew;have o6:=o.q7 ((U.trans R).drew);have r6:ed jP 5 [] J.drew s5 l:=b6.jw sH fun _ _ h=>nomatch h;refine sS (decide (ot l[n]=ot m)) J.drew (fun M hM=>?_) ?_;refine ed.k6 (cl:=u2) r6 n rfl u oM rfl (oC o6 0 rfl m.1 rfl (AE (a:=l[n].1) ?_));apply dV<;>intro E;have E:=zC E;refine ed.uD (c:=.int .u64) r6 n 2 rfl u oM (y:=l[n].2.1) rfl (oA o6 0 rfl m.2.1 rfl ?_);rw[show (l[n].2.1==m.2.1)=decide (ot l[n]=ot m) by unfold ot;rw[E];by_cases e:l[n].2.1=m.2.1;simp[e];simp[e]];exact hM;have E:=zB E;rw[show decide (ot l[n]=ot m)=false from zU fun e=>E (vB e).1] at hM;exact hM;have st:=Bs (p:=fun x=>decide (ot x=ot m)) u hf;apply dV<;>intro E;refine oC o6 0 rfl (m.1.1,m.1.2,m.2.1,m.2.2.1,m.2.2.2) rfl (Fw b6 sH yi (x:=m) rfl G fun w7 b7 f7=>ad _ _ _ _ b7 I ((U.trans R).drew.j8 f7 fun x u=>.inr (I x u)) (A6 u hf (zC E)).symm);rw[gq _ oJ];exact hX _ _ ⟨n+1,rfl,G,R.drew,st.2 E⟩ oJ;have G:n=l.length:=oJ;subst G;rw[xZ] at hf;have V:=U.trans R;refine oC (o.q7 V) 0 rfl (m.1.1,m.1.2,m.2.1,m.2.2.1,m.2.2.2) rfl (eP.push (e:=wj) (x:=m) (b5.q7 R) sH (yi m) oK hi hz aa rfl rfl (by rw[ab];omega) oJ fun s7 B7 w7 b7 f7 n7=>ad _ _ _ _ b7 (fun x u=>(n7 x u).elim (I x) (zL V.size)) (V.j8 f7 fun x u=>.inr (I x u)) (AC hf).symm)
end
end
section
section
variable {α:Type} {enc:α->List Value} {k:Nat} {w:World} {s:Sl} {l:List α} {B S:List Nat}
def qtp{j:Nat}{i:Int}{x:α}{vs:List Value}{K:WP}(h:eP enc k w s l B)(G:∀x,(enc x).length=k)(hi:i=n)(hn:n<l.length)(J:vs.all Value.oneCell'=true)(hj:j+vs.length<=k)(hx:enc x=(enc l[n]).take j++vs++(enc l[n]).drop (j+vs.length))(kk:∀w',eP enc k w' s (l.set n x) B->Fr B w w'->K w'):idx s i k fun a=>Pt.st ⟨a.block,a.off+j,none⟩ vs w K:=by
 subst hi;have hf:=qs G;rcases h with ⟨_,rfl,_⟩|⟨b,o,u,T,rfl,rfl,ha,hb,h5,h6,h7,h8⟩;cases hn;refine qv ha ⟨oJ,oJ⟩ ?_;rw[zJ,xS];rw[xF] at h8;have h9:l.length*k<=s.cap*k:=Nat.mul_le_mul_right k oJ;have aq:l.length*k<=u.size:=oJ;have E:l=l.take n++l[n]::l.drop (n+1):=(by rw[<- zY hn,xE]);have R:=G l[n];have he:enc l[n]=(enc l[n]).take j++((enc l[n]).drop j).take vs.length++(enc l[n]).drop (j+vs.length):=(by rw[zV,<- xD,xE,xE]);have U:u=(((l.take n).flatMap enc++(enc l[n]).take j)++((enc l[n]).drop j).take vs.length++((enc l[n]).drop (j+vs.length)++((l.drop (n+1)).flatMap enc++u.toList.drop (l.length*k)))).toArray:=by
  apply Array.ext';have:l.flatMap enc=(l.take n).flatMap enc++enc l[n]++(l.drop (n+1)).flatMap enc:=by
   conv=>lhs;rw[E]
   rw[yQ,yH,zV]
  have h0:u.toList=(l.take n).flatMap enc++enc l[n]++(l.drop (n+1)).flatMap enc++u.toList.drop (l.length*k):=(by rw[<- this,<- h8,xE]);rw[h0];conv=>lhs;rw[he]
  rw[<- h0];simp only[zV]
 have hA:((l.take n).flatMap enc++(enc l[n]).take j).length=n*k+j:=(by rw[zF,hf,yL,yL,xR oJ,R];omega);have I:dS u (n*k+j) vs=((l.take n).flatMap enc++enc x++((l.drop (n+1)).flatMap enc++u.toList.drop (l.length*k))).toArray:=by
  have:=tQ (A:=(l.take n).flatMap enc++(enc l[n]).take j) (X:=((enc l[n]).drop j).take vs.length) (Y:=vs) (Z:=(enc l[n]).drop (j+vs.length)++((l.drop (n+1)).flatMap enc++u.toList.drop (l.length*k))) (by rw[yL,yC,R];omega)
  rw[hA,<- U] at this;rw[this,hx];simp only[zV]
 have ad:(n+1)*k<=l.length*k:=Nat.mul_le_mul_right k hn;rw[Nat.succ_mul] at ad;have V:n*k+j+vs.length<=u.size:=(by clear U I hx he hA h8;omega);refine rm hb _ I J V fun w' ae f=>kk w' (.inr ⟨b,0,_,T,rfl,rfl,ha,ae,by rw[xG];exact h5,h6,?_,?_⟩) f
 have:=congrArg Array.size I
 rw[nf] at this;rw[<- this];exact h7;rw[xF,xG];have e:(l.set n x).flatMap enc=(l.take n).flatMap enc++enc x++(l.drop (n+1)).flatMap enc:=by rw[set_eq_take_append_cons_drop,if_pos hn,yQ,yH,zV]
 have aa:((l.set n x).flatMap enc).length=l.length*k:=(by rw[hf,xG]);show List.take (l.length*k) (_++_++(_++_))=_;rw[<- zV,<- e,<- aa];exact take_left' rfl
end
abbrev wL:TypeId:=144
def BC(x:jg×Int):(pj x).length=3:=rfl
def qpp(x:jg×Int):∀u∈pj x,u.oneCell'=true:=all_eq_true.1 rfl
def qzY:∃i,Tryz.prog.info? wL=some i/\i.zero=some (.agg #[.int .u64 0,.int .u64 0,.b 0])/\i.size=3/\i.bytes=24:=th oK
def qup{r:oU}{b:Bk}{i0 E x:Int}{K:oU->WP}(h:RB S w r b)(hl:b.size<=100000)(hS:∀x∈S,x<w.heap.size)(kk:∀r' w',RB S w' r' (b.lF ((i0,E),x))->Fr [] w w'->K r' w'): cW 66 [.agg (HL.mk gp r).toArray,df i0 E,.b x] [.agg gp] w K:=by
 refine qdy ?_;have aF:b.k8.length<=100000:=(by unfold Bk.size at hl;omega);obtain⟨i,hi,hz,ac,ad⟩:=qzY;refine oB (oE [] w) fun r1 w1 _ f1 o=>oB o fun r3 w2 _ f2 o=>oB o fun r5 U _ f3 o=>oB (oE [] U) fun r7 w4 e4 f4 o2=>?_;have o4:=o.q7 f4;refine oA o4 2 rfl r.2.2.1 rfl (Ar (e:=wL) (o2.at (i:=0) rfl) (h.q7 o4.fr).k8 BC qpp oK hi hz ac rfl (by rw[ad];decide) oJ fun s5 B5 w5 b5 f5 n5=>?_);have I:∀x∈B5,U.heap.size<=x:=fun x u=>(n5 x u).elim (fun e=>oJ) fun h=>zL f4.size h;have V:Fr [] U w5:=f4.j8 f5 fun x u=>.inr (by rw[zE.1 u];omega);have ae:∀(s:Sl) (l:List (jg×Int)) (B:List Nat) w6,eP pj 3 w6 s l B->(∀x∈B,U.heap.size<=x)->Fr [] U w6->l=iK (fun y:jg×Int=>y.1) ((i0,E),x) b.k8->Pt.st (dh r1 2) [s.v] w6 fun w7=>dK gp (dh r1) w7 fun t=>Pt.st (dh r5) (HL.mk gp t) w7 fun w8=>dK gp (dh r5) w8 fun t=>K t w8:=fun s l B w6 hb hB J e=>by
  refine (o.q7 J).st' 2 rfl (HL.mk gp (r.1,r.2.1,s,r.2.2.2)).toArray rfl rfl (zO rfl) fun w7 o7 f7=>oC o7 2 rfl (r.1,r.2.1,s,r.2.2.2) rfl (o7.st' 0 rfl _ (lZ rfl) rfl (zM _) fun w8 o8 f8=>oC o8 0 rfl (r.1,r.2.1,s,r.2.2.2) rfl ?_);have R:=h.q7 o8.fr;have l1:r1<U.heap.size:=eV (o.at (i:=2) rfl);have l5:r5<U.heap.size:=eV (o.at (i:=0) rfl);have aq:=(hb.q8 f7 fun x u h=>by have:=hB x u;have:=zE.1 h;omega).q8 f8 fun x u h=>by have:=hB x u;have:=zE.1 h;omega
  have ar:ed pj 3 S w8 s (iK (fun y:jg×Int=>y.1) ((i0,E),x) b.k8):=(by rw[<- e];exact wP aq BC hS fun x u=>zL o.fr.size (hB x u));exact kk (r.1,r.2.1,s,r.2.2.2) w8 ⟨R.acc,R.lG,ar,R.due,R.mJ,R.mO,R.jT,R.told,R.gone⟩ o8.fr
 have aM:s5.len=b.k8.length:=b5.len;refine je (fun q w'=>∃n:Nat,q=n/\n<=b.k8.length/\Fr [] w5 w'/\((b.k8.take n).find? fun y:jg×Int=>decide (y.1=(((i0,E),x):jg×Int).1))=none) (fun q _=>b.k8.length-q.toNat) ⟨0,rfl,yX _,.refl _ _,rfl⟩ ?_;rintro q w6 ⟨n,rfl,hn,J,hf⟩ X hX;apply cD<;>intro hc;have G:n<b.k8.length:=oJ;have u:=zA G;have b6:=(b5.q7 J).q7 (Fr.refl [] w6).drew;have o6:=o.q7 ((V.trans J).drew);refine ed.k6 (cl:=u2) (S:=[]) (b6.jw BC fun _ _ h=>nomatch h) n rfl u oM rfl (oC o6 1 rfl (i0,E) rfl (AE (a:=b.k8[n].1) ?_));have st:=Bs (p:=fun y:jg×Int=>decide (y.1=(((i0,E),x):jg×Int).1)) u hf;apply dV<;>intro hb;have ai:b.k8[n].1=(i0,E):=zC hb;refine qtp (j:=2) (x:=((i0,E),x)) (vs:=[.b x]) b6 BC rfl G rfl (zM _) (by rw[show pj b.k8[n]=pj (b.k8[n].1,b.k8[n].2) from rfl,ai];rfl) fun w7 b7 f7=>ae _ _ _ _ b7 I ((V.trans J).drew.j8 f7 fun x u=>.inr (I x u)) (A6 (kf:=fun y:jg×Int=>y.1) u hf ai).symm;rw[gq _ oJ];exact hX _ _ ⟨n+1,rfl,G,J.drew,st.2 hb⟩ oJ;have G:n=b.k8.length:=oJ;subst G;rw[xZ] at hf;have aa:=V.trans J;refine oC (o.q7 aa) 1 rfl (i0,E) rfl (eP.push (e:=wL) (x:=(((i0,E),x):jg×Int)) (b5.q7 J) BC (qpp _) oK hi hz ac rfl rfl (by rw[ad];omega) oJ fun s7 B7 w7 b7 f7 n7=>ae _ _ _ _ b7 (fun x u=>(n7 x u).elim (I x) (zL aa.size)) (aa.j8 f7 fun x u=>.inr (I x u)) (AC (kf:=fun y:jg×Int=>y.1) hf).symm)
end
def ed.G7{α:Type}{enc:α->List Value}{k:Nat}{s:Sl}{l:List α}{c:Cell}(h:ed enc k S w s l)(n:Nat){i:Int}{x:α}{y:c.El}{K:c.El->Prop}(hi:i=n)(E:l[n]?=some x)(G:0<k)(u:(enc x)[0]?=some (c.mk y))(I:K y):idx s i k fun a=>ld c a w K:=by subst hi;obtain⟨V,b,o,J,_,cs,T,fr,R,U⟩:=h.at n E;refine qv J ⟨oJ,oJ⟩ ?_;rw[zJ];refine iI R y ?_ I;rw[<- U,xB,if_pos G,xA,Nat.add_zero] at u;rw[<- xL];exact u
def qxH{l:List (HL jd)}(u:n<l.length):jl d (l.take (n+1))=jl d (l.take n)++if k9 l[n]≠k9 d then [l[n]] else []:=by unfold jl;rw[yG u,xC];congr 1;by_cases h:k9 l[n]=k9 d;simp[h];simp[h]
def qln{r:oU}{b:Bk}(h:RB S w r b)(hl:b.size<=100000)(hS:∀x∈S,x<w.heap.size)(kk:∀r' w',RB S w' r' (b.kD d)->Fr [] w w'->K (r',decide ((jl d b.due).length<b.due.length)) w'): cW 69 [.agg (HL.mk gp r).toArray,.agg #[.int .u64 d.1,.int .u64 d.2.1,.int .u64 d.2.2.1,.int .u64 d.2.2.2]] [.agg gp,.one .bool] w K:=by
 refine qeh ?_;have ax:b.due.length<=100000:=(by unfold Bk.size at hl;omega);refine oB (oE [] w) fun r1 w1 _ f1 o=>oB o fun r3 w2 _ f2 o=>oB o fun r5 I _ f3 o=>oB (oE [] I) fun r7 w4 e4 f4 o2=>?_;have l1:r1<I.heap.size:=eV (o.at (i:=2) rfl);have l5:r5<I.heap.size:=eV (o.at (i:=0) rfl);have af:=(h.q7 o.fr).due;refine je (fun t w'=>∃n:Nat,∃B,t.2=n/\n<=b.due.length/\eP ky 4 w' t.1 (jl d (b.due.take n)) B/\Fr [] I w'/\∀x∈B,I.heap.size<=x) (fun t _=>b.due.length-t.2.toNat) ⟨0,[r7],rfl,yX _,eP.none (o2.at (i:=0) rfl),f4,fun x u=>by rw[zE.1 u];omega⟩ ?_;rintro⟨s,q⟩ w5 ⟨n,B,hq,hn,V,f5,U⟩ X hX;dsimp only at hq V⊢;subst hq;have o5:=o.q7 f5;have ab:ed ky 4 S w5 r.2.2.2.1 b.due:=af.q7 f5;have ah:r.2.2.2.1.len=b.due.length:=ab.1;refine oA o5 2 rfl r.2.2.2.1 rfl (dV (fun hc=>?_) (fun hc=>?_));have E:n<b.due.length:=(by have:=zC hc;omega);have u:=zA E;have ct:=qxH (d:=d) E;generalize b.due[n]=x at u ct;have o6:=o5.drew;have J:=ab.drew;have aE:(jl d (b.due.take n)).length<=100000:=zL (length_filter_le _ _) (by rw[yL];omega);refine hU (fun s' w'=>∃B',eP ky 4 w' s' (jl d (b.due.take (n+1))) B'/\Fr [] I w'/\∀x∈B',I.heap.size<=x) ?_ fun s' w' ⟨B',b',f',n'⟩=>hX _ _ ⟨n+1,B',by dsimp only;rw[gq _ oJ];rfl,E,b',f',n'⟩ (by dsimp only;rw[gq _ oJ];omega);refine sS (decide (k9 x≠k9 d)) w5.drew (fun M hM=>?_) ?_;refine oA o6 2 rfl r.2.2.2.1 rfl (ed.G7 (c:=.int .u64) J n rfl u oM (y:=x.1) rfl (oA o6 1 rfl d.1 rfl ?_));by_cases e:x.1=d.1;refine cond_false (by rw[e];simp) (oA o6 2 rfl r.2.2.2.1 rfl (ed.uD (c:=.int .u64) J n 1 rfl u oM (y:=x.2.1) rfl (oA o6 1 rfl d.2.1 rfl ?_)));rw[show (!x.2.1==d.2.1)=decide (k9 x≠k9 d) by unfold k9;rw[e];by_cases e2:x.2.1=d.2.1;simp[e2];simp[e2]];exact hM;rw[show decide (k9 x≠k9 d)=true from yA fun h=>e (vB h).1] at hM;exact cond_true (oP e) hM;rw[ct];have b6:=V.q7 (Fr.refl [] w5).drew;apply cD<;>intro R;rw[if_pos (R)];refine oA o6 2 rfl r.2.2.2.1 rfl (ed.rf (y:=x) J n rfl u rfl rfl (Be b6 oJ fun s7 B7 w7 b7 f7 n7=>⟨B7,b7,f5.drew.j8 f7 fun x u=>.inr (U x u),fun x u=>(n7 x u).elim (U x) (zL f5.drew.size)⟩));rw[if_neg (R),xH];exact⟨B,b6,f5.drew,U⟩;have E:n=b.due.length:=(by have:=zB hc;omega);subst E;rw[xZ] at V;refine oA o5 2 rfl r.2.2.2.1 rfl (o5.st' 2 rfl (HL.mk gp (r.1,r.2.1,r.2.2.1,s,r.2.2.2.2)).toArray rfl rfl (zO rfl) fun w7 o7 f7=>oC o7 2 rfl (r.1,r.2.1,r.2.2.1,s,r.2.2.2.2) rfl (o7.st' 0 rfl _ (lZ rfl) rfl (zM _) fun w8 o8 f8=>oC o8 0 rfl (r.1,r.2.1,r.2.2.1,s,r.2.2.2.2) rfl ?_));have G:=h.q7 o8.fr;have am:=(V.q8 f7 fun x u h=>by have:=U x u;have:=zE.1 h;omega).q8 f8 fun x u h=>by have:=U x u;have:=zE.1 h;omega
 have e1:s.len=(jl d b.due).length:=V.len;have e2:r.2.2.2.1.len=b.due.length:=ah
 have:=kk (r.1,r.2.1,r.2.2.1,s,r.2.2.2.2) w8 ⟨G.acc,G.lG,G.k8,wP am Ck hS fun x u=>zL o.fr.size (U x u),G.mJ,G.mO,G.jT,G.told,G.gone⟩ o8.fr
 rw[<- e1,<- e2] at this;simpa using this
def quj{r:oU}{b:Bk}(h:RB S w r b)(u:b.size<=100000)(E:∀x∈S,x<w.heap.size)(G:∀r' w' t,RB S w' r' (b.kD d)->Fr [] w w'->K (r',t) w'): cW 69 [.agg (HL.mk gp r).toArray,.agg #[.int .u64 d.1,.int .u64 d.2.1,.int .u64 d.2.2.1,.int .u64 d.2.2.2]] [.agg gp,.one .bool] w K:=
 qln h u E fun r' w' h f=>G r' w' _ h f
end
section
open Go Go.Pt List
open Go.IntKind (wrap)
open Classical
attribute [local irreducible] ld dK iF mK iY fq st new idx i3 ji fy jk iL lN gU nn call dU inv run eX iD join loop held ext jQ eu mr ma mv IntKind.wrap
end
section
open Go Go.Pt List
open Go.IntKind (wrap)
open Classical
attribute [local irreducible] ld dK iF mK iY fq st new idx i3 ji fy jk iL lN gU nn call dU inv run eX iD join loop held ext jQ eu mr ma mv IntKind.wrap
section
variable {w:World}
def qvI{a b:HL jd}{K:Bool->WP}(u:∀w',Fr [] w w'->K (mA a b) w'):cW 110 [.agg #[.int .u64 a.1,.int .u64 a.2.1,.int .u64 a.2.2.1,.int .u64 a.2.2.2],.agg #[.int .u64 b.1,.int .u64 b.2.1,.int .u64 b.2.2.1,.int .u64 b.2.2.2]] dk w K:=by refine qg6<|oB (oE [] w) fun E w1 _ G o=>oB o fun I w2 _ J o=>oA o 1 rfl a.1 rfl (oA o 0 rfl b.1 rfl ?_);have u:=u w2 o.fr;unfold mA at u;apply dV<;>intro h;rw[yA (.inl (zC h))] at u;exact u;have h:=zB h;refine oA o 1 rfl a.1 rfl (oA o 0 rfl b.1 rfl (dV (fun e=>?_) (fun e=>?_)));have e:a.1=b.1:=eq_of_beq e;refine oA o 1 rfl a.2.1 rfl (oA o 0 rfl b.2.1 rfl ?_);rw[show decide (a.1<b.1\/a.1=b.1/\a.2.1<b.2.1)=decide (a.2.1<b.2.1) from decide_eq_decide.2 ⟨fun q=>q.elim (fun q=>absurd q h) fun q=>q.2,fun q=>.inr ⟨e,q⟩⟩] at u;exact u;have e:a.1≠b.1:=ne_of_beq_false e;rw[zU fun q=>q.elim h fun q=>e q.1] at u;exact u
end
def qE (d:HL jd):Bool->List (HL jd)->List (HL jd)
 | c,[]=>if c then [] else [d]
 | c,x::r=>(if c=false/\mA d x=true then [d] else [])++x::qE d (c||mA d x) r
def qpy{d:HL jd}:∀l,qE d true l=l
 | []=>rfl
 | x::r=>by rw[qE,if_neg (fun h=>nomatch h.1),Bool.true_or,qpy r];rfl
def qtD{d:HL jd}:∀l,qE d false l=ln d l
 | []=>rfl
 | x::r=>by rw[qE,ln,Bool.false_or];by_cases h:mA d x=true;rw[if_pos ⟨rfl,h⟩,if_pos h,h,qpy];rfl;rw[if_neg fun q=>h q.2,if_neg h,Bool.eq_false_iff.2 h,qtD r];rfl
def qul{S:List Nat}{w:World}{r:oU}{b:Bk}{d:HL jd}{K:oU->WP}(h:RB S w r b)(hl:b.size<=100000)(hS:∀x∈S,x<w.heap.size)(kk:∀r' w',RB S w' r' (b.jx d)->Fr [] w w'->K r' w'): cW 68 [.agg (HL.mk gp r).toArray,.agg #[.int .u64 d.1,.int .u64 d.2.1,.int .u64 d.2.2.1,.int .u64 d.2.2.2]] [.agg gp] w K:=by
 refine qei ?_;have aw:b.due.length<=100000:=(by unfold Bk.size at hl;omega);refine oB (oE [] w) fun r1 w1 _ f1 o=>oB o fun r3 w2 _ f2 o=>oB o fun r5 w3 _ f3 o=>oC o 2 rfl r rfl (oC o 1 rfl d rfl ?_);have ax:=o.fr.size;have l1:r1<w3.heap.size:=eV (o.at (i:=2) rfl);have l5:r5<w3.heap.size:=eV (o.at (i:=0) rfl);have n1:w.heap.size<=r1:=(o.own _ (yF (i:=2) rfl)).elim (fun h=>nomatch h) id;have n5:w.heap.size<=r5:=(o.own _ (yF (i:=0) rfl)).elim (fun h=>nomatch h) id;have ay:∀x∈r1::r5::S,x<w3.heap.size:=fun x u=>by rcases zG.1 u with rfl|u;exact l1;rcases zG.1 u with rfl|u;exact l5;exact yD (hS x u) o.fr.size
 have h0:RB (r1::r5::S) w r b:=h.q8 (.refl _ _) fun x u=>by rcases zG.1 u with rfl|u;exact .inr n1;rcases zG.1 u with rfl|u;exact .inr n5;exact .inl u
 refine quj (d:=d) (h0.q7 o.fr) hl ay fun r' w4 _ h4 f4=>(o.q7 f4).st' 2 rfl _ (lZ rfl) rfl (zM _) fun J o f5=>?_;have h5:=h4.q8 (f5.mono fun x u _=>by rw[zE.1 u];exact mem_cons_self) fun x u=>.inl u;have z5:w3.heap.size<=J.heap.size:=zL f4.size f5.size;have az:(jl d b.due).length<=100000:=zL (length_filter_le _ _) aw;have V:ed ky 4 (r1::r5::S) J r'.2.2.2.1 (jl d b.due):=h5.due;have ac:(b.jx d).due=ln d (jl d b.due):=rfl;generalize jl d b.due=L at az V ac;have aY:r'.2.2.2.1.len=L.length:=V.1;refine oB (oE [] J) fun r7 w6 e6 f6 o2=>je (fun t w'=>∃n:Nat,∃B E,t.2.2=n/\n<=L.length/\eP ky 4 w' t.1 E B/\E++qE d t.2.1 (L.drop n)=ln d L/\E.length<=2*n/\Fr [] J w'/\∀x∈B,J.heap.size<=x) (fun t _=>L.length-t.2.2.toNat) ⟨0,[r7],[],rfl,yX _,eP.none (o2.at (i:=0) rfl),qtD L,zM _,f6,fun x u=>by rw[zE.1 u];omega⟩ ?_;rintro⟨s,c,q⟩ w7 ⟨n,B,E,hq,hn,hb,he,a2,f7,nB⟩ X hX;dsimp only at hq hb he⊢;subst hq;have o7:=o.q7 f7;have aA:=V.q7 f7;refine oA o7 2 rfl r'.2.2.2.1 rfl (dV (fun hc=>?_) (fun hc=>?_));have G:n<L.length:=(by have:=zC hc;omega);have u:=zA G;rw[zY G,qE] at he;generalize L[n]=x at u he;refine hU (fun z w'=>∃B',z.2=(c||mA d x)/\eP ky 4 w' z.1 (E++if c=false/\mA d x=true then [d] else []) B'/\Fr [] J w'/\∀x∈B',J.heap.size<=x) ?_ ?_;refine hU (fun z w'=>z=decide (c=false/\mA d x=true)/\Fr [] w7 w') ?_ ?_;cases c;refine cond_true rfl (oC o7.drew 1 rfl d rfl (oA o7.drew 2 rfl r'.2.2.2.1 rfl (ed.rf (y:=x) aA.drew n rfl u rfl rfl (qvI fun w8 f8=>⟨?_,(Fr.refl [] w7).drew.trans f8⟩))));cases mA d x<;>simp;exact cond_false rfl ⟨oL,(Fr.refl [] w7).drew⟩;rintro z w8 ⟨rfl,f8⟩;have am:=hb.q7 f8;apply dV<;>intro R;have R:=zC R;rw[if_pos R];refine oC (o7.q7 f8) 1 rfl d rfl (Be am oJ fun s9 B9 w9 b9 I U=>⟨B9,by dsimp only;rw[R.2,Bool.or_true],b9,(f7.trans f8).j8 I fun x u=>.inr (nB x u),fun x u=>(U x u).elim (nB x) (zL (f7.trans f8).size)⟩);have R:=zB R;rw[if_neg R,xH];exact⟨B,by dsimp only;cases c<;>simp at R⊢;exact R,am,f7.trans f8,nB⟩;rintro⟨s9,c9⟩ w9 ⟨B9,rfl,b9,I,U⟩;dsimp only at b9⊢;refine oA (o.q7 I) 2 rfl r'.2.2.2.1 rfl (ed.rf (y:=x) (V.q7 I) n rfl u rfl rfl (Be b9 (by rw[zF];split<;>simp<;>omega) fun a5 aD aE aF ab aG=>?_));refine hX _ _ ⟨n+1,aD,_,by dsimp only;rw[gq _ oJ];rfl,G,aF,by rw[<- he];simp only[zV,xJ,xI],by rw[zF,zF];split<;>simp<;>omega,I.j8 ab fun x u=>.inr (U x u),fun x u=>(aG x u).elim (U x) (zL I.size)⟩ (by dsimp only;rw[gq _ oJ];omega);have G:n=L.length:=(by have:=zB hc;omega);subst G;rw[drop_length,qE] at he;refine hU (fun z w'=>∃B',eP ky 4 w' z (ln d L) B'/\Fr [] J w'/\∀x∈B',J.heap.size<=x) ?_ ?_;cases c;rw[if_neg oM] at he;refine cond_true rfl (oC o7 1 rfl d rfl (Be hb oJ fun s9 B9 w9 b9 I U=>⟨B9,by rw[<- he];exact b9,f7.j8 I fun x u=>.inr (nB x u),fun x u=>(U x u).elim (nB x) (zL f7.size)⟩));rw[if_pos rfl,xH] at he;exact cond_false rfl ⟨B,by rw[<- he];exact hb,f7,nB⟩;rintro s9 w9 ⟨B9,b9,I,U⟩;refine (o.q7 I).st' 2 rfl (HL.mk gp (r'.1,r'.2.1,r'.2.2.1,s9,r'.2.2.2.2)).toArray rfl rfl (zO rfl) fun aE ao ab=>oC ao 2 rfl (r'.1,r'.2.1,r'.2.2.1,s9,r'.2.2.2.2) rfl (ao.st' 0 rfl _ (lZ rfl) rfl (zM _) fun aH ap aq=>oC ap 0 rfl (r'.1,r'.2.1,r'.2.2.1,s9,r'.2.2.2.2) rfl ?_);have g9:=h5.q7 I;have aI:=g9.q8 (ab.mono fun x u _=>by rw[zE.1 u];exact mem_cons_self) fun x u=>.inl u;have hr:=aI.q8 (S':=S) (aq.mono fun x u _=>by rw[zE.1 u];exact zN _ mem_cons_self) fun x u=>.inl (zN _ (zN _ u));have ar:=(b9.q8 ab fun x u h=>by have:=U x u;have:=zE.1 h;omega).q8 aq fun x u h=>by have:=U x u;have:=zE.1 h;omega
 exact kk (r'.1,r'.2.1,r'.2.2.1,s9,r'.2.2.2.2) aH ⟨hr.acc,hr.lG,hr.k8,by rw[ac];exact wP (w0:=J) ar Ck (fun x u=>yD (hS x u) (zL ax z5)) U,hr.mJ,hr.mO,hr.jT,hr.told,hr.gone⟩ ap.fr
end
section
open Go Go.Pt List
open Go.IntKind (wrap)
open Classical
attribute [local irreducible] ld dK iF mK iY fq st new idx i3 ji fy jk iL lN gU nn call dU inv run eX iD join loop held ext jQ eu mr ma mv IntKind.wrap
end
section
open Go Go.Pt List
open Go.IntKind (wrap)
open Classical
attribute [local irreducible] ld dK iF mK iY fq st new idx i3 ji fy jk iL lN gU nn call dU inv run eX iD join loop held ext jQ eu mr ma mv IntKind.wrap
variable {K:Addr->Prop} {S:List Nat} {w:World}
def qy4{s:Sl}{i:Int}{k:Nat}{p:Prop}(u:p)(h:idx s i k K):idx s i k fun a=>gU p (K a):=by unfold idx at h⊢;obtain⟨a,E,G,I⟩:=h;exact⟨a,E,G,pD u I⟩
def GV(x:Kp):∀u∈si x,u.oneCell'=true:=all_eq_true.1 rfl
def qzV:∃i,Tryz.prog.info? Fu=some i/\i.zero=some (.agg (si kpZ).toArray)/\i.size=18/\i.bytes=128:=th oK
def qun{r:oU}{b:Bk}{k:Kp}{K:oU->WP}(h:RB S w r b)(hl:b.size<=100000)(hS:∀x∈S,x<w.heap.size)(kk:∀r' w',RB S w' r' (b.jO k)->Fr [] w w'->K r' w'): cW 65 [.agg (HL.mk gp r).toArray,.agg (si k).toArray] [.agg gp] w K:=by
 refine qcU ?_;have al:b.lG.length<=100000/\b.mJ.length<=100000/\b.mO.length<=100000:=(by unfold Bk.size at hl;omega);obtain⟨i,hi,hz,am,an⟩:=qzV;refine oB (oE [] w) fun G w1 _ f1 o=>oB o fun r3 w2 _ f2 o=>oB o fun I w3 _ f3 o=>oC o 1 rfl k.1 rfl (oB o fun r8 w4 _ f4 o=>o.st' 0 rfl _ (lZ rfl) rfl (zM _) fun w5 o f5=>?_);have l1:G<w5.heap.size:=eV (o.at (i:=3) rfl);have l5:I<w5.heap.size:=eV (o.at (i:=1) rfl);have n1:w.heap.size<=G:=(o.own _ (yF (i:=3) rfl)).elim (fun h=>nomatch h) id;have n5:w.heap.size<=I:=(o.own _ (yF (i:=1) rfl)).elim (fun h=>nomatch h) id;have ao:∀x∈G::I::S,x<w5.heap.size:=fun x u=>by rcases zG.1 u with rfl|u;exact l1;rcases zG.1 u with rfl|u;exact l5;exact yD (hS x u) o.fr.size
 have h0:RB (G::I::S) w r b:=h.q8 (.refl _ _) fun x u=>by rcases zG.1 u with rfl|u;exact .inr n1;rcases zG.1 u with rfl|u;exact .inr n5;exact .inl u
 have h5:=h0.q7 o.fr;have E:∀ {w w':World},Fr [G] w w'->Fr (G::I::S) w w':=fun f=>f.mono fun x u _=>by rw[zE.1 u];exact mem_cons_self
 refine oA o 3 rfl r.2.2.2.2.1 rfl (oC o 0 rfl (k.1.2.2.1,k.1.2.2.2.1) rfl (oA o 0 rfl k.1.2.2.2.2.2.2.2.2.2.2.2.2.2.2.2 rfl (oC o 0 rfl (k.1.1,k.1.2.1) rfl (qqS (m:=yh k.1) h5.mJ al.2.1 ao fun s6 w6 d6 R=>?_))));refine (o.q7 R).st' 3 rfl (HL.mk gp (r.1,r.2.1,r.2.2.1,r.2.2.2.1,s6,r.2.2.2.2.2)).toArray rfl rfl (zO rfl) fun w7 o f7=>?_;have h7:=(h5.q7 R).q8 (E f7) fun x u=>.inl u;have d7:=d6.q8 (E f7) fun x u=>.inl u;have z7:w5.heap.size<=w7.heap.size:=zL R.size f7.size;refine oA o 3 rfl r.2.2.2.2.2.1 rfl (oC o 0 rfl (k.1.2.2.2.2.1,k.1.2.2.2.2.2.1) rfl (oA o 0 rfl k.1.2.2.2.2.2.2.2.2.2.2.2.2.2.2.2 rfl (oC o 0 rfl (k.1.1,k.1.2.1) rfl (qqS (m:=CO k.1) h7.mO al.2.2 (fun x u=>yD (ao x u) z7) fun s8 w8 aE f8=>?_))));refine (o.q7 f8).st' 3 rfl (HL.mk gp (r.1,r.2.1,r.2.2.1,r.2.2.2.1,s6,s8,r.2.2.2.2.2.2)).toArray rfl rfl (zO rfl) fun w9 o f9=>?_;have h9:=(h7.q7 f8).q8 (E f9) fun x u=>.inl u;have d9:=(d7.q7 f8).q8 (E f9) fun x u=>.inl u;have c9:=aE.q8 (E f9) fun x u=>.inl u;have bb:G<w9.heap.size:=eV (o.at (i:=3) rfl);have bc:I<w9.heap.size:=eV (o.at (i:=1) rfl);refine oB (oE [] w9) fun r7 bd e7 U o2=>?_;have aH:=o.q7 U;refine oA aH 3 rfl r.2.1 rfl (Ar (e:=Fu) (o2.at (i:=0) rfl) (h9.q7 U).lG uX GV oK hi hz am rfl (by rw[an];decide) oJ fun aq B5 ar b5 aJ aK=>?_);have V:∀x∈B5,w9.heap.size<=x:=fun x u=>(aK x u).elim (fun e=>oJ) fun h=>zL U.size h;have ae:Fr [] w9 ar:=U.j8 aJ fun x u=>.inr (by rw[zE.1 u];omega);have au:∀(s:Sl) (l:List Kp) (B:List Nat) w6,eP si 18 w6 s l B->(∀x∈B,w9.heap.size<=x)->Fr [] w9 w6->l=iK sZ k b.lG->Pt.st (dh G 1) [s.v] w6 fun w7=>dK gp (dh G) w7 fun t=>Pt.st (dh I) (HL.mk gp t) w7 fun w8=>dK gp (dh I) w8 fun t=>K t w8:=fun s l B bh hb hB aa e=>by
  refine (o.q7 aa).st' 3 rfl (HL.mk gp (r.1,s,r.2.2.1,r.2.2.2.1,s6,s8,r.2.2.2.2.2.2)).toArray rfl rfl (zO rfl) fun aw ax ab=>oC ax 3 rfl (r.1,s,r.2.2.1,r.2.2.2.1,s6,s8,r.2.2.2.2.2.2) rfl (ax.st' 1 rfl _ (lZ rfl) rfl (zM _) fun af ay az=>oC ay 1 rfl (r.1,s,r.2.2.1,r.2.2.2.1,s6,s8,r.2.2.2.2.2.2) rfl ?_);have ag:Fr (G::I::S) aw af:=az.mono fun x u _=>by rw[zE.1 u];exact zN _ mem_cons_self
  have dn:∀x∈S,x∈G::I::S\/aw.heap.size<=x:=fun x u=>.inl (zN _ (zN _ u));have hr:=((h9.q7 aa).q8 (E ab) fun x u=>.inl u).q8 ag dn;have hd:=((d9.q7 aa).q8 (E ab) fun x u=>.inl u).q8 ag dn;have hc:=((c9.q7 aa).q8 (E ab) fun x u=>.inl u).q8 ag dn;have aN:=(hb.q8 ab fun x u h=>by have:=hB x u;have:=zE.1 h;omega).q8 az fun x u h=>by have:=hB x u;have:=zE.1 h;omega
  have aO:ed si 18 S af s (iK sZ k b.lG):=(by rw[<- e];exact wP aN uX hS fun x u=>zL o.fr.size (hB x u));exact kk _ af ⟨hr.acc,aO,hr.k8,hr.due,hd,hc,hr.jT,hr.told,hr.gone⟩ ay.fr
 have bj:aq.len=b.lG.length:=b5.len;refine je (fun q w'=>∃n:Nat,q=n/\n<=b.lG.length/\Fr [] ar w'/\((b.lG.take n).find? fun x=>decide (sZ x=sZ k))=none) (fun q _=>b.lG.length-q.toNat) ⟨0,rfl,yX _,.refl _ _,rfl⟩ ?_;rintro q w6 ⟨n,rfl,hn,R,hf⟩ X hX;apply cD<;>intro hc;have J:n<b.lG.length:=oJ;have u:=zA J;have b6:=(b5.q7 R).q7 (Fr.refl [] w6).drew;have o6:=o.q7 ((ae.trans R).drew);refine ed.k6 (cl:=u2) (S:=[]) (b6.jw uX fun _ _ h=>nomatch h) n rfl u oM rfl (oC o6 0 rfl (sZ k) rfl (AE (a:=sZ b.lG[n]) ?_));have st:=Bs (p:=fun x=>decide (sZ x=sZ k)) u hf;apply dV<;>intro hb;refine qC (o6.at (i:=2) rfl) (si k) (uX k) rfl ?_
 have:=Fw (K:=fun aP=>Pt.st (dh G 1) [aq.v] aP fun w7=>dK gp (dh G) w7 fun t=>Pt.st (dh I) (HL.mk gp t) w7 fun w8=>dK gp (dh I) w8 fun t=>K t w8) b6 uX GV (x:=k) rfl J fun w7 b7 f7=>au _ _ _ _ b7 V ((ae.trans R).drew.j8 f7 fun x u=>.inr (V x u)) (A6 u hf (zC hb)).symm
 exact qy4 (uX k) this;rw[gq _ oJ];exact hX _ _ ⟨n+1,rfl,J,R.drew,st.2 hb⟩ oJ;have J:n=b.lG.length:=oJ;subst J;rw[xZ] at hf;have ah:=ae.trans R;refine qC ((o.q7 ah).at (i:=2) rfl) (si k) (uX k) rfl (pD (uX k) (eP.push (e:=Fu) (x:=k) (b5.q7 R) uX (GV k) oK hi hz am rfl rfl (by rw[an];omega) oJ fun s7 B7 w7 b7 f7 n7=>au _ _ _ _ b7 (fun x u=>(n7 x u).elim (V x) (zL ah.size)) (ah.j8 f7 fun x u=>.inr (V x u)) (AC hf).symm))
abbrev GJ:TypeId:=117
def BD(x:Ln):(mP x).length=12:=rfl
def qpn(x:Ln):∀u∈mP x,u.oneCell'=true:=all_eq_true.1 rfl
def qzW:∃i,Tryz.prog.info? GJ=some i/\i.zero=some (.agg (mP ((0,0),AH)).toArray)/\i.size=12/\i.bytes=96:=th oK
def qAs{α:Type}{enc:α->List Value}{k:Nat}{s:Sl}{l:List α}(h:ed enc k S w s l)(n:Nat){i:Int}{x:α}(hi:i=n)(G:l[n]?=some x)(I:∀b o u T E,w.heap[b]?=some (.cells u T E)->(u.toList.drop o).take k=enc x->K (dh b o)):idx s i k K:=by subst hi;obtain⟨V,b,o,J,_,u,T,E,R,U⟩:=ed.at h n G;refine qv J ⟨oJ,oJ⟩ ?_;rw[zJ];exact I b _ u T E R U
def qum{r:oU}{b:Bk}{a0 a1:Int}{x:HL mz}{K:oU->WP}(h:RB S w r b)(hl:b.size<=100000)(hS:∀x∈S,x<w.heap.size)(kk:∀r' w',RB S w' r' (b.lW ((a0,a1),x))->Fr [] w w'->K r' w'): cW 70 [.agg (HL.mk gp r).toArray,df a0 a1,.agg (HL.mk mz x).toArray] [.agg gp] w K:=by
 refine qej ?_;have aM:b.jT.length<=100000:=(by unfold Bk.size at hl;omega);obtain⟨i,hi,hz,ae,af⟩:=qzW;have hm:∃m:Ln,m=((a0,a1),x):=⟨_,rfl⟩;obtain⟨m,em⟩:=hm;rw[<- em] at kk;refine oB (oE [] w) fun r1 w1 _ f1 o=>oB o fun r3 w2 _ f2 o=>oB o fun r5 aO _ aP o=>oB o fun r7 w3 _ f3 o=>oB (oE [] w3) fun r9 w4 e4 f4 o2=>?_;have o4:=o.q7 f4;refine oA o4 3 rfl r.2.2.2.2.2.2.1 rfl (Ar (e:=GJ) (o2.at (i:=0) rfl) (h.q7 o4.fr).jT BD qpn oK hi hz ae rfl (by rw[af];decide) oJ fun s5 B5 w5 b5 f5 n5=>?_);have I:∀x∈B5,w3.heap.size<=x:=fun x u=>(n5 x u).elim (fun e=>oJ) fun h=>zL f4.size h;have ab:Fr [] w3 w5:=f4.j8 f5 fun x u=>.inr (by rw[zE.1 u];omega);have ag:∀(s:Sl) (l:List Ln) (B:List Nat) R,eP mP 12 R s l B->(∀x∈B,w3.heap.size<=x)->Fr [] w3 R->l=iK rj m b.jT->Pt.st (dh r1 6) [s.v] R fun w7=>dK gp (dh r1) w7 fun t=>Pt.st (dh r7) (HL.mk gp t) w7 fun w8=>dK gp (dh r7) w8 fun t=>K t w8:=fun s l B R E hB U e=>by
  refine (o.q7 U).st' 3 rfl (HL.mk gp (r.1,r.2.1,r.2.2.1,r.2.2.2.1,r.2.2.2.2.1,r.2.2.2.2.2.1,s,r.2.2.2.2.2.2.2)).toArray rfl rfl (zO rfl) fun w7 o7 f7=>oC o7 3 rfl (r.1,r.2.1,r.2.2.1,r.2.2.2.1,r.2.2.2.2.1,r.2.2.2.2.2.1,s,r.2.2.2.2.2.2.2) rfl (o7.st' 0 rfl _ (lZ rfl) rfl (zM _) fun w8 o8 f8=>oC o8 0 rfl (r.1,r.2.1,r.2.2.1,r.2.2.2.1,r.2.2.2.2.1,r.2.2.2.2.2.1,s,r.2.2.2.2.2.2.2) rfl ?_);have V:=h.q7 o8.fr;have l1:r1<w3.heap.size:=eV (o.at (i:=3) rfl);have l5:r7<w3.heap.size:=eV (o.at (i:=0) rfl);have aq:=(E.q8 f7 fun x u h=>by have:=hB x u;have:=zE.1 h;omega).q8 f8 fun x u h=>by have:=hB x u;have:=zE.1 h;omega
  have ar:ed mP 12 S w8 s (iK rj m b.jT):=(by rw[<- e];exact wP aq BD hS fun x u=>zL o.fr.size (hB x u));exact kk _ w8 ⟨V.acc,V.lG,V.k8,V.due,V.mJ,V.mO,ar,V.told,V.gone⟩ o8.fr
 have aW:s5.len=b.jT.length:=b5.len;refine je (fun q w'=>∃n:Nat,q=n/\n<=b.jT.length/\Fr [] w5 w'/\((b.jT.take n).find? fun x=>decide (rj x=rj m))=none) (fun q _=>b.jT.length-q.toNat) ⟨0,rfl,yX _,.refl _ _,rfl⟩ ?_;rintro q R ⟨n,rfl,hn,U,hf⟩ X hX;apply cD<;>intro hc;have G:n<b.jT.length:=oJ;have u:=zA G;have b6:=(b5.q7 U).q7 (Fr.refl [] R).drew;have o6:=o.q7 ((ab.trans U).drew);have r6:ed mP 12 [] R.drew s5 b.jT:=b6.jw BD fun _ _ h=>nomatch h;refine sS (decide (rj b.jT[n]=rj m)) R.drew (fun M hM=>?_) ?_;refine ed.k6 (cl:=u2) r6 n rfl u oM rfl (oC o6 2 rfl (a0,a1) rfl (AE (a:=b.jT[n].1) ?_));apply dV<;>intro E;have E:=zC E;refine qAs r6 n rfl u fun b' o' cs T fr ax ay=>?_;simp only[Addr.q9];refine iI ax (nc (lw b.jT[n].2)) ?_ (oA o6 1 rfl (nc (lw x)) rfl ?_);have e:(mP b.jT[n])[10]?=some (.int .u64 (nc (lw b.jT[n].2))):=rfl;rw[<- ay,xB,if_pos oM,xA] at e;rw[<- xL];exact e;rw[show (nc (lw b.jT[n].2)==nc (lw x))=decide (rj b.jT[n]=rj m) by unfold rj;rw[E,em];by_cases e:nc (lw b.jT[n].2)=nc (lw x);simp[e];simp[e]];exact hM;have E:=zB E;rw[show decide (rj b.jT[n]=rj m)=false from zU fun e=>E (by rw[em] at e;exact (vB e).1)] at hM;exact hM;have st:=Bs (p:=fun x=>decide (rj x=rj m)) u hf;apply dV<;>intro E;have hk:=zC E;have h1:b.jT[n].1=(a0,a1):=(by rw[em] at hk;exact (vB hk).1);refine oC o6 1 rfl x rfl (qtp (j:=2) (x:=m) (vs:=HL.mk mz x) b6 BD rfl G rfl (zM _) (by rw[em,show mP b.jT[n]=mP (b.jT[n].1,b.jT[n].2) from rfl,h1];rfl) fun w7 b7 f7=>ag _ _ _ _ b7 I ((ab.trans U).drew.j8 f7 fun x u=>.inr (I x u)) (A6 u hf hk).symm);rw[gq _ oJ];exact hX _ _ ⟨n+1,rfl,G,U.drew,st.2 E⟩ oJ;have G:n=b.jT.length:=oJ;subst G;rw[xZ] at hf;have J:=ab.trans U;refine oC (o.q7 J) 2 rfl (a0,a1) rfl (oC (o.q7 J) 1 rfl x rfl (eP.push (e:=GJ) (x:=m) (b5.q7 U) BD (qpn m) oK hi hz ae rfl (by rw[em];rfl) (by rw[af];omega) oJ fun s7 B7 w7 b7 f7 n7=>ag _ _ _ _ b7 (fun x u=>(n7 x u).elim (I x) (zL J.size)) (J.j8 f7 fun x u=>.inr (I x u)) (AC hf).symm))
section
abbrev WF:FuncId:=86
structure D0 (w:World) (v:Value) (pb:Nat) (t:Int) (frm to:Key) (down:Bool) (WB:List Nat):Prop where
 val:∃ r1 r3 r5 r7 r9 s1 s2 B1 B2,v=.func (.func WF) #[] #[dF r1,dF r3,dF r5,dF r7,dF r9]/\WB=r1::r3::r5::r7::r9::(B1++B2)/\
  w.cell? (dh r1)=some (dF pb)/\w.cell? (dh r3)=some (.i t)/\w.cell? (dh r5)=some s1.v/\w.cell? (dh r7)=some s2.v/\w.cell? (dh r9)=some (.bool down)/\fV w s1 frm B1/\fV w s2 to B2
 lt:∀ b∈WB,b<w.heap.size
section
variable {dbk pb:Nat} {FD F:List Nat} {D:dI} {M:dZ} {k v:Nat} {frm to:Key} {down:Bool} {w:World}
structure Hh (yield:Value) (Yc:List Nat) (wb:World) (L:fR) (I:Nat->WP) (E:WP):Prop where
 stay:∀ i W W' Z,I i W->Fr Z W W'->(∀ b∈Z,wb.heap.size<=b)->I i W'
 take:∀ i (hi:i<L.length) W ks vs B1 B2 (K:Bool->WP),I i W->fV W ks L[i].1 B1->fV W vs L[i].2 B2->(∀ b∈B1++B2,wb.heap.size<=b)->wb.heap.size<=W.heap.size->(∀ W',Fr Yc W W'->I (i+1) W'->K true W')->(∀ W',E W'->K false W')->dU Tryz.prog yield [ks.v,vs.v] dk W K
end
end
section
def qX (w0 W:World) (Y C:List Nat) (cb:Nat) (rest:fR):Prop:=∃(dbk pb:Nat) (FD:List Nat) (D:dI) (F:List Nat) (M:dZ) (k v:Nat) (frm to:Key) (down:Bool) (st:Sl) (SB:List Nat) (zs:List qd),
 gd dbk pb FD D F M k v frm to down w0 cb Y W st SB zs/\Left D M k v frm to down 1 (zs.map (·.2)) rest/\C=cb::SB
section
variable {w0 W w':World} {Y C:List Nat} {cb:Nat} {rest:fR}
def qX.q7(h:qX w0 W Y C cb rest)(f:Fr [] W w'):qX w0 w' Y C cb rest:=by obtain⟨dbk,pb,FD,D,F,M,k,v,frm,to,down,st,SB,zs,u,E,e⟩:=h;exact⟨dbk,pb,FD,D,F,M,k,v,frm,to,down,st,SB,zs,u.q7 f,E,e⟩
def qX.q8{Y':List Nat}(h:qX w0 W Y C cb rest)(f:Fr Y W w')(u:∀b∈Y',b∈Y\/W.heap.size<=b)(E:∀b∈Y',b<w'.heap.size):qX w0 w' Y' C cb rest:=by obtain⟨dbk,pb,FD,D,F,M,k,v,frm,to,down,st,SB,zs,G,I,e⟩:=h;exact⟨dbk,pb,FD,D,F,M,k,v,frm,to,down,st,SB,zs,G.q8 f u E,I,e⟩
def qX.lt(h:qX w0 W Y C cb rest):(∀b∈C,b<W.heap.size)/\(∀b∈Y,b<W.heap.size/\b∉C):=by obtain⟨dbk,pb,FD,D,F,M,k,v,frm,to,down,st,SB,zs,E,I,rfl⟩:=h;refine⟨fun b u=>E.lt b ?_,fun b u=>⟨E.lt b (zN _ (zI _ u)),fun G=>?_⟩⟩;rcases zG.1 u with rfl|u;exact mem_cons_self;exact zN _ (zH _ u);rcases zG.1 G with rfl|G;exact E.yd u;exact E.vN b G u
def qX.next{K:(Sl×Sl)×Bool->WP}(h:qX w0 W Y C cb rest)(J:rest=[]->∀G w',qX w0 w' Y G cb []->Fr C W w'->(∀b∈G,b∈C)->K ((dG,dG),false) w')(R:∀x r,rest=x::r->∀ks vs G w',kE W w' ks x.1->kE W w' vs x.2->qX w0 w' Y G cb r->Fr C W w'->(∀b∈G,b∈C\/W.heap.size<=b)->K ((ks,vs),true) w'): cW 40 [dF cb] [.agg BW,.one .bool] W K:=by
 obtain⟨dbk,pb,FD,D,F,M,k,v,frm,to,down,st,SB,zs,U,V,rfl⟩:=h;refine qo3 U V (fun e w' u f=>?_) fun x r e ks vs B1 B2 w' st' SB' zs' b1 b2 u I f n n1 n2 nd=>?_;exact J e [cb] w' ⟨dbk,pb,FD,D,F,M,k,v,frm,to,down,dG,[],[],u,.inl ⟨rfl,rfl⟩,rfl⟩ f fun b E=>by rw[zE.1 E];exact mem_cons_self
 have hl:=u.lt;refine R x r e ks vs (cb::SB') w' (uz b1 n1) (uz b2 n2) ⟨dbk,pb,FD,D,F,M,k,v,frm,to,down,st',SB',zs',u.q8 (.refl _ _) (fun b E=>.inl (by simp[E])) fun b E=>hl b (by simp[E]),I,rfl⟩ f fun b E=>?_;rcases zG.1 E with rfl|E;exact .inl mem_cons_self;exact (n b E).imp (zN _) id
end
end
end
section
open Go Go.Pt List
open Go.IntKind (wrap)
variable {d:HL jd} {l:List (HL jd)}
abbrev Ov:=Int×HL kL×Kp×jg×Int×HL jd×HL mz×Int
def rX (o:Ov):Int:=o.1
def Aq (o:Ov):HL kL:=o.2.1
def vF (o:Ov):Kp:=o.2.2.1
def tM (o:Ov):jg:=o.2.2.2.1
def yq (o:Ov):Int:=o.2.2.2.2.1
def qz (o:Ov):HL jd:=o.2.2.2.2.2.1
def zp (o:Ov):HL mz:=o.2.2.2.2.2.2.1
def uu (o:Ov):Int:=o.2.2.2.2.2.2.2
structure rD (o:Ov):Prop where
 d:IntKind.u8.has (rX o)
 a:jV kL (Aq o)
 k:uJ (vF o)
 i:lq (tM o)
 s:IntKind.u8.has (yq o)
 u:jV jd (qz o)
 r:jV mz (zp o)
 n:IntKind.u64.has (uu o)
def pS (b:Bk) (o:Ov):Bk:=
 if rX o%8=0 then b.mi (Aq o) else if rX o%8=1 then b.jO (vF o) else if rX o%8=2 then b.lF (tM o,yq o)
 else if rX o%8=3 then b.jx (qz o) else if rX o%8=4 then b.kD (qz o) else if rX o%8=5 then b.lW (tM o,zp o)
 else if rX o%8=6 then b.jL (uu o) else b.wV
def qrb{a b:HL jd}:mA a b=true↔(k9 a).1<(k9 b).1\/(k9 a).1=(k9 b).1/\(k9 a).2<(k9 b).2:=by unfold mA;rw[yN];exact Iff.rfl
def qxT{x:HL jd}:x∈ln d l↔x=d\/x∈l:=by rw[Cl.mem_iff,zG]
def qpw{d:HL jd}:∀ {l:List (HL jd)},uM l->(∀x∈l,k9 x≠k9 d)->uM (ln d l)
 | [],_,_=>pairwise_singleton _ _
 | x::r,h,G=>by have E:=yJ.1 h;unfold ln;by_cases e:mA d x=true;rw[if_pos e];refine yJ.2 ⟨fun y u=>?_,h⟩;rcases zG.1 u with rfl|u;exact e;have I:=E.1 y u;rw[qrb] at e I⊢;omega;rw[if_neg e];refine yJ.2 ⟨fun y u=>?_,qpw E.2 fun y u=>G y (zN _ u)⟩;rcases qxT.1 u with rfl|u;have J:=G x mem_cons_self;rw[qrb] at e⊢;have I:¬((k9 x).1=(k9 y).1/\(k9 x).2=(k9 y).2):=fun h=>J (Prod.ext h.1 h.2);omega;exact E.1 y u
structure Bt (n i:Nat) (b:Bk):Prop where
 size:b.size<=3*i
 dus:uM b.due
 blocks:b.cm.1=n
 wV:b.cm.2.1<=i+1
 last:∀ n,b.last=some n->lg n
section
variable {n i:Nat} {b:Bk} {o:Ov}
def Bk.rg{a:HL kL}:(b.mi a).size<=b.size+1:=by
 have:=uL (kf:=m7) (a:=a) (l:=b.acc)
 unfold Bk.mi Bk.size;dsimp only;omega
def Bk.rc{x:jg×Int}:(b.lF x).size<=b.size+1:=by
 have:=uL (kf:=fun x:jg×Int=>x.1) (a:=x) (l:=b.k8)
 unfold Bk.lF Bk.size;dsimp only;omega
def Bk.qP{x:Ln}:(b.lW x).size<=b.size+1:=by
 have:=uL (kf:=rj) (a:=x) (l:=b.jT)
 unfold Bk.lW Bk.size;dsimp only;omega
def Bk.nQ{k:Kp}:(b.jO k).size<=b.size+3:=by have h:=uL (kf:=sZ) (a:=k) (l:=b.lG);have u:=uL (kf:=ot) (a:=yh k.1) (l:=b.mJ);have E:=uL (kf:=ot) (a:=CO k.1) (l:=b.mO);unfold Bk.jO Bk.lu Bk.mZ Bk.pd Bk.size;dsimp only;omega
def qpf:(jl d l).length<=l.length:=length_filter_le _ _
def Bk.qY:(b.kD d).size<=b.size:=by
 have:=qpf (d:=d) (l:=b.due)
 unfold Bk.kD Bk.size;dsimp only;omega
def Bk.qG:(b.jx d).size<=b.size+1:=by have h:=qpf (d:=d) (l:=b.due);have u:(ln d (jl d b.due)).length=(jl d b.due).length+1:=(by rw[Cl.length_eq,yI]);unfold Bk.jx Bk.size;dsimp only;omega
def Bk.qf{x:Int}:(b.jL x).size<=b.size+1:=by unfold Bk.jL Bk.size;have:(some x).toList.length=1:=rfl;dsimp only;omega
def qpe(h:uM l):uM (jl d l):=List.Pairwise.sublist filter_sublist h
def FQ(h:uM b.due):uM (b.jx d).due:=qpw (qpe h) fun x u=>zC (mem_filter.1 u).2
def Bt.step(h:Bt n i b)(I:rD o):Bt n (i+1) (pS b o):=by obtain⟨R,u,E,U,G⟩:=h;unfold pS;split;exact⟨by have:=Bk.rg (b:=b) (a:=Aq o);omega,u,E,by show b.cm.2.1<=_;omega,G⟩;split;exact⟨by have:=Bk.nQ (b:=b) (k:=vF o);omega,u,E,by show b.cm.2.1<=_;omega,G⟩;split;exact⟨by have:=Bk.rc (b:=b) (x:=(tM o,yq o));omega,u,E,by show b.cm.2.1<=_;omega,G⟩;split;exact⟨by have:=Bk.qG (b:=b) (d:=qz o);omega,FQ u,E,by show b.cm.2.1<=_;omega,G⟩;split;exact⟨by have:=Bk.qY (b:=b) (d:=qz o);omega,qpe u,E,by show b.cm.2.1<=_;omega,G⟩;split;exact⟨by have:=Bk.qP (b:=b) (x:=(tM o,zp o));omega,u,E,by show b.cm.2.1<=_;omega,G⟩;split;exact⟨by have:=Bk.qf (b:=b) (x:=uu o);omega,u,E,by show b.cm.2.1<=_;omega,fun n J=>by cases J;exact qe I.n⟩;exact⟨by show b.size<=_;omega,u,E,by show b.cm.2.1+1<=_;omega,G⟩
end
def pf (q:Nat×Nat×Gh) (l:List Ov):Bk:=l.foldl pS (xc q)
def qmW{q:Nat×Nat×Gh}{l:List Ov}{o:Ov}:pf q (l++[o])=pS (pf q l) o:=by unfold pf;rw[foldl_append];rfl
def GE{q:Nat×Nat×Gh}(E:q.2.1=1):∀k (l:List Ov),k<=l.length->(∀o∈l,rD o)->Bt q.1 k (pf q (l.take k))
 | 0,l,_,_=>⟨zM _,.nil,rfl,by show q.2.1<=_;omega,fun _ h=>nomatch h⟩
 | k+1,l,h,u=>by rw[yG oJ,qmW];exact (GE E k l oJ u).step (u _ (zX _))
section
def putAt {α:Type} (p:α->Bool) (x:α) (l:List α):List α:=(l.reverse.dropWhile p).reverse++x::(l.reverse.takeWhile p).reverse
section
variable {α:Type} {p:α->Bool} {x:α} {l A B:List α} {lt:α->α->Prop}
def qx6(E:∀y∈B,p y=true)(I:∀h z,A=h++[z]->p z=false):putAt p x (A++B)=A++x::B:=by
 have G:(A++B).reverse.takeWhile p=B.reverse/\(A++B).reverse.dropWhile p=A.reverse:=by rw[reverse_append,takeWhile_append_of_pos (fun y u=>E y (mem_reverse.1 u)),dropWhile_append_of_pos (fun y u=>E y (mem_reverse.1 u))];rcases eq_nil_or_concat A with rfl|⟨h,z,rfl⟩;simp;rw[concat_eq_append,reverse_append,reverse_singleton,singleton_append,takeWhile_cons,dropWhile_cons,I h z (by rw[concat_eq_append])];simp
 unfold putAt;rw[G.1,G.2,reverse_reverse,reverse_reverse]
def qlU(p:α->Bool)(x:α)(l:List α):∃A B,l=A++B/\putAt p x l=A++x::B/\(∀y∈B,p y=true)/\∀h z,A=h++[z]->p z=false:=by
 refine⟨(l.reverse.dropWhile p).reverse,(l.reverse.takeWhile p).reverse,?_,rfl,fun y u=>?_,fun h z e=>?_⟩;rw[<- reverse_append,takeWhile_append_dropWhile,reverse_reverse]
 have:=all_takeWhile (l:=l.reverse) (p:=p)
 exact all_eq_true.1 this y (mem_reverse.1 u);have E:l.reverse.dropWhile p=z::h.reverse:=by rw[<- reverse_reverse (l.reverse.dropWhile p),e,reverse_append];rfl
 have:=List.head?_dropWhile_not p l.reverse
 rw[E] at this;simpa using this
def qnU:(putAt p x l).Perm (x::l):=by obtain⟨A,B,rfl,e,_⟩:=qlU p x l;rw[e];exact perm_middle
def qrY(U:l.Pairwise lt)(V:∀a b c,lt a b->lt b c->lt a c)(hp:∀y∈l,p y=true->lt x y)(G:∀y∈l,p y=false->lt y x):(putAt p x l).Pairwise lt:=by
 obtain⟨A,B,rfl,e,hB,I⟩:=qlU p x l;rw[e];obtain⟨u,h2,h3⟩:=pairwise_append.1 U;refine pairwise_append.2 ⟨u,yJ.2 ⟨fun y J=>hp y (zI _ J) (hB y J),h2⟩,fun a h b E=>?_⟩;have ax:lt a x:=by rcases eq_nil_or_concat A with rfl|⟨A',z,rfl⟩;cases h;rw[concat_eq_append] at h u I G;have R:=G z oL (I A' z rfl);rcases zD.1 h with h|h;exact V _ _ _ ((pairwise_append.1 u).2.2 a h z oL) R;rw[zE.1 h];exact R
 rcases zG.1 E with rfl|E;exact ax;exact h3 a h b E
end
def qzb{x y:Key}(u:¬fE x y)(h:¬fE y x):x=y:=Dd (by unfold fE at u h;rw[tu x y] at h;omega)
def qzr{i a:jg}{frm to n:Int}(hi:lq i)(I:lq a)(J:lg frm)(R:lg to)(G:lg n){v:Key}:um (gg i frm) (gg i to) (gg a n,v)=decide (a=i/\frm<=n/\n<=to):=by rw[Bool.eq_iff_iff,qzR,yN];unfold gg;dsimp only;rw[CI G J (by rw[mu,mu]),CI R G (by rw[mu,mu])];constructor;rintro⟨u,E⟩;have e:jf a=jf i:=qzb (fun h=>u (.inl h)) (fun h=>E (.inl h));have:a=i:=lq.inj I hi e;exact⟨this,by have:¬n<frm:=fun h=>u (.inr ⟨e,h⟩);omega,by have:¬to<n:=fun h=>E (.inr ⟨e.symm,h⟩);omega⟩;rintro⟨rfl,u,E⟩;exact⟨fun h=>h.elim (Hc _) fun h=>oJ,fun h=>h.elim (Hc _) fun h=>oJ⟩
end
def jR (m:Mv):Int:=m.2.1
def pV (n:Int) (down:Bool) (y:Mv):Bool:=decide (jR y>n) != down
def kY (i:jg) (frm to:Int) (x:Mv):Bool:=decide (x.1=i/\frm<=jR x/\jR x<=to)
def jW (l:List Mv) (i:jg) (frm to:Int) (down:Bool):List Mv:=(l.filter (kY i frm to)).foldl (fun h x=>putAt (pV (jR x) down) x h) []
def mU (x:Mv):Key×Key:=(gg x.1 (jR x),jf x.2.2)
def qF (down:Bool) (a b:Mv):Prop:=if down then jR b<jR a else jR a<jR b
def qlJ{down:Bool}:∀ {l out:List Mv},(out.map jR++l.map jR).Nodup->out.Pairwise (qF down)-> (l.foldl (fun out x=>putAt (pV (jR x) down) x out) out).Pairwise (qF down)/\(l.foldl (fun out x=>putAt (pV (jR x) down) x out) out).Perm (out++l)
 | [],out,_,I=>⟨I,by rw[xH];exact .refl _⟩
 | x::r,out,U,I=>by
  rw[foldl_cons];have u:(putAt (pV (jR x) down) x out).Perm (x::out):=qnU;have E:∀y∈out,jR y≠jR x:=fun y G=>(yM.1 U).2.2 _ (zZ G) _ oL;have J:(putAt (pV (jR x) down) x out).Pairwise (qF down):=by
   refine qrY I (fun a b c V h2=>?_) (fun y G h=>?_) fun y G h=>?_;unfold qF at *
   cases down<;>simp at *<;>omega
   have:=E y G
   unfold qF pV at *
   cases down<;>simp at *<;>omega
   have:=E y G
   unfold qF pV at *
   cases down<;>simp at *<;>omega
  have R:((putAt (pV (jR x) down) x out).map jR++r.map jR).Nodup:=(by refine (List.Perm.nodup_iff ?_).2 U;rw[xO];exact ((u.map jR).append_right _).trans perm_middle.symm);obtain⟨V,h2⟩:=qlJ (l:=r) R J;exact⟨V,h2.trans ((u.append_right _).trans perm_middle.symm)⟩
def qnz{l:List Mv}{i:jg}{frm to:Int}{down:Bool}:(jW l i frm to down).length<=l.length:=by
 have:∀(k h:List Mv),(k.foldl (fun h x=>putAt (pV (jR x) down) x h) h).length=h.length+k.length:=by
  intro k;induction k with
  | nil=>intro h;rfl
  | cons x k ih=>intro h;rw[foldl_cons,ih,qnU.length_eq,yI,yI];omega
 unfold jW;rw[this,xK,xS];exact length_filter_le _ _
def qsW{L:fR}{l:List Mv}{i:jg}{frm to:Int}{down:Bool}(h:mo rS L l)(hi:lq i)(hf:lg frm)(ht:lg to): gF down (gg i frm) (gg i to) L=(jW l i frm to down).map mU/\∀m∈jW l i frm to down,m.1=i/\lg (jR m)/\lq m.2.2:=by
 have ok:∀x∈l,lq x.1/\lg (jR x):=fun x u=>⟨(h.2 x u).1.1,qe (h.2 x u).1.2⟩;have hL:(L.filter (um (gg i frm) (gg i to))).Perm ((l.filter (kY i frm to)).map mU):=by
  have:=h.1.perm.filter (um (gg i frm) (gg i to))
  refine this.trans ?_;rw[filter_map];have:l.filter (um (gg i frm) (gg i to)∘fun a=>(rS.g (rS.key a),rS.val a))=l.filter (kY i frm to):=filter_congr fun x u=>qzr hi (ok x u).1 hf ht (ok x u).2;rw[this];exact .refl _
 have hS:(L.filter (um (gg i frm) (gg i to))).Pairwise fun x y=>fE x.1 y.1:=by
  have:=h.1.sort
  unfold fg fL dP at this;exact (pairwise_map.1 this).sublist filter_sublist
 have G:∀x∈l.filter (kY i frm to),x.1=i/\lg (jR x)/\lq x.2.2:=fun x u=>⟨(zC (mem_filter.1 u).2).1,(ok x (mem_filter.1 u).1).2,(h.2 x (mem_filter.1 u).1).2⟩;have ab:((l.filter (kY i frm to)).map jR).Nodup:=(by have hk:(l.map ot).Nodup:=h.nodup;have R:((l.filter (kY i frm to)).map ot).Nodup:=hk.sublist (filter_sublist.map _);have e:(l.filter (kY i frm to)).map ot=((l.filter (kY i frm to)).map jR).map fun n=>(i,n):=(by rw[map_map];exact map_congr_left fun x u=>Prod.ext (G x u).1 rfl);rw[e] at R;exact R.of_map _ fun a b h e=>h (by rw[e]));obtain⟨q1,q2⟩:=qlJ (down:=down) (l:=l.filter (kY i frm to)) (out:=[]) (oP ab) .nil;rw[xI] at q2;have hR:((jW l i frm to down).map mU).Perm ((l.filter (kY i frm to)).map mU):=q2.map _;have E:∀r∈jW l i frm to down,r.1=i/\lg (jR r)/\lq r.2.2:=fun r hr=>G r (q2.mem_iff.1 hr);have lt:∀a b:Mv,a.1=i->b.1=i->lg (jR a)->lg (jR b)->jR a<jR b->fE (mU a).1 (mU b).1:=fun a b ea eb I J h=>by unfold mU;rw[ea,eb];exact (CI I J rfl).2 (.inr ⟨rfl,h⟩)
 have U:∀a b:Key×Key,fE a.1 b.1->fE b.1 a.1->a=b:=fun a b h1 h2=>absurd h2 (sA h1);refine⟨?_,E⟩;unfold gF kU;cases down with
 | false=>
  rw[if_neg oM];refine List.Perm.eq_of_pairwise (le:=fun x y=>fE x.1 y.1) (fun a b _ _=>U a b) hS (pairwise_map.2 (List.Pairwise.imp_of_mem (fun {a b} I J V=>?_) q1)) (hL.trans hR.symm);exact lt a b (E a I).1 (E b J).1 (E a I).2.1 (E b J).2.1 (by unfold qF at V;simpa using V)
 | true=>
  rw[if_pos rfl];refine List.Perm.eq_of_pairwise (le:=fun x y=>fE y.1 x.1) (fun a b _ _ h1 h2=>U a b h2 h1) (pairwise_reverse.2 hS) (pairwise_map.2 (List.Pairwise.imp_of_mem (fun {a b} I J V=>?_) q1)) (((reverse_perm _).trans hL).trans hR.symm);exact lt b a (E b J).1 (E a I).1 (E b J).2.1 (E a I).2.1 (by unfold qF at V;simpa using V)
end
section
open Go Go.ChangeShapes Go.WideShapes Go.ChangeAt Go.RowKit Go.Pt
def Cs:List Cell->List Value->Prop
 | [],[]=>True
 | c::h,v::vs=>(∃x:c.El,v=c.mk x/\tE c x)/\Cs h vs
 | _,_=>False
def Cs.tl:∀ {a b:List Cell} {u v:List Value},Cs a u->Cs b v->Cs (a++b) (u++v)
 | [],b,[],v,_,h=>h
 | c::a,b,x::u,v,h,g=>⟨h.1,Cs.tl h.2 g⟩
 | [],_,_::_,_,h,_=>h.elim
 | _::_,_,[],_,h,_=>h.elim
def Cs.split:∀ {a b:List Cell} {vs:List Value},Cs (a++b) vs->∃u v,vs=u++v/\Cs a u/\Cs b v
 | [],b,vs,h=>⟨[],vs,rfl,trivial,h⟩
 | c::a,b,x::vs,h=>by obtain⟨u,v,e,E,G⟩:=Cs.split h.2;exact⟨x::u,v,by rw[e];rfl,⟨h.1,E⟩,G⟩
 | _::_,_,[],h=>h.elim
def Cs.hl:∀ {cs:List Cell} {vs:List Value},Cs cs vs->∃x:HL cs,vs=HL.mk cs x/\jV cs x
 | [],[],_=>⟨(),rfl,trivial⟩
 | [c],[v],h=>by obtain⟨x,u,E⟩:=h.1;exact⟨x,by rw[u];rfl,E⟩
 | c::G::cs,v::vs,h=>by obtain⟨x,u,E⟩:=h.1;obtain⟨y,I,J⟩:=Cs.hl (cs:=G::cs) h.2;exact⟨(x,y),by rw[u,I];rfl,E,J⟩
 | [],_::_,h=>h.elim
 | [_],[],h=>h.elim
 | [_],_::_::_,h=>h.2.elim
 | _::_::_,[],h=>h.elim
def sF (P:Program) (f:TypeId->Option (List Cell)):Nat->List Field->Option (List Cell)
 | _,[]=>some []
 | k,x::h=>bif Nat.beq x.offset k then match f x.type with
  | some a=>bif Nat.beq (P.cellsOf x.type) a.length then (sF P f (k+a.length) h).map (a++·) else none
  | none=>none else none
def tT (P:Program):Nat->TypeId->Option (List Cell)
 | 0,_=>none
 | d+1,t=>match P.underlying t with
  | some (.int k)=>some [.int k]
  | some .bool=>some [.bool]
  | some (.struct u)=>match sF P (tT P d) 0 u.toList with
   | some h=>bif Nat.beq (P.cellsOf t) h.length then some h else none
   | none=>none
  | _=>none
section
variable {H:Type} {enc:TypeId×Value->H} {P:Program} {W:World} {base:Nat} {spare:Nat->Bool} {held:Bool}
def qq8{f:TypeId->Option (List Cell)}{cells:List Value}(J:∀t cs,f t=some cs->∀n vs y,DataW.trod enc P W base spare held n t vs=some y->Cs cs vs):∀ {u:List Field} {k:Nat} {cs:List Cell},sF P f k u=some cs-> (∀x∈u,∃n y,DataW.trod enc P W base spare held n x.type ((cells.drop x.offset).take (P.cellsOf x.type))=some y)->Cs cs ((cells.drop k).take cs.length)
 | [],k,cs,h,_=>by cases h;exact trivial
 | x::u,k,cs,h,R=>by
  unfold sF at h;cases E:Nat.beq x.offset k with
  | false=>rw[E] at h;cases h
  | true=>
   rw[E] at h;cases G:f x.type with
   | none=>rw[G] at h;cases h
   | some a=>
    rw[G] at h;dsimp only [_root_.cond_true] at h;cases I:Nat.beq (P.cellsOf x.type) a.length with
    | false=>rw[I] at h;cases h
    | true=>
     rw[I] at h;obtain⟨b,V,rfl⟩:=yT.1 h;have ih:=qq8 (cells:=cells) J V fun z hz=>R z (zN _ hz);obtain⟨n,y,U⟩:=R x List.mem_cons_self;rw[yW E,yW I] at U;rw[zF,List.take_add,xD];exact (J _ _ G _ _ _ U).tl ih
def qq9:∀(d:Nat) (t:TypeId) (cs:List Cell),tT P d t=some cs->∀n vs y,DataW.trod enc P W base spare held n t vs=some y->Cs cs vs
 | 0,_,_,h,_,_,_,_=>nomatch h
 | d+1,t,cs,h,n,vs,y,u=>by
  unfold tT at h;split at h
  ·next k hu=>
   cases h;obtain⟨m,E,_,U⟩:=DataW.trod_int hu u;rw[E];exact⟨⟨m,rfl,qAh U⟩,trivial⟩
  ·next hu=>
   cases h;obtain⟨m,E,_⟩:=DataW.trod_bool hu u;rw[E];exact⟨⟨m,rfl,trivial⟩,trivial⟩
  ·next fs hu=>
   split at h
   ·next cs' hd=>
    cases G:Nat.beq (P.cellsOf t) cs'.length with
    | false=>rw[G] at h;cases h
    | true=>
     rw[G] at h;cases h;obtain⟨V,m,_,_,J,aa,hf⟩:=DataW.trod_struct hu u
     have:=qq8 (cells:=vs) (qq9 d) hd fun x hx=>by obtain⟨i,hi,rfl⟩:=List.getElem_of_mem hx;have I:i<fs.size:=(oP hi);have R:=hf i fs[i] (by simp[I]);rw[zA (show i<V.length by omega)] at R;exact⟨_,_,by simpa using R⟩
     rw[xF,zS (by have:=yW G;omega)] at this;exact this
   cases h
  cases h
def uh (o:Ov):List Value:=[.b (rX o)]++(HL.mk kL (Aq o)++(HL.mk pq (vF o).1++([.int .u64 (vF o).2.1,.int .u64 (vF o).2.2]++([.int .u64 (tM o).1,.int .u64 (tM o).2,.b (yq o)]++(HL.mk jd (qz o)++(HL.mk mz (zp o)++[.int .u64 (uu o)]))))))
abbrev opC:List Cell:=[.b]++(kL++(pq++(dg++([.int .u64,.int .u64,.b]++(jd++(mz++[.int .u64]))))))
def qtS(o:Ov):(uh o).length=52:=rfl
def qAl{vs:List Value}(h:Cs opC vs):∃o:Ov,vs=uh o/\rD o:=by obtain⟨u1,v1,rfl,E,h⟩:=Cs.split (a:=[.b]) h;obtain⟨u2,v2,rfl,G,h⟩:=Cs.split (a:=kL) h;obtain⟨u3,v3,rfl,I,h⟩:=Cs.split (a:=pq) h;obtain⟨u4,v4,rfl,J,h⟩:=Cs.split (a:=dg) h;obtain⟨u5,v5,rfl,R,h⟩:=Cs.split (a:=[.int .u64,.int .u64,.b]) h;obtain⟨u6,v6,rfl,U,h⟩:=Cs.split (a:=jd) h;obtain⟨u7,v7,rfl,V,h8⟩:=Cs.split (a:=mz) h;obtain⟨d,rfl,fd⟩:=E.hl;obtain⟨a,rfl,fa⟩:=G.hl;obtain⟨t,rfl,ft⟩:=I.hl;obtain⟨⟨p0,p1⟩,rfl,fp⟩:=J.hl;obtain⟨⟨i0,i1,x⟩,rfl,u⟩:=R.hl;obtain⟨e,rfl,fe⟩:=U.hl;obtain⟨r,rfl,fr⟩:=V.hl;obtain⟨n,rfl,fn⟩:=h8.hl;exact⟨(d,a,(t,(p0,p1)),(i0,i1),x,e,r,n),rfl,⟨fd,fa,⟨ft,fp⟩,⟨u.1,u.2.1⟩,u.2.2,fe,fr,fn⟩⟩
end
section
section
variable {H:Type} {enc:TypeId×Value->H} {P:Program} {W:World} {base:Nat} {spare:Nat->Bool} {held:Bool}
abbrev OPT:TypeId:=81
def qyW:∀n u y,DataW.trod enc Tryz.prog W base spare held n OPT u=some y->∃o:Ov,u=uh o/\rD o:=fun n u y h=>qAl (qq9 5 OPT opC oK n u y h)
end
end
end
section
open Go Go.Pt List
open Go.IntKind (wrap)
open Classical
variable {K:Bool->Prop}
def qz6{P:Program}{t:TypeId}{x y:Operand}{cs ds:Array Value}{w:World}(d:Nat)(I:d<=10000)(r:Bool)(h:sP P d t (.agg cs) (.agg ds)=some r)(E:P.eqGuardType P.depth t=false)(k:K (!r)): eX [gX.one Cell.bool] (fun w'=>(do eqGuard .neq t x y (.agg cs) (.agg ds);binOp .neq t (.agg cs) (.agg ds):Sem Value).run P w') w K:=by have u:=Ce d t _ _ r h (10000-d) w;rw[show d+(10000-d)=10000 by omega] at u;have G:(binOp .neq t (.agg cs) (.agg ds)).run P w=.ok (.bool (!r)) w:=tt (P:=P) true u oL oL oL oL;refine ru (ts:=[gX.one Cell.bool]) (!r) ?_ k;show ((do eqGuard .neq t x y (.agg cs) (.agg ds);binOp .neq t (.agg cs) (.agg ds):Sem Value).run P w)=Result.ok (Value.bool (!r)) w;simp[eqGuard,E,G]
attribute [local irreducible] ld dK iF mK iY fq st new idx i3 ji fy jk iL lN gU nn call dU inv run eX iD join loop held ext jQ eu mr ma mv IntKind.wrap
def qAD{a b:jg}{x y:Operand}{w:World}(k:K (!decide (a=b))): eX [gX.one Cell.bool] (fun w'=>(do eqGuard .neq v9 x y (df a.1 a.2) (df b.1 b.2);binOp .neq v9 (df a.1 a.2) (df b.1 b.2):Sem Value).run Tryz.prog w') w K:=by have e:sP Tryz.prog 2 v9 (df a.1 a.2) (df b.1 b.2)=some (bif a.1==b.1 then (bif a.2==b.2 then true else false) else false):=oK;have h:(bif a.1==b.1 then (bif a.2==b.2 then true else false) else false)=decide (a=b):=(by obtain⟨u,E⟩:=a;obtain⟨G,I⟩:=b;dsimp only;by_cases h0:u=G;by_cases h1:E=I;simp[h0,h1];simp[h0,h1];simp[h0]);rw[h] at e;exact qz6 2 oM _ e oK k
end
section
open Go Go.Pt List
open Go.IntKind (wrap)
open Classical
variable {K:Bool->Prop} {cs:Array Value}
def ES{P:Program}{f:TypeId->Value->Value->Option Bool}{E:Array Value}(u:∀t x r,f t x x=some r->r=true):∀ {G:List Field} {r:Bool},qa P f E E G=some r->r=true
 | [],r,h=>by simp[qa] at h;exact h
 | x::G,r,h=>by simp only[qa] at h;split at h;split at h;rename_i a b J I;rw[J] at I;cases I;split at h;rename_i V q R U;cases h;rw[u _ _ _ R,ES u U];rfl;cases h;cases h;exact ES u h
def qpq{P:Program}{f:TypeId->Value->Value->Option Bool}{e n:Nat}{u:Array Value}(E:∀t x r,f t x x=some r->r=true):∀ {is:List Nat} {r:Bool},qU P f e n u u is=some r->r=true
 | [],r,h=>by simp[qU] at h;exact h
 | i::is,r,h=>by simp only[qU] at h;split at h;rename_i a b I G;rw[I] at G;cases G;split at h;rename_i U q J R;cases h;rw[E _ _ _ J,qpq E R];rfl;cases h;cases h
def Cz{P:Program}:∀(d:Nat) (t:TypeId) (x:Value) (r:Bool),sP P d t x x=some r->r=true
 | 0,_,_,_,h=>nomatch h
 | d+1,t,x,r,h=>by
  unfold sP at h;split at h
  ·next heq=>cases heq;cases h;exact beq_self_eq_true _
  ·next heq=>cases heq;simp at h;exact h
  ·next heq=>cases heq;cases h;exact beq_self_eq_true _
  ·next heq=>
   cases heq;cases u:P.stoodInHeld t with
   | true=>rw[u] at h;cases h
   | false=>rw[u] at h;exact ES (Cz d) h
  ·next heq=>
   cases heq;next _ e _ _=>
   cases u:ng P e with
   | false=>rw[u] at h;cases h
   | true=>rw[u] at h;exact qpq (Cz d) h
  cases h
def qAC{P:Program}{t:TypeId}{x y:Operand}{w:World}(d:Nat)(E:d<=10000)(h:(sP P d t (.agg cs) (.agg cs)).isSome=true)(G:P.eqGuardType P.depth t=false)(k:K false): eX [gX.one Cell.bool] (fun w'=>(do eqGuard .neq t x y (.agg cs) (.agg cs);binOp .neq t (.agg cs) (.agg cs):Sem Value).run P w') w K:=by
 obtain⟨r,u⟩:=Option.isSome_iff_exists.1 h
 have:=Cz _ _ _ _ u
 subst this;exact qz6 d E true u G k
def eqS{P:Program}{t:TypeId}{x y:Operand}{w:World}(d:Nat)(E:d<=10000)(h:(sP P d t (.agg cs) (.agg cs)).isSome=true)(G:P.eqGuardType P.depth t=false)(k:K true): eX [gX.one Cell.bool] (fun w'=>(do eqGuard .eql t x y (.agg cs) (.agg cs);binOp .eql t (.agg cs) (.agg cs):Sem Value).run P w') w K:=by
 obtain⟨r,u⟩:=Option.isSome_iff_exists.1 h
 have:=Cz _ _ _ _ u
 subst this;exact E6 d E true u G k
end
section
open Go Go.Pt List
open Go.IntKind (wrap)
open Classical
attribute [local irreducible] ld dK iF mK iY fq st new idx i3 ji fy jk iL lN gU nn call dU inv run eX iD join loop held ext jQ eu mr ma mv IntKind.wrap
variable {down:Bool}
section
variable {w w' w1:World} {Y F F':List Nat} {sb pb c:Nat} {b:Bk}
def qL.start{t:Nat}{frm to:Key}{sf u:Sl}{K:Option Addr->WP}(h:qL w1 Y sb pb F c b)(f:Fr [] w1 w)(E:t<8)(hl:b.size<=90000)(hf:eE [] w sf frm)(G:eE [] w u to)(I:frm.length<=1000000)(J:to.length<=1000000)(R:eH frm)(U:eH to)(kk:∀T,Hb T b->∀cb C w',qX w w' Y C cb (gF down frm to (T t))->(∀x∈C,w.heap.size<=x)->Fr [] w w'->K (pW cb) w'): cW 37 [dF pb,.i t,sf.v,u.v,.bool down] dw w K:=by obtain⟨dbk,FD,Fp,D,M,Fo,rfl,hS,ai,aj,hb,hc,hj⟩:=h;have h1:=hS.q7 f;have hs:=hb.size;have al:=yw (F:=Fo) E;have hk:jr Fo=b.size:=(by unfold jr;exact hs);have V:=wQ E;exact qqY (S:=[]) (k:=(kv t).1) (v:=(kv t).2) (L:=(Fo t).1) (P:=(Fo t).2) (h1.tw.up (by omega)) V.1 (.inr ⟨oJ,h1.st.J0.J2 t E⟩) oJ hf G I J R U fun cb w' st SB zs hC hL f2=>kk _ hb cb (cb::SB) w' ⟨dbk,pb,FD,D,Fp,M,_,_,frm,to,down,st,SB,zs,hC,hL,rfl⟩ hC.new f2
end
section
abbrev DN:FuncId:=39
abbrev E8:List Cell:=[.int .u64,.int .u64,.int .u64,.b]
structure ry (W:World) (C:List Nat) (v:Value) (side:Int) (l:List Mv):Prop where
 ex:∃ (w0:World) (cb r r3:Nat) (T T3:TypeId),v=.func (.func DN) #[] #[dF r,dF r3]/\W.heap[r]?=some (.cells #[dF cb] T (0,0))/\W.heap[r3]?=some (.cells #[.b side] T3 (0,0))/\qX w0 W [] C cb (l.map mU)/\r∉C/\r3∉C
 ok:∀ m∈l,lq m.1/\lg (jR m)/\lq m.2.2
section
variable {w0 W w w':World} {Y F C:List Nat} {sb pb c:Nat} {b:Bk} {v:Value} {side:Int} {l:List Mv}
def ry.q7(h:ry W C v side l)(f:Fr [] W w'):ry w' C v side l:=by
 obtain⟨⟨w0,cb,r,E,T,G,e,I,J,R,U,V⟩,ok⟩:=h;have u:∀ {b:Nat} {o:Obj},W.heap[b]?=some o->w'.heap[b]?=some o:=fun h=>by rw[f.block _ (eV h) fun h=>nomatch h];exact h
 exact⟨⟨w0,cb,r,E,T,G,e,u I,u J,R.q7 f,U,V⟩,ok⟩
def ry.lt(h:ry W C v side l):∀x∈C,x<W.heap.size:=by obtain⟨⟨w0,cb,r,E,T,G,e,I,J,u,R,U⟩,V⟩:=h;exact u.lt.1
def ry.next{K:(Int×Int×Int×Int)×Bool->WP}(h:ry W C v side l)(k0:l=[]->∀E w',ry w' E v side []->Fr C W w'->(∀x∈E,x∈C\/W.heap.size<=x)->K ((0,0,0,0),false) w')(k1:∀m q,l=m::q->∀E w',ry w' E v side q->Fr C W w'->(∀x∈E,x∈C\/W.heap.size<=x)->K ((jR m,m.2.2.1,m.2.2.2,side),true) w'):dU Tryz.prog v [] [.agg E8,.one .bool] W K:=by
 obtain⟨⟨w0,cb,r,V,T,T3,rfl,hr,aa,hM,nr,ab⟩,af⟩:=h;refine sV (lb:=[dF r,dF V]) rfl oK (qgj (cap0:=(dh r)) (cap1:=(dh V)) ?_);have nh:∀ {x:Nat},x∉([]:List Nat):=fun h=>nomatch h;refine oB (oE [] W) fun J w2 e1 f1 o=>iI (o.nW hr nh) (pW cb) rfl ?_;have l1:=eV (o.at (i:=0) rfl);have z1:=f1.size;have ap:=eV hr;have R:=eV aa;have ag:qX w0 w2 [J] C cb (l.map mU):=hM.q8 f1 (fun x u=>by rw[zE.1 u,e1];exact .inr (zM _)) fun x u=>by rw[zE.1 u];exact l1
 obtain⟨lC,lY⟩:=ag.lt;have n1:=(lY J oL).2;have ah:∀ {E:List Nat} {I w9:World} {q:List Mv},qX w0 I [J] E cb (q.map mU)->Fr C w2 I->(∀x∈E,x∈C\/w2.heap.size<=x)->Fr [J] I w9->(∀m∈q,m∈l)->ry w9 E (.func (.func DN) #[] #[dF r,dF V]) side q/\Fr C W w9/\∀x∈E,x∈C\/W.heap.size<=x:=fun {E I w9 q} G U n3 f9 hq=>by have aq:Fr C W I:=(f1.mono fun _ h _=>nomatch h).trans U;have fW:Fr C W w9:=aq.j8 f9 fun x u=>.inr (by rw[zE.1 u,e1];exact zM _);exact⟨⟨⟨w0,cb,r,V,T,T3,rfl,by rw[fW.block _ ap nr];exact hr,by rw[fW.block _ R ab];exact aa,G.q8 f9 (fun _ h=>nomatch h) (fun _ h=>nomatch h),fun hm=>(n3 r hm).elim nr fun h=>oJ,fun hm=>(n3 V hm).elim ab fun h=>oJ⟩,fun m hm=>af m (hq m hm)⟩,fW,fun x u=>(n3 x u).imp id (zL z1)⟩
 have ai:∀b∈fh [(J,Obj.cells cZ 51 (0,0))],b∉C:=fun x u=>by rw[show x=J from zE.1 u];exact n1
 refine ag.next (fun e E I G U n3=>?_) fun x q e ks vs E I b1 b2 G U n3=>?_
 have o:=pG o U ai;refine oB o fun r6 w4 _ _ o=>o.st' 0 rfl _ (lZ rfl) rfl (zM _) fun w5 o _=>cond_true rfl (o.st' 1 rfl _ (lZ rfl) rfl (zM _) fun w6 o _=>oC o 1 rfl (0,0,0,0) rfl ?_);obtain⟨q1,q2,q3⟩:=ah (q:=[]) G U (fun x u=>.inl (n3 x u)) o.fr fun _ h=>nomatch h;exact k0 (map_eq_nil_iff.1 e) E w6 q1 q2 q3;obtain⟨m,l',rfl,rfl,rfl⟩:=map_eq_cons_iff.1 e;obtain⟨m1,m2,m3⟩:=af m mem_cons_self;have o:=pG o U ai;have aj:I.heap[V]?=some (.cells #[.b side] T3 (0,0)):=(by rw[U.block _ oJ ab,f1.block _ R nh];exact aa);have ak:V∉[J]:=fun hm=>by have:=zE.1 hm;omega
 refine oB o fun r6 w4 _ _ o=>o.st' 0 rfl _ (lZ rfl) rfl (zM _) fun w5 o f5=>cond_false rfl (oA o 0 rfl ks rfl ?_);have nb:∀ {s:Sl} {z:Key} {w5:World},kE w2 I s z->Fr [J] I w5->eE [] w5 s z:=fun h f=>(ed.q8 (h.to (S:=[J]) fun x u=>by rw[zE.1 u];exact l1) f fun x u=>.inl u).j6 fun _ h=>nomatch h;refine qvy (nb b1 o.fr) m1.ok m2 fun w6 f6=>oB (o.q7 f6) fun aT w7 _ f7 o=>o.st' 0 rfl _ (lZ rfl) rfl (zM _) fun w8 o f8=>oA o 1 rfl vs rfl<|Gu (x:=m.2.2) (nb b2 o.fr) m3.ok fun w9 f9=>oB (o.q7 f9) fun aU wa _ fa o=>o.st' 0 rfl _ (lZ rfl) rfl (zM _) fun wb o fb=>oC o 0 rfl m.2.2 rfl (iI (o.nW aj ak) side rfl (o.st' 3 rfl _ (lZ rfl) rfl (zM _) fun wc o _=>oC o 3 rfl (jR m,m.2.2.1,m.2.2.2,side) rfl ?_));obtain⟨q1,q2,q3⟩:=ah G U n3 o.fr fun x u=>zN _ u;exact k1 m l' rfl E wc q1 q2 q3
def tF (b:Bk) (side:Int):List Mv:=if side=1 then b.mJ else b.mO
def qvJ{i0 I frm to:Int}{K:Value->WP}(h:SB w Y sb F c b)(hl:b.size<=90000)(hi:lq (i0,I))(hf:lg frm)(ht:lg to)(kk:∀v C w',ry w' C v side (jW (tF b side) (i0,I) frm to down)->(∀x∈C,w.heap.size<=x)->Fr [] w w'->K v w'): cW 12 [dF sb,df i0 I,.b side,.int .u64 frm,.int .u64 to,.bool down] dr w K:=by
 refine qiR ?_;obtain⟨pb,h⟩:=h;refine oB (oE [] w) fun r1 w1 e1 f1 o=>oB o fun r3 w2 e3 f2 o=>sS ((if side=1 then 4 else 5:Nat):Int) w2 (fun M V=>oA o 0 rfl side rfl (dV (fun hc=>?_) fun hc=>?_)) ?_;rw[if_pos (yP.1 hc)] at V;exact V;rw[if_neg (zR.1 hc)] at V;exact V;have ai:(if side=1 then 4 else 5:Nat)<8:=(by split<;>decide);have ar:∀T,Hb T b->mo rS (T (if side=1 then 4 else 5:Nat)) (tF b side):=fun T q=>by unfold tF;split;exact q.mJ;exact q.mO
 generalize (if side=1 then 4 else 5:Nat)=t at ai ar;have o:=o.drew;have f2:=o.fr;generalize w2.drew=w2 at o f2;have aW:∀ {w':World} {b:Nat} {o:Obj},w2.heap[b]?=some o->Fr [] w2 w'->w'.heap[b]?=some o:=fun h f=>by rw[f.block _ (eV h) fun h=>nomatch h];exact h
 have aL:∀ {w':World} {b au:Nat} {cs:Array Value} {T:TypeId} {v:Value},w'.heap[b]?=some (.cells cs T (0,0))->cs[au]?=some v->w'.cell? (dh b au)=some v:=fun h hx=>by rw[jq h];exact hx
 have ad:∀n,(gg (i0,I) n).length=24:=fun n=>vQ _ _;have mk:∀ {w3 w5:World} {cb r:Nat} {C:List Nat} {T:Nat->fR} {T1 T3:TypeId},Hb T b->qX w3 w5 [] C cb (gF down (gg (i0,I) frm) (gg (i0,I) to) (T t))->w5.heap[r]?=some (.cells #[dF cb] T1 (0,0))->w5.heap[r3]?=some (.cells #[.b side] T3 (0,0))->r∉C->r3∉C->ry w5 C (.func (.func DN) #[] #[dF r,dF r3]) side (jW (tF b side) (i0,I) frm to down):=fun {w3 w5 cb r C T T1 T3} hb V h1 h2 n1 n2=>by have hr:=qsW (down:=down) (ar T hb) hi hf ht;rw[hr.1] at V;exact⟨⟨w3,cb,r,r3,T1,T3,rfl,h1,h2,V,n1,n2⟩,fun m hm=>by have:=hr.2 m hm;exact⟨by rw[this.1];exact hi,this.2⟩⟩
 have ab:∀ {w3:World} {r:Nat} {s1 s2:Sl} {T1 T2 T3:TypeId},dQ [] w w3 [(r,.cells #[.pointer none] T1 (0,0)),(r3,.cells #[.b side] T2 (0,0)),(r1,.cells #[.int .u64 i0,.int .u64 I] T3 (0,0))]->eE [] w3 s1 (gg (i0,I) frm)->eE [] w3 s2 (gg (i0,I) to)->
   cW 37 [dF pb,.i t,s1.v,s2.v,.bool down] dw w3 fun (p:Option Addr) w4=>Pt.st (dh r) [.pointer p] w4 fun w5=>K (.func (.func DN) #[] #[dF r,dF r3]) w5:=fun {w3 r s1 s2 T1 T2 T3} o n1 n2=>by
  refine qL.start (h.J0 o) (.refl _ _) ai hl n1 n2 (by rw[ad];decide) (by rw[ad];decide) (wX _ _) (wX _ _) fun T hb cb C w4 V nC f4=>(o.q7 f4).st' 0 rfl _ (lZ rfl) rfl (zM _) fun w5 o5 f5=>?_;obtain⟨lC,lY⟩:=V.lt;exact kk _ C w5 (mk hb (V.q8 (f5.mono fun x hx _=>by rw[zE.1 hx];simp[fh]) (fun _ h=>nomatch h) fun _ h=>nomatch h) (o5.at (i:=0) rfl) (o5.at (i:=1) rfl) (lY r (by simp[fh])).2 (lY r3 (by simp[fh])).2) (fun x hx=>zL o.fr.size (nC x hx)) o5.fr
 refine⟨?_,?_,?_,?_⟩;refine h.rr f2 (oC o 1 rfl (i0,I) rfl (oC o 1 rfl (i0,I) rfl (tq fun ak al J u=>jU ((o.q7 u).cells 1 rfl rfl) (h.held (f2.trans u)) (tq fun am an R E=>ig (h.held ((f2.trans u).trans E)) ?_))));have o:=(o.q7 u).q7 E;refine qL.start (h.J0 o) (.refl _ _) ai hl (J.rd.q7 E) R.rd (by rw[ad];decide) (by rw[ad];decide) (wX _ _) (wX _ _) fun T hb cb C aF V nC aG=>oB (o.q7 aG) fun ao ap ag U G=>l9 (G.cells 2 rfl rfl) (G.cells 2 rfl rfl) (h.held G.fr) (G.st' 0 rfl _ (lZ rfl) rfl (zM _) fun aw o5 aH=>?_);obtain⟨lC,lY⟩:=V.lt;have aI:Fr [] aF aw:=U.j8 aH fun x hx=>.inr (by rw[zE.1 hx,ag];exact zM _);exact kk _ C aw (mk hb (V.q8 (aI.mono fun _ h _=>nomatch h) (fun _ h=>nomatch h) fun _ h=>nomatch h) (o5.at (i:=0) rfl) (o5.at (i:=1) rfl) (fun hm=>by have:=lC _ hm;omega) (lY r3 (by simp[fh])).2) (fun x hx=>zL o.fr.size (nC x hx)) o5.fr;refine h.rr f2 (oC o 1 rfl (i0,I) rfl (oC o 1 rfl (i0,I) rfl (tq fun ak al J u=>jU ((o.q7 u).cells 1 rfl rfl) (h.held (f2.trans u)) (tq fun am an R E=>ig (h.held ((f2.trans u).trans E)) ?_))));refine oB ((o.q7 u).q7 E) fun ao ap ag U G=>l9 (G.cells 2 rfl rfl) (G.cells 2 rfl rfl) (h.held G.fr) (ab G ((J.rd.q7 E).q7 U) (R.rd.q7 U));refine h.rr f2 (oC o 1 rfl (i0,I) rfl (oC o 1 rfl (i0,I) rfl (tq fun ak al J u=>jU ((o.q7 u).cells 1 rfl rfl) (h.held (f2.trans u)) ?_)));refine oB (o.q7 u) fun ao ap ag U G=>l9 (G.cells 2 rfl rfl) (G.cells 2 rfl rfl) (h.held G.fr) (tq fun am an R E=>ig (h.held (G.fr.trans E)) (ab (G.q7 E) ((J.rd.q7 U).q7 E) R.rd));refine h.rr f2 (oC o 1 rfl (i0,I) rfl (oC o 1 rfl (i0,I) rfl (oB o fun ao ap ag U G=>l9 (G.cells 2 rfl rfl) (G.cells 2 rfl rfl) (h.held G.fr) (tq fun ak al J u=>jU ((G.q7 u).cells 2 rfl rfl) (h.held (G.fr.trans u)) (tq fun am an R E=>ig (h.held ((G.fr.trans u).trans E)) (ab ((G.q7 u).q7 E) (J.rd.q7 E) R.rd))))))
end
end
def qyS{α:Type}{enc:α->List Value}{k:Nat}{w:World}{s:Sl}{l:List α}{B:List Nat}(u:∀x,(enc x).length=k)(h:eP enc k w s l B){hi:Int}(n:Nat){K:Sl->Prop}(G:hi=n)(I:n<=l.length)(R:∀U,eP enc k w U (l.take n) B->K U):fy s none (some hi) none k K:=by
 subst G;rcases h with ⟨rfl,rfl,rfl⟩|⟨b,o,cs,T,rfl,rfl,ha,hb,h5,h6,h7,h8⟩;have:n=0:=(oP I);subst this;exact vG ⟨Int.le_refl _,Int.le_refl _⟩ (R _ (.inl ⟨rfl,rfl,rfl⟩))
 ·refine vG ⟨oJ,oJ⟩ ?_;rw[zJ];have E:(l.take n).length=n:=(by rw[yL];exact xR I);refine R _ (.inr ⟨b,0,cs,T,rfl,rfl,ha,hb,E.symm,by dsimp only;omega,h7,?_⟩);have J:n*k<=l.length*k:=Nat.mul_le_mul_right k I;have V:=congrArg (List.take (n*k)) h8;rw[take_take,xR J] at V;rw[E,V];conv=>lhs;rw[<- xE n l]
  rw[yQ,take_append_of_le_length (by rw[qs u,E];exact zM _)];exact zS (by rw[qs u,E];exact zM _)
def qvH{S:List Nat}{w:World}{sl:Sl}{l:List Mv}{i0 I frm to:Int}{K:Sl->WP}(h:ed jP 5 S w sl l)(aT:l.length<=100000)(kk:∀s B w',eP jP 5 w' s (jW l (i0,I) frm to down) B->Fr [] w w'->(∀x∈B,w.heap.size<=x)->K s w'): cW 13 [sl.v,df i0 I,.int .u64 frm,.int .u64 to,.bool down] di w K:=by
 refine qg5 ?_;obtain⟨j,hj,hz,ah,ai⟩:=qwi;unfold jW at kk;have aU:sl.len=l.length:=h.1;refine oB (oE [] w) fun r1 w2 _ f2 o=>oB (oE [] w2) fun r5 w3 e3 f3 o2=>?_;have aB:=h.q7 o.fr;have ext:∀n (hn:n<l.length),((l.take (n+1)).filter (kY (i0,I) frm to)).foldl (fun u x=>putAt (pV (jR x) down) x u) []=if kY (i0,I) frm to l[n] then putAt (pV (jR l[n]) down) l[n] (((l.take n).filter (kY (i0,I) frm to)).foldl (fun u x=>putAt (pV (jR x) down) x u) []) else ((l.take n).filter (kY (i0,I) frm to)).foldl (fun u x=>putAt (pV (jR x) down) x u) []:=fun n hn=>by rw[yG hn,xC,foldl_append];by_cases hc:kY (i0,I) frm to l[n]=true;rw[if_pos hc,filter_cons,if_pos hc];rfl;rw[if_neg hc,filter_cons,if_neg hc];rfl
 have len:∀n,(((l.take n).filter (kY (i0,I) frm to)).foldl (fun u x=>putAt (pV (jR x) down) x u) []).length<=n:=fun n=>by
  have:=qnz (l:=l.take n) (i:=(i0,I)) (frm:=frm) (to:=to) (down:=down)
  exact zL this (by rw[yL];omega)
 refine je (fun t w'=>∃n:Nat,∃B,t.2=n/\n<=l.length/\eP jP 5 w' t.1 (((l.take n).filter (kY (i0,I) frm to)).foldl (fun u x=>putAt (pV (jR x) down) x u) []) B/\Fr [] w2 w'/\∀x∈B,w2.heap.size<=x) (fun t _=>l.length-t.2.toNat) ⟨0,[r5],rfl,yX _,eP.none (o2.at (i:=0) rfl),f3,fun x E=>by rw[zE.1 E];omega⟩ ?_;rintro⟨s,q⟩ w7 ⟨n,B,hq,hn,G,f5,nB⟩ X hX;dsimp only at hq G⊢;subst hq;have o7:=o.q7 f5;have J:ed jP 5 S w7 sl l:=aB.q7 f5;apply cD<;>intro hc
 ·have V:n<l.length:=oJ;have E:=zA V;have ad:=ext n V;have aD:=len n;generalize l[n]=x at E ad;generalize ((l.take n).filter (kY (i0,I) frm to)).foldl (fun u x=>putAt (pV (jR x) down) x u) []=u at G ad aD;refine hU (fun s' w'=>∃B',eP jP 5 w' s' (((l.take (n+1)).filter (kY (i0,I) frm to)).foldl (fun u x=>putAt (pV (jR x) down) x u) []) B'/\Fr [] w2 w'/\∀x∈B',w2.heap.size<=x) ?_ fun s' w' ⟨B',b',f',n'⟩=>hX _ _ ⟨n+1,B',by dsimp only;rw[gq _ oJ];rfl,V,b',f',n'⟩ (by dsimp only;rw[gq _ oJ];omega);rw[ad];clear ad ext len;refine ed.uD (c:=.int .u64) J n 2 rfl E oM (y:=jR x) rfl ?_;have b7:=G;refine sS (!kY (i0,I) frm to x) w7.drew (fun M hM=>?_) ?_;have od:=o7.drew;refine ed.k6 (cl:=u2) J.drew n rfl E oM (y:=x.1) rfl (oC od 0 rfl (i0,I) rfl (qAD (a:=x.1) (b:=(i0,I)) ?_));unfold kY at hM;apply dV<;>intro G;rw[zU (fun h=>by rw[yA h.1] at G;cases G)] at hM;exact hM;have h1:x.1=(i0,I):=zC (oP G);apply dV<;>intro G
  have:=zC G
  rw[zU (fun h=>oJ)] at hM;exact hM
  have:=zB G
  rw[show decide (jR x>to) = !decide (x.1=(i0,I)/\frm<=jR x/\jR x<=to) by rw[<- decide_not,decide_eq_decide];exact⟨fun h1 h=>oJ,fun h=>by have:¬(jR x<=to):=fun h2=>h ⟨h1,oJ,h2⟩;omega⟩];exact hM;have g7:=(Fr.refl [] w7).drew;apply dV<;>intro ae;rw[if_neg (by rw[zT] at ae;rw[ae];decide)];exact⟨B,G.q7 g7,f5.trans g7,nB⟩;rw[if_pos (oP ae)];have b7:=G.q7 g7;have o7:=o7.q7 g7;have J:=J.q7 g7;have f5:=f5.trans g7;generalize w7.drew=w7 at b7 o7 J f5;have ag:s.len=u.length:=G.len;clear G;refine je (fun q w'=>∃a:Nat,q=a/\a<=u.length/\w'=w7/\∀y∈u.drop a,pV (jR x) down y=true) (fun q _=>q.toNat) ⟨u.length,by rw[ag],zM _,rfl,by rw[drop_length];exact fun y h=>nomatch h⟩ ?_;rintro q w8 ⟨a,rfl,ha,rfl,hp⟩ Y hY;refine sS (if h:a=0 then false else pV (jR x) down (u[a-1]' oJ)) w8 (fun M hM=>?_) ?_;apply dV<;>intro G;have h0:a≠0:=fun e=>by have:=zC G;omega
  rw[dif_neg h0] at hM;rw[gq _ oJ];exact ed.uD (c:=.int .u64) (j:=2) (b7.jw sH (S:=[]) fun _ _ h=>nomatch h) (a-1) oJ (zA oJ) oM rfl<|hM;have h0:a=0:=(by have:=zB G;omega);rw[dif_pos h0] at hM;exact hM;apply dV<;>intro R
  ·split at R;cases R;next h0=>
   rw[gq _ oJ];refine hY _ _ ⟨a-1,oJ,oJ,rfl,fun y hy=>?_⟩ oJ;rw[show u.drop (a-1)=u[a-1]' oJ::u.drop a by rw[zY oJ,show a-1+1=a by omega]] at hy;rcases zG.1 hy with rfl|hy;exact R;exact hp y hy
  have hA:putAt (pV (jR x) down) x u=u.take a++x::u.drop a:=by
   conv=>lhs;rw[<- xE a u]
   refine qx6 hp fun A' z e=>?_;have hz:z=u[a-1]'(by
     have:=congrArg List.length e
     rw[yL,zF,xM] at this;omega):=by
    have hl:=congrArg List.length e;rw[yL,zF,xM] at hl
    have:=congrArg (·[a-1]?) e
    simp only[xB,List.getElem?_append] at this;rw[iP,iN,show a-1-A'.length=0 by omega,zA oJ] at this;exact (yO this).symm
   have h0:a≠0:=fun h=>by subst h;simp at e
   rw[dif_neg h0] at R;rw[hz];exact R
  rw[hA];have z7:=f5.size;refine oB o7 fun a6 w9 e9 f9 o9=>?_;have R9:ed jP 5 [] w9 s u:=(b7.q7 f9).jw sH fun _ _ h=>nomatch h;refine ed.part R9 (lo:=some (a:Int)) (hi:=none) a u.length rfl (by rw[<- ag];rfl) ha (zM _) fun ba _ ar _=>?_;rw[xZ] at ar;refine Ar (e:=wj) (o9.at (i:=0) rfl) ar sH yi oK hj hz ah rfl (by rw[ai];decide) (by rw[yC];omega) fun aG au wa aH fa aI=>?_;have av:∀x∈au,w8.heap.size<=x:=fun x E=>(aI x E).elim (fun e=>by rw[e,e9];exact zM _) (zL f9.size);have U:Fr [] w8 wa:=f9.j8 fa fun x E=>.inr (by rw[zE.1 E];omega);refine qyS sH (b7.q7 U) a rfl ha fun bc aJ=>?_;have ga:=(Fr.refl [] wa).drew;refine ed.rf (J.q7 (U.trans ga)) n rfl E rfl (y:=(x.1.1,x.1.2,x.2.1,x.2.2.1,x.2.2.2)) rfl ?_;have lt:(u.take a).length=a:=(by rw[yL];exact xR ha);refine eP.push (e:=wj) (x:=x) (aJ.q7 ga) sH (yi x) oK hj hz ah rfl rfl (by rw[ai,lt];omega) oJ fun bd bf wb aK fb aw=>?_;have lB:∀x∈B,x<w8.heap.size:=fun x E=>b7.lt x E;have ab:eP jP 5 wb aG (u.drop a) au:=(aH.q7 ga).q8 fb fun x E h=>by have:=av x E;have:=lB x h;omega
  have ak:=ab.len;rw[yC] at ak;refine eP.j1 aK sH (e:=wj) oK hj hz ah rfl (uk (e':=wj) (ab.jw sH (S:=[]) fun _ _ h=>nomatch h) sH yi oK) ab.len ?_ ?_ fun bi aL wc ax fc aM _=>⟨aL,?_,?_,?_⟩;rw[zF,lt,xM,ak,ai];omega;rw[zF,lt,xM,ak];omega;rw[zV] at ax;exact ax;exact ((f5.trans U).trans ga).j8 fb (fun x E=>.inr (nB x E)) |>.j8 fc fun x E=>.inr ((aw x E).elim (nB x) fun h=>by have:=(U.trans ga).size;omega);exact fun x E=>(aM x E).elim (fun h=>(aw x h).elim (nB x) fun h=>by have:=(U.trans ga).size;omega) fun h=>by have:=(U.trans ga).size;have:=fb.size;omega
 have V:n=l.length:=oJ;subst V;rw[xZ] at G;exact kk s B w7 G ((o.fr).trans f5) fun x E=>zL o.fr.size (nB x E)
end
end Go.Proofs.YtpcmehldpoljfaaGreatDoor
namespace Go.Pt
section
open Go
end
end Go.Pt
namespace Go.Proofs.YtpcmehldpoljfaaGreatDoor
section
open Go Go.Pt List
open Classical
attribute [local irreducible] ld dK iF mK iY fq st new idx i3 ji fy jk iL lN gU nn call dU inv run eX iD join loop held ext jQ eu mr ma mv IntKind.wrap
structure Hq (yield:Value) (Yc:List Nat) (wb:World) (L:List (HL mz)) (I:Nat->WP) (E:WP):Prop where
 stay:∀ i W W' Z,I i W->Fr Z W W'->(∀ b∈Z,wb.heap.size<=b)->I i W'
 Hi:∀ W W' Z,E W->Fr Z W W'->(∀ b∈Z,wb.heap.size<=b)->E W'
 take:∀ i (hi:i<L.length) W (K:Bool->WP),I i W->wb.heap.size<=W.heap.size->(∀ W',Fr Yc W W'->I (i+1) W'->K true W')->(∀ W',Fr Yc W W'->E W'->K false W')->dU Tryz.prog yield [.agg (HL.mk mz L[i]).toArray] dk W K
end
section
open Go Go.Pt List
open Go.IntKind (wrap)
open Classical
attribute [local irreducible] ld dK iF mK iY fq st new idx i3 ji fy jk iL lN gU nn call dU inv run eX iD join loop held ext jQ eu mr ma mv IntKind.wrap
variable {K:Option Addr×Option Addr->WP}
def qpH{w:World}{n:Nat}(Y:List Nat)(E:∀b∈Y,b<w.heap.size)(hY:HG∉Y)(G:Hv w)(I:8<=n)(J:n<=4096)(kk:∀sb pb dbk FD F D w',oh w' Y sb dbk pb FD F D (kc n) ((n-2)-eJ (n-2)) (n,1) (fun _=>([],[]))->Made D n->HG∉FD->sb∉FD->Fr [] w w'->(∀b∈sb::(FD++F),w.heap.size<=b)->K (pW sb,pW pb) w'): cW 32 [.i n] dy w K:=by exact qhp<|qwz (n:=n) Y E hY G I J fun dbk pb FD F D w1 u R U V=>cond_false rfl<|qsi<|oB (oE [] w1) fun r w2 e2 f2 o=>kk r pb dbk FD F D w2 ⟨u.q7 f2,oz.made I J u.wf R,o.at (i:=0) rfl,fun h=>by have:=u.x8.lt r h;omega⟩ R (fun h=>by have:=V HG (zH _ h);have:=G.lt;omega) (fun h=>by have:=u.ve r (by simp[Zo,h]);omega) (U.trans f2) fun b hb=>(zG.1 hb).elim (fun e=>by rw[e,e2];exact U.size) (V b)
structure oY (w0 W:World) (Y:List Nat) (L:List (Nat×Obj)) (sb:Nat) (F:List Nat) (c:Nat) (bs br:Bk) (ri:oU):Prop where
 own:dQ (fh L) W W L
 sB:SB W (fh L++Y) sb F c bs
 rb:RB (fh L++F) W ri br
 fr:Fr [] w0 W
 nL:∀ x∈fh L,w0.heap.size<=x
 nF:∀ x∈F,w0.heap.size<=x
 ns:w0.heap.size<=sb/\sb∉fh L
section
variable {w0 W w':World} {Y F F':List Nat} {L L':List (Nat×Obj)} {sb c:Nat} {bs br bs' br':Bk} {ri r':oU}
def oY.lt(h:oY w0 W Y L sb F c bs br ri):∀x∈fh L++F,x<W.heap.size:=fun x u=>(zD.1 u).elim (ws h.own x) (h.sB.flt x)
def oY.J0(h:oY w0 W Y L sb F c bs br ri)(o:dQ (fh L) W w' L'):oY w0 w' Y L' sb F c bs br ri where
 own:=o.ls
 sB:=h.sB.GQ h.ns.2 o
 rb:=h.rb.q8 (o.fr.mono fun x u _=>zH _ u) fun x u=>(zD.1 u).elim (fun u=>by obtain⟨p,E,rfl⟩:=mem_map.1 u;exact (o.own p E).imp (zH _) id) fun u=>.inl (zI _ u)
 fr:=h.fr.j8 o.fr fun x u=>.inr (h.nL x u)
 nL:=fun x u=>by obtain⟨p,E,rfl⟩:=mem_map.1 u;exact (o.own p E).elim (h.nL _) (zL h.fr.size)
 nF:=h.nF
 ns:=⟨h.ns.1,fun u=>by
  obtain⟨p,E,e⟩:=mem_map.1 u;rcases o.own p E with G|G;exact h.ns.2 (by rw[<- e];exact G)
  have:=h.sB.lt
  omega⟩
def oY.sub(h:oY w0 W Y L sb F c bs br ri)(u:L'.Sublist L):oY w0 W Y L' sb F c bs br ri where
 own:=(h.own.sub u).ls
 sB:=h.sB.y3 fun b E=>(zD.1 E).elim (fun E=>zH _ ((u.map _).subset E)) (zI _)
 rb:=h.rb.q8 (.refl _ _) fun x G=>.inl ((zD.1 G).elim (fun E=>zH _ ((u.map _).subset E)) (zI _))
 fr:=h.fr
 nL:=fun x G=>h.nL x ((u.map _).subset G)
 nF:=h.nF
 ns:=⟨h.ns.1,fun G=>h.ns.2 ((u.map _).subset G)⟩
def oY.nI(h:oY w0 W Y L sb F c bs br ri)(f:Fr [] W w')(u:RB (fh L++F) w' r' br'):oY w0 w' Y L sb F c bs br' r':=
 ⟨(h.own.q7 f).ls,h.sB.q7 f,u,h.fr.trans f,h.nL,h.nF,h.ns⟩
def oY.q7(h:oY w0 W Y L sb F c bs br ri)(f:Fr [] W w'):oY w0 w' Y L sb F c bs br ri:=h.nI f (h.rb.q7 f)
def oY.mN(h:oY w0 W Y L sb F c bs br ri)(E:SB w' (fh L++Y) sb F' c bs')(s:nV F W F' w'):oY w0 w' Y L sb F' c bs' br ri where
 own:=h.sB.own h.own s
 sB:=E
 rb:=h.rb.q8 (s.fr.mono fun x u _=>zI _ u) fun x u=>(zD.1 u).elim (fun u=>.inl (zH _ u)) fun u=>(s.new x u).imp (zI _) id
 fr:=h.fr.j8 s.fr fun x u=>.inr (h.nF x u)
 nL:=h.nL
 nF:=fun x u=>(s.new x u).elim (h.nF x) (zL h.fr.size)
 ns:=h.ns
end
abbrev zh:oU:=(dG,dG,dG,dG,dG,dG,dG,0,false,dG)
def qAc(S:List Nat)(w:World)(q:Nat×Nat×Gh):RB S w zh (xc q):=⟨.nil _ _ _ _,.nil _ _ _ _,.nil _ _ _ _,.nil _ _ _ _,.nil _ _ _ _,.nil _ _ _ _,.nil _ _ _ _,⟨rfl,rfl⟩,[],zM _,.nil _ _ _ _⟩
def oY.start{w0 w w':World}{Y:List Nat}{L:List (Nat×Obj)}{sb dbk pb c:Nat}{FD F:List Nat}{D:dI}{M:dZ}{q:Nat×Nat}(o:dQ [] w0 w L)(h:oh w' (fh L++Y) sb dbk pb FD F D M c q (fun _=>([],[])))(G:c<=100000)(I:q.2<=150)(J:HG∉FD)(R:sb∉FD)(f:Fr [] w w')(u:∀b∈sb::(FD++F),w.heap.size<=b):oY w0 w' Y L sb (FD++F) c (xc (q.1,q.2,pb,D,mD M)) (xc (q.1,q.2,pb,D,mD M)) zh where
 own:=(o.q7 f).ls
 sB:=⟨pb,dbk,FD,F,D,M,_,rfl,h,J,R,qzQ _,G,I,rfl⟩
 rb:=qAc _ _ _
 fr:=o.fr.trans f
 nL:=fun x E=>by obtain⟨p,U,rfl⟩:=mem_map.1 E;exact (o.own p U).elim (fun h=>nomatch h) id
 nF:=fun x E=>zL o.fr.size (u x (zN _ E))
 ns:=⟨zL o.fr.size (u sb oL),fun V=>by have:=ws o sb V;have:=u sb oL;omega⟩
end
section
open Go Go.Pt List
open Go.IntKind (wrap)
open Classical
section
variable {w w' w0 W:World} {Y F F' S:List Nat} {L L':List (Nat×Obj)} {sb pb c i:Nat} {b b' br br':Bk} {r ri r':oU}
def SB.sbF(h:SB w Y sb F c b):sb∉F:=by obtain⟨pb,dbk,FD,J,D,M,Fo,rfl,E,G,u,R,U,V⟩:=h;exact fun I=>(zD.1 I).elim u E.out
def SB.oi{o:Obj}(h:SB w Y sb F c b)(u:w.heap[sb]?=some o)(s:nV F w F' w'):w'.heap[sb]?=some o:=by rw[s.fr.block sb (eV u) h.sbF];exact u
def RB.wV(h:RB S w r b):RB S w r b.wV:=⟨h.acc,h.lG,h.k8,h.due,h.mJ,h.mO,h.jT,h.told,h.gone⟩
def RB.jL(h:RB S w r b)(n:Int):RB S w (r.1,r.2.1,r.2.2.1,r.2.2.2.1,r.2.2.2.2.1,r.2.2.2.2.2.1,r.2.2.2.2.2.2.1,n,true,r.2.2.2.2.2.2.2.2.2) (b.jL n):=
 ⟨h.acc,h.lG,h.k8,h.due,h.mJ,h.mO,h.jT,⟨rfl,rfl⟩,h.gone⟩
structure pB (w0 W:World) (Y:List Nat) (L:List (Nat×Obj)) (sb pb:Nat) (F:List Nat) (b:Bk) (ri:oU):Prop where
 st:∃ g,oY w0 W Y L sb F 600 (b.gs g) b ri
 cell:W.heap[sb]?=some (.cells #[pP pb] Ao (0,0))
def pB.q7(h:pB w0 W Y L sb pb F b ri)(f:Fr [] W w'):pB w0 w' Y L sb pb F b ri:=⟨h.st.imp fun g h=>h.q7 f,by rw[f.block sb (eV h.cell) fun h=>nomatch h];exact h.cell⟩
def pB.J0(h:pB w0 W Y L sb pb F b ri)(o:dQ (fh L) W w' L'):pB w0 w' Y L' sb pb F b ri:=⟨h.st.imp fun g h=>h.J0 o,h.st.elim fun g u=>o.nW h.cell u.ns.2⟩
def pB.sub(h:pB w0 W Y L sb pb F b ri)(u:L'.Sublist L):pB w0 W Y L' sb pb F b ri:=⟨h.st.imp fun g h=>h.sub u,h.cell⟩
def pB.own(h:pB w0 W Y L sb pb F b ri):dQ (fh L) W W L:=h.st.elim fun g h=>h.own
def pB.fr(h:pB w0 W Y L sb pb F b ri):Fr [] w0 W:=h.st.elim fun g h=>h.fr
def oh.less{dbk u:Nat}{FD:List Nat}{D:dI}{M:dZ}{Q:Nat×Nat}{Fo:ka}(h:oh w Y sb dbk pb FD F D M c Q Fo)(E:u<=c):oh w Y sb dbk pb FD F D M u Q Fo:=⟨h.tw,⟨h.st.J0,h.st.J1,zL E h.st.many⟩,h.cell,h.out⟩
def pB.start{dbk:Nat}{FD:List Nat}{D:dI}(o:dQ [] w0 w L)(h:oh w' (fh L++Y) sb dbk pb FD F D (kc 900) ((900-2)-eJ (900-2)) (900,1) (fun _=>([],[])))(u:HG∉FD)(E:sb∉FD)(f:Fr [] w w')(G:∀b∈sb::(FD++F),w.heap.size<=b): ∃g,pB w0 w' Y L sb pb (FD++F) (xc (900,1,g)) zh:=
 ⟨_,⟨_,oY.start o (h.less (by have e:eJ (900-2)=8:=rfl;omega)) oM oM u E f G⟩,h.cell⟩
def Bt.room{n:Nat}(h:Bt n i b)(hi:i<=60):3*(b.size+3)+1<=600/\3*b.size+1<=600/\b.cm.2.1<=100:=by
 have:=h.size
 have:=h.wV
 exact⟨oJ,oJ,oJ⟩
def Bt.Bj(h:Bt 900 i b)(hi:i<=60):600+eJ b.cm.1+b.size+2<=b.cm.1/\eJ b.cm.1+b.size<=600:=by
 have:=h.size
 have e:eJ 900=8:=rfl;rw[h.blocks,e];exact⟨oJ,oJ⟩
end
end
section
open Go Go.Pt List
open Go.IntKind (wrap)
open Classical
attribute [local irreducible] ld dK iF mK iY fq st new idx i3 ji fy jk iL lN gU nn call dU inv run eX iD join loop held ext jQ eu mr ma mv IntKind.wrap
abbrev BOT:TypeId:=34
def qph{d:HL jd}{l:List (HL jd)}:((jl d l).length<l.length)↔∃x∈l,k9 x=k9 d:=by have h:=length_filter_lt_length_iff_exists (l:=l) (p:=fun x=>decide (k9 x≠k9 d));unfold jl;rw[h];simp
section
variable {w0 w w':World} {Y F:List Nat} {L:List (Nat×Obj)} {sb pb i:Nat} {b:Bk} {ri:oU} {o:Ov}
def qw4{K:oU×Bool->WP}(h:pB w0 w Y L sb pb F b ri)(ho:rD o)(ht:Bt 900 i b)(hi:i<=60)(I:∀F' r' w',pB w0 w' Y L sb pb F' (pS b o) r'->K (r',true) w'): cW 33 [dF sb,dF pb,.agg (HL.mk gp ri).toArray,.agg (uh o).toArray] [.agg gp,.one .bool] w K:=by
 refine qhq ?_;obtain⟨q1,q2,q3⟩:=ht.room hi;have af:b.size<=100000:=oJ;have ap:=ht.Bj hi;refine oB h.own fun r1 w1 _ _ o1=>oB o1 fun r3 w2 _ _ o1=>oB o1 fun r5 w3 _ _ o1=>?_;have h:=h.J0 o1;have hd:(0:Int)<=rX o/\rX o<=255:=ho.d;have hm:Int.tmod (rX o) 8=rX o%8:=Int.tmod_eq_emod_of_nonneg hd.1;refine oA h.own 1 rfl (rX o) rfl ?_;rw[hm];unfold pS at I;have g:=(Fr.refl [] w3).drew;obtain⟨⟨gh,h⟩,hp⟩:=h;have cf:∀ {w4 w5:World},w4.heap[sb]?=some (.cells #[pP pb] Ao (0,0))->Fr [] w4 w5->w5.heap[sb]?=some (.cells #[pP pb] Ao (0,0)):=fun h f=>by rw[f.block sb (eV h) fun h=>nomatch h];exact h
 have R:∀ {F':List Nat} {w4:World} {r':oU} {bs br:Bk} {L2:List (Nat×Obj)} {cs:Array Value} {T5:TypeId},oY w0 w4 Y ((r5,.cells cs T5 (0,0))::L2) sb F' 600 bs br r'->w4.heap[sb]?=some (.cells #[pP pb] Ao (0,0))->(∃g,bs=br.gs g)->L.Sublist L2->cs.size=10->(∀F' r' w',pB w0 w' Y L sb pb F' br r'->K (r',true) w')->Pt.st (dh r5) (HL.mk gp r') w4 fun w5=>dK gp (dh r5) w5 fun t=>K (t,true) w5:=fun {F' w4 r' bs br L2 cs T5} h hp E hs hz I=>by obtain⟨g,rfl⟩:=E;exact h.own.st' 0 rfl _ (lZ (by rw[hz];rfl)) rfl (by rw[hz];exact zM _) fun w5 o5 f5=>oC o5 0 rfl r' rfl (I F' r' w5 ⟨⟨g,(h.J0 o5).sub (hs.cons _)⟩,o5.nW hp h.ns.2⟩)
 have E:=h.q7 g;have ac:=cf hp g;have U:L.Sublist ([(r3,Obj.cells (uh o).toArray 81 (0,0)),(r1,Obj.cells (HL.mk gp ri).toArray BOT (0,0))]++L):=.cons _ (.cons _ (.refl _));refine dV (fun G=>?_) fun G=>?_;rw[if_pos (yP.1 G)] at I;refine oC E.own 2 rfl ri rfl (oC E.own 1 rfl (Aq o) rfl (oC E.own 1 rfl (Aq o) rfl (quk E.rb af E.lt fun r' w4 h4 V=>?_)));have h:=E.nI V h4;exact ig (h.own.cells 1 rfl rfl) (qur h.sB q2 ho.a fun F5 w5 h5 s5=>R (h.mN h5 s5) (h.sB.oi (cf ac V) s5) ⟨gh,rfl⟩ U rfl I);rw[if_neg (zR.1 G)] at I;refine dV (fun G=>?_) fun G=>?_;rw[if_pos (yP.1 G)] at I;refine oC E.own 2 rfl ri rfl (qC (E.own.at (i:=1) rfl) (si (vF o)) rfl rfl (qC (E.own.at (i:=1) rfl) (si (vF o)) rfl rfl (qun E.rb af E.lt fun r' w4 h4 V=>?_)));have h:=E.nI V h4;exact ig (h.own.cells 1 rfl rfl) (qut h.sB q1 ho.k fun F5 w5 h5 s5=>R (h.mN h5 s5) (h.sB.oi (cf ac V) s5) ⟨gh,rfl⟩ U rfl I);rw[if_neg (zR.1 G)] at I;refine dV (fun G=>?_) fun G=>?_;rw[if_pos (yP.1 G)] at I;refine oC E.own 2 rfl ri rfl (oC E.own 1 rfl (tM o) rfl (oA E.own 1 rfl (yq o) rfl (oC E.own 1 rfl (tM o) rfl (oA E.own 1 rfl (yq o) rfl (qup E.rb af E.lt fun r' w4 h4 V=>?_)))));have h:=E.nI V h4;exact jU (h.own.cell 1 rfl rfl) (h.own.cells 1 rfl rfl) (quu h.sB q2 ho.i ho.s fun F5 w5 h5 s5=>R (h.mN h5 s5) (h.sB.oi (cf ac V) s5) ⟨gh,rfl⟩ U rfl I);rw[if_neg (zR.1 G)] at I;refine dV (fun G=>?_) fun G=>?_;rw[if_pos (yP.1 G)] at I;refine oC E.own 2 rfl ri rfl (oC E.own 1 rfl (qz o) rfl (oC E.own 1 rfl (qz o) rfl (qul (d:=qz o) E.rb af E.lt fun r' w4 h4 V=>?_)));have h:=E.nI V h4;exact ig (h.own.cells 1 rfl rfl) (Gn h.sB q2 ho.u fun F5 w5 h5 s5=>R (h.mN h5 s5) (h.sB.oi (cf ac V) s5) ⟨gh,rfl⟩ U rfl I);rw[if_neg (zR.1 G)] at I;refine dV (fun G=>?_) fun G=>?_;rw[if_pos (yP.1 G)] at I;refine oC h.own 2 rfl ri rfl (oC h.own 1 rfl (qz o) rfl (qln (d:=qz o) h.rb af h.lt fun r' w4 h4 V=>?_));have h:=h.nI V h4;have hp:=cf hp V;refine oB h.own fun aQ w5 _ _ o5=>o5.st' 0 rfl _ (lZ rfl) rfl (zM _) fun w6 o6 _=>?_;have h':=h.J0 o6;have hp:=o6.nW hp h.ns.2;refine sS (if ∃x∈b.due,k9 x=k9 (qz o) then 0 else 5:Int) w6 (fun M hM=>?_) ?_;refine dV (fun G=>?_) fun G=>?_;rw[if_pos (qph.1 (zC G))] at hM;exact hM;rw[if_neg fun h=>zB G (qph.2 h)] at hM;exact hM;have g6:=(Fr.refl [] w6).drew;have h:=h'.q7 g6;have hp:=cf hp g6;refine oC h.own 0 rfl r' rfl (oC h.own 2 rfl (qz o) rfl (qsz (d2:=(qz o).2.2.1) (d3:=(qz o).2.2.2) h.sB q2 ho.u (fun an F7 w7 h7 s7=>?_) fun ak w7 f7=>?_));have an:∃x∈b.due,k9 x=k9 (qz o):=an;rw[if_pos an];have J:=h.mN h7 s7;exact ig (J.own.cells 0 rfl rfl) (R (J.sub (.cons _ (.refl _))) (h.sB.oi hp s7) ⟨gh,rfl⟩ U rfl I);have ak:∀x∈b.due,k9 x≠k9 (qz o):=ak;rw[if_neg fun⟨x,hx,e⟩=>ak x hx e];have e:=qsH (b:=b) (d:=qz o) ak;have J:=h.q7 f7;rw[e] at J I;exact ig (J.own.cells 0 rfl rfl) (R (J.sub (.cons _ (.refl _))) (cf hp f7) ⟨gh,rfl⟩ U rfl I);rw[if_neg (zR.1 G)] at I;refine dV (fun G=>?_) fun G=>?_;rw[if_pos (yP.1 G)] at I;refine oC E.own 2 rfl ri rfl (oC E.own 1 rfl (tM o) rfl (oC E.own 1 rfl (zp o) rfl (oC E.own 1 rfl (tM o) rfl (oC E.own 1 rfl (zp o) rfl (qum E.rb af E.lt fun r' w4 h4 V=>?_)))));have h:=E.nI V h4;exact jU (h.own.cells 1 rfl rfl) (h.own.cells 1 rfl rfl) (qus h.sB q2 ho.i ho.r fun F5 w5 h5 s5=>R (h.mN h5 s5) (h.sB.oi (cf ac V) s5) ⟨gh,rfl⟩ U rfl I);rw[if_neg (zR.1 G)] at I;refine dV (fun G=>?_) fun G=>?_;rw[if_pos (yP.1 G)] at I;refine oA h.own 1 rfl (uu o) rfl (h.own.st' 2 rfl (HL.mk gp (ri.1,ri.2.1,ri.2.2.1,ri.2.2.2.1,ri.2.2.2.2.1,ri.2.2.2.2.2.1,ri.2.2.2.2.2.2.1,uu o,ri.2.2.2.2.2.2.2.2.1,ri.2.2.2.2.2.2.2.2.2)).toArray rfl rfl (zO rfl) fun w4 o4 _=>o4.st' 2 rfl (HL.mk gp (ri.1,ri.2.1,ri.2.2.1,ri.2.2.2.1,ri.2.2.2.2.1,ri.2.2.2.2.2.1,ri.2.2.2.2.2.2.1,uu o,true,ri.2.2.2.2.2.2.2.2.2)).toArray rfl rfl (zO rfl) fun w5 o5 _=>?_);have g5:=(Fr.refl [] w5).drew;have hp:=cf (o5.nW hp h.ns.2) g5;have h:=(h.J0 o5).q7 g5;have h:=h.nI (.refl _ _) (h.rb.jL (uu o));refine oC h.own 2 rfl (ri.1,ri.2.1,ri.2.2.1,ri.2.2.2.1,ri.2.2.2.2.1,ri.2.2.2.2.2.1,ri.2.2.2.2.2.2.1,uu o,true,ri.2.2.2.2.2.2.2.2.2) rfl (oA h.own 1 rfl (uu o) rfl (qsA h.sB q2 fun F6 w6 h6 s6=>?_));have J:=h.mN h6 s6;exact ig (J.own.cells 2 rfl rfl) (R J (h.sB.oi hp s6) ⟨gh,rfl⟩ (.cons _ (.cons _ (.refl _))) rfl I);rw[if_neg (zR.1 G)] at I;refine oC E.own 2 rfl ri rfl (SB.nM E.sB ac q3 ap.1 ap.2 fun F5 w5 g' h5 s5=>?_);have J:=E.mN h5 s5;exact ig (J.own.cells 2 rfl rfl) (R (J.nI (.refl _ _) J.rb.wV) (E.sB.oi ac s5) ⟨g',rfl⟩ U rfl I)
end
end
section
open Go Go.Pt List
open Go.IntKind (wrap)
open Classical
variable {K:Option Addr×oU×Bool->WP}
def ovZ:Ov:=(0,A9,kpZ,(0,0),0,(0,0,0,0),AH,0)
def qz8:((Tryz.prog.info? 81).bind (·.zero)).map (fun z=>z.cells.toList)=some (uh ovZ):=by kernel_rfl
attribute [local irreducible] ld dK iF mK iY fq st new idx i3 ji fy jk iL lN gU nn call dU inv run eX iD join loop held ext jQ eu mr ma mv IntKind.wrap
abbrev oBk (r:oU):Obj:=.cells (HL.mk gp r).toArray BOT (0,0)
section
variable {w w':World} {s:Sl} {l:List Ov}
def quD(G:Hv w)(I:ed uh 52 [] w s l)(J:∀o∈l,rD o)(hl:l.length<=60)(kk:∀sb pb F q ri w',q.1=900->q.2.1=1->pB w w' [] [] sb pb F (pf q l) ri->K (pW sb,ri,true) w'): cW 9 [s.v] [.one .ptr,.agg gp,.one .bool] w K:=by refine qg3 ?_;have R:=I.1;refine oB (oE [] w) fun U w1 e1 f1 o=>?_;have l1:=eV (o.at (i:=0) rfl);refine qpH (n:=900) [U] (fun b hb=>by rw[zE.1 hb];exact l1) (fun hm=>by have:=zE.1 hm;have:=G.lt;omega) (G.q7 o.fr) oM oM fun sb pb dbk FD F D w3 V hM hg hd f3 n3=>cond_false rfl ?_;obtain⟨g,h⟩:=pB.start (Y:=[]) o V hg hd f3 n3;clear o V hM;refine oB h.own fun r7 w4 _ _ o=>?_;have h:=h.J0 o;clear o;have hz:=qz8;refine je (fun x W=>∃i:Nat,∃F ri,x=i/\i<=l.length/\pB w W [] [(r7,oBk ri),(U,oBk zh)] sb pb F (pf (900,1,g) (l.take i)) ri) (fun x _=>l.length-x.toNat) ⟨0,_,zh,rfl,yX _,h⟩ ?_;clear h;rintro x W ⟨i,F,ri,rfl,hi,h⟩ X hX;have ht:=GE (q:=(900,1,g)) rfl i l hi J;refine dV (fun E=>?_) fun E=>?_;have u:i<l.length:=(by have:=zC E;omega);have hx:=zA u;refine ed.ib (I.q7 h.fr) qtS i rfl hx (oI h.own hz fun aq w5 _ o=>pD (qtS _) (o.st' 0 rfl _ (lZ rfl) rfl (zM _) fun w6 o _=>?_));have h:=h.J0 o;clear o;refine oC h.own 1 rfl ri rfl (qC (h.own.at (i:=0) rfl) (uh l[i]) rfl rfl (qw4 h (J _ (zX u)) ht oJ fun F' r' w7 h=>?_));refine oB h.own fun ar w8 _ _ o=>o.st' 0 rfl _ (lZ rfl) rfl (zM _) fun w9 o _=>cond_false rfl (oC o 0 rfl r' rfl (o.st' 2 rfl _ (lZ rfl) rfl (zM _) fun wa o _=>?_));have h:=h.J0 o;rw[gq _ oJ];refine hX _ _ ⟨i+1,F',r',rfl,u,?_⟩ oJ;rw[yG u,qmW];exact h.sub (.cons _ (.cons _ (.refl _)));have u:i=l.length:=(by have:=zB E;omega);subst u;rw[xZ] at h;have h:=h.q7 (Fr.refl [] W).drew;refine oC h.own 0 rfl ri rfl (h.own.st' 1 rfl _ (lZ rfl) rfl (zM _) fun w5 o _=>oC o 1 rfl ri rfl ?_);exact kk sb pb F (900,1,g) ri w5 rfl rfl ((h.J0 o).sub (nil_sublist _))
def qng{K:Bool->WP}(J:Hv w)(R:∀w',Fr [] w w'->K true w'):cW 8 [] dk w K:=by refine qg4 ?_;unfold qdD;refine qpH (n:=40) [] (fun _ h=>nomatch h) (fun h=>nomatch h) J oM oM fun sb pb dbk FD F D w1 U hM V hd f1 n1=>?_;have hn:eJ (40-2)=1:=rfl;have h:=oY.start (Y:=[]) (oE [] w) U oJ oM V hd f1 n1;generalize ((40,1).1,(40,1).2,pb,D,mD (kc 40))=q at h;have G:∀ {a b:Int},lg a->lg b->jV jd (a,b,0,0):=fun ha hb=>⟨CD ha,CD hb,qyw,qyw⟩;refine hU (fun x w'=>x=false/\∃F br,oY w w' [] [] sb F ((40-2)-eJ (40-2)) (((xc q).jx (9,2,0,0)).jx (5,3,0,0)) br zh) ?_ ?_;refine cond_false rfl (Gn h.sB (by show 3*0+1<=_;omega) (G ⟨oM,oM⟩ ⟨oM,oM⟩) fun F2 w2 h2 s2=>cond_false rfl ?_);have u:=h.mN h2 s2;exact Gn u.sB (by show 3*1+1<=_;omega) (G ⟨oM,oM⟩ ⟨oM,oM⟩) fun I w3 h3 s3=>⟨rfl,I,_,u.mN h3 s3⟩;rintro x w3 ⟨rfl,I,br,h⟩;have e:oS (((xc q).jx (9,2,0,0)).jx (5,3,0,0)).due 9 1=[(5,3,0,0)]:=oK;refine cond_false rfl (qyN h.sB (CD ⟨oM,oM⟩) (FQ (FQ .nil)) (by show 2<=_;omega) fun s B w4 E f4 nB _=>?_);rw[e] at E;have hl:s.len=1:=E.len;refine cond_true (by rw[hl];rfl) (ed.rf (y:=(5,3,0,0)) (E.jw Ck (S:=[]) fun _ _ h=>nomatch h) 0 rfl rfl rfl rfl ?_);exact eqS (t:=DD) 3 oM oK oK (R w4 (h.fr.trans f4))
end
end
section
open Go Go.Pt List
open Go.IntKind (wrap)
open Classical
attribute [local irreducible] ld dK iF mK iY fq st new idx i3 ji fy jk iL lN gU nn call dU inv run eX iD join loop held ext jQ eu mr ma mv IntKind.wrap
abbrev rT:List Cell:=[.int .u64,.int .u64,.int .u64,.int .u64,.bool,.b,.b]
abbrev AI:TypeId:=51
section
variable {w w':World} {s:Sl} {l:List Ov}
def qqh{a:HL rT}{K:Bool->WP}(hv:Hv w)(hr:ed uh 52 [] w s l)(ho:∀o∈l,rD o)(ha:jV rT a)(kk:∀w',Fr [] w w'->K true w'): cW 4 [s.v,.agg (HL.mk rT a).toArray] dk w K:=by
 refine qeF ?_;have aO:=hr.1;obtain⟨i0,i1,frm,to,down,side,R⟩:=a;obtain⟨a1,a2,a3,a4,-,-,-⟩:=ha;refine oB (oE [] w) fun r1 w2 e1 f2 o=>dV (fun _=>qng (hv.q7 f2) fun w' f=>kk w' (f2.trans f)) fun V=>?_;have hl:l.length<=60:=(by have:=zB V;omega);refine quD (hv.q7 f2) (hr.q7 f2) ho hl fun sb pb F q ri w3 q1 q2 h=>?_;have ht:=GE q2 l.length l (zM _) ho;rw[xZ] at ht;have aA:=ht.size;have o:=o.q7 h.fr;have l1:=eV (o.at (i:=0) rfl);refine oB o fun r7 w8 e7 f8 o=>o.st' 0 rfl _ (lZ rfl) rfl (zM _) fun w9 o f9=>cond_false rfl ?_;have h:=h.q7 (f8.j8 f9 fun x u=>.inr (by rw[zE.1 u,e7];exact zM _));obtain⟨⟨g,h⟩,_⟩:=h;generalize pf q l=b at h ht aA;refine oA o 0 rfl ri.2.2.2.2.2.1 rfl (sS (if side=1 then ri.2.2.2.2.1 else ri.2.2.2.2.2.1) w9 (fun M E=>oA o 1 rfl side rfl (dV (fun V=>oA o 0 rfl ri.2.2.2.2.1 rfl ?_) fun V=>?_)) ?_);rwa[if_pos (yP.1 V)] at E;rwa[if_neg (zR.1 V)] at E;have an:ed jP 5 (fh []++F) w9 (if side=1 then ri.2.2.2.2.1 else ri.2.2.2.2.2.1) (tF b side):=by unfold tF;split;exact h.rb.mJ;exact h.rb.mO
 generalize (if side=1 then ri.2.2.2.2.1 else ri.2.2.2.2.2.1)=sl at an;have bc:(tF b side).length<=b.size:=(by unfold tF Bk.size;split<;>omega);refine oC o 1 rfl (i0,i1) rfl (oA o 1 rfl side rfl (oA o 1 rfl frm rfl (oA o 1 rfl to rfl (oA o 1 rfl down rfl (qvJ h.sB (by show b.size<=_;omega) ⟨a1,a2⟩ (qe a3) (qe a4) fun v C aB E nC ag=>?_)))));have o:=o.q7 ag;refine oC o 1 rfl (i0,i1) rfl (oA o 1 rfl frm rfl (oA o 1 rfl to rfl (oA o 1 rfl down rfl (qvH (an.q7 ag) oJ fun aC B aD hb ah nB=>?_))));have o:=o.q7 ah;have E:ry aB C v side (jW (tF b side) (i0,i1) frm to down):=E;have aE:=qnz (l:=tF b side) (i:=(i0,i1)) (frm:=frm) (to:=to) (down:=down);generalize jW (tF b side) (i0,i1) frm to down=G at E hb aE;have z9:w3.heap.size<=w9.heap.size:=zL f8.size f9.size;have zw:w.heap.size<=w9.heap.size:=zL (zL f2.size (by have:=h.fr.size;omega)) (zM _);have aT:=hb.len;obtain⟨T1,I⟩:∃T,aD.heap[r1]?=some (.cells (HL.mk rT (i0,i1,frm,to,down,side,R)).toArray T (0,0)):=⟨_,o.at (i:=1) rfl⟩;refine je (fun x W=>∃(i:Nat) (C:List Nat),x=i/\i<=G.length/\ry W C v side (G.drop i)/\ed jP 5 C W aC G/\Fr [] w W/\(∀x∈C,w9.heap.size<=x)/\w9.heap.size<=W.heap.size/\W.heap[r1]?=some (.cells (HL.mk rT (i0,i1,frm,to,down,side,R)).toArray T1 (0,0))) (fun x _=>G.length-x.toNat) ⟨0,C,rfl,yX _,E.q7 ah,hb.jw sH fun x u hm=>by have:=nB x u;have:=E.lt x hm;omega,o.fr,nC,zL ag.size ah.size,I⟩ ?_;clear I E nC o hb;rintro x W ⟨i,C,rfl,hi,E,hR,fw,nC,zW,I⟩ X hX;have n1:r1∉C:=fun hm=>by have:=nC r1 hm;omega
 refine dV (fun V=>?_) fun V=>?_;have U:i<G.length:=(by have:=zC V;omega);have u:=zA U;have hd:=zY U;rw[hd] at E;generalize G[i]=m at u E;refine ed.rf hR i rfl u rfl (y:=(m.1.1,m.1.2,m.2.1,m.2.2.1,m.2.2.2)) rfl (oB (oE [] W) fun J wa ea fa o=>o.st' 0 rfl _ (lZ rfl) rfl (zM _) fun wb o fb=>?_);have lC:=E.lt;refine ry.next (E.q7 o.fr) (fun e=>nomatch e) fun m' q' e C' wc ao fc aq=>?_
 obtain⟨rfl,rfl⟩:=vC e;have aG:J∉C:=fun hm=>by have:=lC J hm;omega
 have ac:wc.heap[r1]?=some (.cells (HL.mk rT (i0,i1,frm,to,down,side,R)).toArray T1 (0,0)):=(by rw[fc.block _ (eV (o.nW I fun h=>nomatch h)) n1];exact o.nW I fun h=>nomatch h);have o2:=pG o fc fun x u=>by rw[show x=J from zE.1 u];exact aG
 refine oB o2 fun bl wd aH fd o3=>o3.st' 0 rfl _ (lZ rfl) rfl (zM _) fun we o3 fe=>?_;have au:r1∉fh [(J,Obj.cells (HL.mk mvs (m.1.1,m.1.2,m.2.1,m.2.2.1,m.2.2.2)).toArray wj (0,0))]:=fun hm=>by
  have bn:r1=J:=zE.1 hm
  have:=eV I
  omega
 refine sS false we (fun M aI=>cond_false rfl (oC o3 0 rfl (jR m,m.2.2.1,m.2.2.2,side) rfl (oA o3 1 rfl m.2.1 rfl (oC o3 1 rfl m.2.2 rfl (iI (o3.nW ac au) side rfl (qAC (t:=AI) (cs:=#[.int .u64 m.2.1,.int .u64 m.2.2.1,.int .u64 m.2.2.2,.b side]) 3 oM oK oK aI)))))) (cond_false rfl ?_);have aJ:Fr [J] wc we:=o3.fr;have aK:Fr C W wc:=(o.fr.mono fun _ h _=>nomatch h).trans fc;have ak:Fr C W we:=aK.j8 aJ fun x u=>.inr (by rw[zE.1 u,ea];exact zM _);have av:∀x∈C',x∈C\/W.heap.size<=x:=fun x u=>(aq x u).imp id (zL o.fr.size);have fx:Fr [] wc we:=fd.j8 fe fun x u=>.inr (by rw[zE.1 u,aH];exact zM _);rw[gq _ oJ];exact hX _ _ ⟨i+1,C',rfl,U,ao.q7 fx,hR.q8 ak av,fw.j8 ak fun x u=>.inr (zL zw (nC x u)),fun x u=>(av x u).elim (nC x) (zL zW),zL zW ak.size,o3.nW ac au⟩ oJ;have U:i=G.length:=(by have:=zB V;omega);subst U;rw[drop_length] at E;refine ry.next E (fun _ C' wc ao fc aq=>?_) fun m q e=>nomatch e
 have aw:Fr [] w wc:=fw.j8 fc fun x u=>.inr (zL zw (nC x u));refine oB (oE [] wc) fun bp wd _ fd o=>o.st' 0 rfl _ (lZ rfl) rfl (zM _) fun we o fe=>qng (hv.q7 (aw.trans o.fr)) fun wf ff=>cond_true rfl (cond_true rfl ?_);exact oC (o.q7 ff) 0 rfl (0,0,0,0) rfl (eqS (t:=AI) 3 oM oK oK (kk wf ((aw.trans o.fr).trans ff)))
end
end
end Go.Proofs.YtpcmehldpoljfaaGreatDoor
