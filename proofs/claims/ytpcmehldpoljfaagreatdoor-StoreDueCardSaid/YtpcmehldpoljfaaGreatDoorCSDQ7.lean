/- Conditions: those that stand in each line. -/
import Derived.Test.YtpcmehldpoljfaaGreatDoorCSDQ6
import Derived.Test.YtpcmehldpoljfaaGreatDoorCSDQ3
import Derived.Test.YtpcmehldpoljfaaGreatDoorCSDQ1
set_option linter.unusedVariables false
set_option linter.unusedSimpArgs false
set_option linter.defProp false
namespace Go.Proofs.YtpcmehldpoljfaaGreatDoor
section
open Go Go.Pt List
open Go.IntKind (wrap)
open Classical
attribute [local irreducible] ld dJ iH mZ i7 fi st new idx i8 jr fB js iY lV gT nn call dV inv run fc iM join loop held ext jR eI mH mz mI IntKind.wrap
variable {K:ph->WP} {S:List Nat} {b:Bk} {d:HL iS} {n:Nat} {r:ph} {w:World}
section
variable {α:Type} {enc:α->List Value} {k:Nat} {w:World} {s:Sl} {l:List α} {B S:List Nat}
def Fk{i:Int}{x:α}{K:WP}(h:eO enc k w s l B)(C:∀x,(enc x).length=k)(I:∀x,∀u∈enc x,u.oneCell'=true)(hi:i=n)(U:n<l.length)(kk:∀w',eO enc k w' s (l.set n x) B->Fr B w w'->K w'):idx s i k fun a=>Pt.st a (enc x) w K:=by
 subst hi;have hf:=qi C;rcases h with ⟨_,rfl,_⟩|⟨b,o,G,T,rfl,rfl,ha,hb,h5,h6,h7,h8⟩;cases U;refine pY ha ⟨oJ,oJ⟩ ?_;rw[zJ,xR];rw[xE] at h8;have h9:l.length*k<=s.cap*k:=Nat.mul_le_mul_right k oJ;have ak:l.length*k<=G.size:=oJ;have E:l=l.take n++l[n]::l.drop (n+1):=(by rw[<- zX U,xD]);have V:G=((l.take n).flatMap enc++enc l[n]++((l.drop (n+1)).flatMap enc++G.toList.drop (l.length*k))).toArray:=by
  apply Array.ext';have:l.flatMap enc=(l.take n).flatMap enc++enc l[n]++(l.drop (n+1)).flatMap enc:=by
   conv=>lhs;rw[E]
   rw[yP,yG,zV]
  rw[<- zV,<- this,<- h8,xD]
 have hA:((l.take n).flatMap enc).length=n*k:=(by rw[hf,yK,xQ oJ]);have J:dN G (n*k) (enc x)=((l.take n).flatMap enc++enc x++((l.drop (n+1)).flatMap enc++G.toList.drop (l.length*k))).toArray:=by
  have:=sX (A:=(l.take n).flatMap enc) (X:=enc l[n]) (Y:=enc x) (Z:=(l.drop (n+1)).flatMap enc++G.toList.drop (l.length*k)) (by rw[C,C])
  rw[hA,<- V] at this;exact this
 have aa:(n+1)*k<=l.length*k:=Nat.mul_le_mul_right k U;rw[Nat.succ_mul] at aa;refine qD hb _ J (all_eq_true.2 (I x)) (by rw[C];omega) fun w' ab f=>kk w' (.inr ⟨b,0,_,T,rfl,rfl,ha,ab,by rw[xF];exact h5,h6,?_,?_⟩) f
 have:=congrArg Array.size J
 rw[mG] at this;rw[<- this];exact h7;rw[xE,xF];have e:(l.set n x).flatMap enc=(l.take n).flatMap enc++enc x++(l.drop (n+1)).flatMap enc:=by rw[set_eq_take_append_cons_drop,if_pos U,yP,yG,zV]
 have R:((l.set n x).flatMap enc).length=l.length*k:=(by rw[hf,xF]);show List.take (l.length*k) (_++_++(_++_))=_;rw[<- zV,<- e,<- R];exact take_left' rfl
def AD{t ty e:TypeId}{i:TypeInfo}{z:Value}{r:Nat}{T:TypeId}{K:Sl->WP}(J:w.heap[r]?=some (.cells #[] T (0,0)))(G:dW enc k S w s l)(C:∀x,(enc x).length=k)(E:∀x,∀u∈enc x,u.oneCell'=true)(ht:Tryz.prog.underlying t=some (.slice e))(hi:Tryz.prog.info? e=some i)(hz:i.zero=some z)(R:i.size=k)(U:z.cells.size=k)(V:i.bytes<=1000)(hl:l.length<=1000000)(kk:∀I B w',eO enc k w' I l B->Fr [r] w w'->(∀b∈B,b=r\/w.heap.size<=b)->K I w'): Pt.run de ((Builtin.append_ #[t,t] ty #[.slice (pW r) 0 0,s.v]).run Tryz.prog w) K:=by
 refine eO.j1 (s:=⟨pW r,0,0⟩) (l:=[]) (ys:=l) (B:=[r]) (eO.none J) C ht hi hz R U (uv (e':=e) G C E ht) G.1 ?_ (by simp;have:=G.1;omega) fun I B' w' b' f' n' _=>kk I B' w' (oP b') f' fun b J=>(n' b J).imp (fun h=>zE.1 h) id
 have:=G.1
 rw[xJ,xR,this];calc l.length*i.bytes<=1000000*1000:=Nat.mul_le_mul hl V
  _<=_:=by decide
end
def AB(x:HL ku):(ql x).length=15:=rfl
def En(x:HL ku):∀u∈ql x,u.oneCell'=true:=all_eq_true.1 rfl
def qzt:∃i,Tryz.prog.info? 74=some i/\i.zero=some (.agg (HL.mk ku Ao).toArray)/\i.size=15/\i.bytes=104:=se oK
section
variable {S:List Nat} {w w':World} {r:ph} {b:Bk}
def v8{α:Type}{enc:α->List Value}{k:Nat}{w w0:World}{s:Sl}{l:List α}{B S:List Nat}(h:eO enc k w s l B)(u:∀x,(enc x).length=k)(C:∀x∈S,x<w0.heap.size)(E:∀x∈B,w0.heap.size<=x):dW enc k S w s l:=h.jq u fun b G I=>by have:=C b I;have:=E b G;omega
def Au{α κ:Type}[DecidableEq κ]{kf:α->κ}{a x:α}{l:List α}(C:l[n]?=some x)(u:(l.take n).find? (fun y=>decide (kf y=kf a))=none)(h:kf x=kf a):iy kf a l=l.set n a:=by obtain⟨E,rfl⟩:=zP.1 C;refine qrF E h fun j G e=>?_;rw[List.find?_eq_none] at u;refine u (l[j]' oJ) ?_ (oP e);exact mem_take_iff_getElem.2 ⟨j,oJ,rfl⟩
def Ax{α κ:Type}[DecidableEq κ]{kf:α->κ}{a:α}{l:List α}(h:l.find? (fun y=>decide (kf y=kf a))=none):iy kf a l=l++[a]:=EZ fun x u e=>by rw[List.find?_eq_none] at h;exact h x u (oP e)
def qt1{a:HL ku}(h:RB S w r b)(hl:b.size<=100000)(hS:∀x∈S,x<w.heap.size)(kk:∀r' w',RB S w' r' (b.lO a)->Fr [] w w'->K r' w'): cW 64 [.agg (HL.mk fT r).toArray,.agg (HL.mk ku a).toArray] [.agg fT] w K:=by
 refine qc0 ?_;have aD:b.acc.length<=100000:=(by unfold Bk.size at hl;omega);obtain⟨i,hi,hz,aa,ab⟩:=qzt;refine oB (oE [] w) fun r1 w1 _ f1 o=>oB o fun r3 w2 _ f2 o=>oB o fun r5 J _ f3 o=>oB (oE [] J) fun r7 w4 e4 f4 o2=>?_;have o4:=o.q7 f4;refine oA o4 2 rfl r.1 rfl (AD (e:=74) (o2.at (i:=0) rfl) (h.q7 o4.fr).acc AB En oK hi hz aa rfl (by rw[ab];decide) oJ fun s5 B5 w5 b5 f5 n5=>?_);have E:∀x∈B5,J.heap.size<=x:=fun x u=>(n5 x u).elim (fun e=>oJ) fun h=>zL f4.size h;have R:Fr [] J w5:=f4.j8 f5 fun x u=>.inr (by rw[zE.1 u];omega);have ac:∀(s:Sl) (l:List (HL ku)) (B:List Nat) V,eO ql 15 V s l B->(∀x∈B,J.heap.size<=x)->Fr [] J V->l=iy mA a b.acc->Pt.st (dd r1) [s.v] V fun w7=>dJ fT (dd r1) w7 fun t=>Pt.st (dd r5) (HL.mk fT t) w7 fun w8=>dJ fT (dd r5) w8 fun t=>K t w8:=fun s l B V hb hB G e=>by
  refine (o.q7 G).st' 2 rfl (HL.mk fT (s,r.2)).toArray rfl rfl (zO rfl) fun w7 o7 f7=>oC o7 2 rfl (s,r.2) rfl (o7.st' 0 rfl _ (oc rfl) rfl (zM _) fun w8 o8 f8=>oC o8 0 rfl (s,r.2) rfl ?_);have I:=h.q7 o8.fr;have l1:r1<J.heap.size:=eT (o.at (i:=2) rfl);have l5:r5<J.heap.size:=eT (o.at (i:=0) rfl);have an:=(hb.q8 f7 fun x u h=>by have:=hB x u;have:=zE.1 h;omega).q8 f8 fun x u h=>by have:=hB x u;have:=zE.1 h;omega
  have ao:dW ql 15 S w8 s (iy mA a b.acc):=(by rw[<- e];exact v8 an AB hS fun x u=>zL o.fr.size (hB x u));exact kk (s,r.2) w8 ⟨ao,I.ll,I.kO,I.due,I.mL,I.mQ,I.jH,I.told,I.gone⟩ o8.fr
 have aK:s5.len=b.acc.length:=b5.len;refine iV (fun q w'=>∃n:Nat,q=n/\n<=b.acc.length/\Fr [] w5 w'/\((b.acc.take n).find? fun x=>decide (mA x=mA a))=none) (fun q _=>b.acc.length-q.toNat) ⟨0,rfl,yW _,.refl _ _,rfl⟩ ?_;rintro q V ⟨n,rfl,hn,G,hf⟩ X hX;apply cD<;>intro hc;have C:n<b.acc.length:=oJ;have u:=zA C;have b6:=(b5.q7 G).q7 (Fr.refl [] V).drew;have o6:=o.q7 ((R.trans G).drew);refine dW.kX (cl:=u2) (S:=[]) (b6.jq AB fun _ _ h=>nomatch h) n rfl u oM rfl (oC o6 1 rfl (mA a) rfl (zj (a:=mA b.acc[n]) ?_));have st:=At (p:=fun x=>decide (mA x=mA a)) u hf;apply dR<;>intro hb;refine oC o6 1 rfl a rfl (Fk b6 AB En rfl C fun w7 b7 f7=>ac _ _ _ _ b7 E ((R.trans G).drew.j8 f7 fun x u=>.inr (E x u)) (Au u hf (zC hb)).symm);rw[gc _ oJ];exact hX _ _ ⟨n+1,rfl,C,G.drew,st.2 hb⟩ oJ;have C:n=b.acc.length:=oJ;subst C;rw[xY] at hf;have U:=R.trans G;refine oC (o.q7 U) 1 rfl a rfl (eO.push (e:=74) (x:=a) (b5.q7 G) AB (En a) oK hi hz aa rfl rfl (by rw[ab];omega) oJ fun s7 B7 w7 b7 f7 n7=>ac _ _ _ _ b7 (fun x u=>(n7 x u).elim (E x) (zL U.size)) (U.j8 f7 fun x u=>.inr (E x u)) (Ax hf).symm)
end
section
abbrev Gi:TypeId:=49
abbrev mvs:List Cell:=[.int .u64,.int .u64,.int .u64,.int .u64,.int .u64]
def Ac(x:Mv):(nC x).length=5:=rfl
def EL(x:Mv):∀u∈nC x,u.oneCell'=true:=all_eq_true.1 rfl
def qzy:∃i,Tryz.prog.info? Gi=some i/\i.zero=some (.agg #[.int .u64 0,.int .u64 0,.int .u64 0,.int .u64 0,.int .u64 0])/\i.size=5/\i.bytes=40:=se oK
section
variable {S:List Nat} {w w':World} {s:Sl} {l:List Mv}
def qqB{m:Mv}{K:Sl->WP}(h:dW nC 5 S w s l)(hl:l.length<=100000)(hS:∀x∈S,x<w.heap.size)(kk:∀s' w',dW nC 5 S w' s' (iy ow m l)->Fr [] w w'->K s' w'): cW 109 [s.v,.agg #[.int .u64 m.1.1,.int .u64 m.1.2,.int .u64 m.2.1,.int .u64 m.2.2.1,.int .u64 m.2.2.2]] de w K:=by
 refine qhh ?_;obtain⟨i,hi,hz,V,aa⟩:=qzy;refine oB (oE [] w) fun r1 w3 _ f3 o=>oB (oE [] w3) fun r7 w4 e4 f4 o2=>?_;have o4:=o.q7 f4;refine AD (e:=Gi) (o2.at (i:=0) rfl) (h.q7 o4.fr) Ac EL oK hi hz V rfl (by rw[aa];decide) oJ fun s5 B5 w5 b5 f5 n5=>?_;have G:∀x∈B5,w3.heap.size<=x:=fun x u=>(n5 x u).elim (fun e=>oJ) fun h=>zL f4.size h;have R:Fr [] w3 w5:=f4.j8 f5 fun x u=>.inr (by rw[zE.1 u];omega);have ac:∀(s:Sl) (l':List Mv) (B:List Nat) I,eO nC 5 I s l' B->(∀x∈B,w3.heap.size<=x)->Fr [] w3 I->l'=iy ow m l->K s I:=fun s l' B I C hB J e=>by refine kk s I ?_ (f3.trans J);rw[<- e];exact v8 C Ac hS fun x u=>zL f3.size (hB x u)
 have aE:s5.len=l.length:=b5.len;refine iV (fun q w'=>∃n:Nat,q=n/\n<=l.length/\Fr [] w5 w'/\((l.take n).find? fun x=>decide (ow x=ow m))=none) (fun q _=>l.length-q.toNat) ⟨0,rfl,yW _,.refl _ _,rfl⟩ ?_;rintro q I ⟨n,rfl,hn,J,hf⟩ X hX;apply cD<;>intro hc;have E:n<l.length:=oJ;have u:=zA E;have b6:=(b5.q7 J).q7 (Fr.refl [] I).drew;have o6:=o.q7 ((R.trans J).drew);have r6:dW nC 5 [] I.drew s5 l:=b6.jq Ac fun _ _ h=>nomatch h;refine tN (decide (ow l[n]=ow m)) I.drew (fun M hM=>?_) ?_;refine dW.kX (cl:=u2) r6 n rfl u oM rfl (oC o6 0 rfl m.1 rfl (zj (a:=l[n].1) ?_));apply dR<;>intro C;have C:=zC C;refine dW.yz (c:=.int .u64) r6 n 2 rfl u oM (y:=l[n].2.1) rfl (oA o6 0 rfl m.2.1 rfl ?_);rw[show (l[n].2.1==m.2.1)=decide (ow l[n]=ow m) by unfold ow;rw[C];by_cases e:l[n].2.1=m.2.1;simp[e];simp[e]];exact hM;have C:=zB C;rw[show decide (ow l[n]=ow m)=false from zU fun e=>C (vA e).1] at hM;exact hM;have st:=At (p:=fun x=>decide (ow x=ow m)) u hf;apply dR<;>intro C;refine oC o6 0 rfl (m.1.1,m.1.2,m.2.1,m.2.2.1,m.2.2.2) rfl (Fk b6 Ac EL (x:=m) rfl E fun w7 b7 f7=>ac _ _ _ _ b7 G ((R.trans J).drew.j8 f7 fun x u=>.inr (G x u)) (Au u hf (zC C)).symm);rw[gc _ oJ];exact hX _ _ ⟨n+1,rfl,E,J.drew,st.2 C⟩ oJ;have E:n=l.length:=oJ;subst E;rw[xY] at hf;have U:=R.trans J;refine oC (o.q7 U) 0 rfl (m.1.1,m.1.2,m.2.1,m.2.2.1,m.2.2.2) rfl (eO.push (e:=Gi) (x:=m) (b5.q7 J) Ac (EL m) oK hi hz V rfl rfl (by rw[aa];omega) oJ fun s7 B7 w7 b7 f7 n7=>ac _ _ _ _ b7 (fun x u=>(n7 x u).elim (G x) (zL U.size)) (U.j8 f7 fun x u=>.inr (G x u)) (Ax hf).symm)
end
end
section
section
variable {α:Type} {enc:α->List Value} {k:Nat} {w:World} {s:Sl} {l:List α} {B S:List Nat}
def qs6{j:Nat}{i:Int}{x:α}{vs:List Value}{K:WP}(h:eO enc k w s l B)(E:∀x,(enc x).length=k)(hi:i=n)(hn:n<l.length)(I:vs.all Value.oneCell'=true)(hj:j+vs.length<=k)(hx:enc x=(enc l[n]).take j++vs++(enc l[n]).drop (j+vs.length))(kk:∀w',eO enc k w' s (l.set n x) B->Fr B w w'->K w'):idx s i k fun a=>Pt.st ⟨a.block,a.off+j,none⟩ vs w K:=by
 subst hi;have hf:=qi E;rcases h with ⟨_,rfl,_⟩|⟨b,o,u,T,rfl,rfl,ha,hb,h5,h6,h7,h8⟩;cases hn;refine pY ha ⟨oJ,oJ⟩ ?_;rw[zJ,xR];rw[xE] at h8;have h9:l.length*k<=s.cap*k:=Nat.mul_le_mul_right k oJ;have ap:l.length*k<=u.size:=oJ;have C:l=l.take n++l[n]::l.drop (n+1):=(by rw[<- zX hn,xD]);have J:=E l[n];have he:enc l[n]=(enc l[n]).take j++((enc l[n]).drop j).take vs.length++(enc l[n]).drop (j+vs.length):=(by rw[zV,<- xC,xD,xD]);have R:u=(((l.take n).flatMap enc++(enc l[n]).take j)++((enc l[n]).drop j).take vs.length++((enc l[n]).drop (j+vs.length)++((l.drop (n+1)).flatMap enc++u.toList.drop (l.length*k)))).toArray:=by
  apply Array.ext';have:l.flatMap enc=(l.take n).flatMap enc++enc l[n]++(l.drop (n+1)).flatMap enc:=by
   conv=>lhs;rw[C]
   rw[yP,yG,zV]
  have h0:u.toList=(l.take n).flatMap enc++enc l[n]++(l.drop (n+1)).flatMap enc++u.toList.drop (l.length*k):=(by rw[<- this,<- h8,xD]);rw[h0];conv=>lhs;rw[he]
  rw[<- h0];simp only[zV]
 have hA:((l.take n).flatMap enc++(enc l[n]).take j).length=n*k+j:=(by rw[zF,hf,yK,yK,xQ oJ,J];omega);have G:dN u (n*k+j) vs=((l.take n).flatMap enc++enc x++((l.drop (n+1)).flatMap enc++u.toList.drop (l.length*k))).toArray:=by
  have:=sX (A:=(l.take n).flatMap enc++(enc l[n]).take j) (X:=((enc l[n]).drop j).take vs.length) (Y:=vs) (Z:=(enc l[n]).drop (j+vs.length)++((l.drop (n+1)).flatMap enc++u.toList.drop (l.length*k))) (by rw[yK,yB,J];omega)
  rw[hA,<- R] at this;rw[this,hx];simp only[zV]
 have ac:(n+1)*k<=l.length*k:=Nat.mul_le_mul_right k hn;rw[Nat.succ_mul] at ac;have U:n*k+j+vs.length<=u.size:=(by clear R G hx he hA h8;omega);refine qD hb _ G I U fun w' ad f=>kk w' (.inr ⟨b,0,_,T,rfl,rfl,ha,ad,by rw[xF];exact h5,h6,?_,?_⟩) f
 have:=congrArg Array.size G
 rw[mG] at this;rw[<- this];exact h7;rw[xE,xF];have e:(l.set n x).flatMap enc=(l.take n).flatMap enc++enc x++(l.drop (n+1)).flatMap enc:=by rw[set_eq_take_append_cons_drop,if_pos hn,yP,yG,zV]
 have V:((l.set n x).flatMap enc).length=l.length*k:=(by rw[hf,xF]);show List.take (l.length*k) (_++_++(_++_))=_;rw[<- zV,<- e,<- V];exact take_left' rfl
end
abbrev vK:TypeId:=144
def zu(x:jc×Int):(oj x).length=3:=rfl
def qpa(x:jc×Int):∀u∈oj x,u.oneCell'=true:=all_eq_true.1 rfl
def qzA:∃i,Tryz.prog.info? vK=some i/\i.zero=some (.agg #[.int .u64 0,.int .u64 0,.b 0])/\i.size=3/\i.bytes=24:=se oK
def qt5{i0 C x:Int}(h:RB S w r b)(hl:b.size<=100000)(hS:∀x∈S,x<w.heap.size)(kk:∀r' w',RB S w' r' (b.li ((i0,C),x))->Fr [] w w'->K r' w'): cW 66 [.agg (HL.mk fT r).toArray,c6 i0 C,.b x] [.agg fT] w K:=by
 refine qdt ?_;have aE:b.kO.length<=100000:=(by unfold Bk.size at hl;omega);obtain⟨i,hi,hz,ab,ac⟩:=qzA;refine oB (oE [] w) fun r1 w1 _ f1 o=>oB o fun r3 w2 _ f2 o=>oB o fun r5 R _ f3 o=>oB (oE [] R) fun r7 w4 e4 f4 o2=>?_;have o4:=o.q7 f4;refine oA o4 2 rfl r.2.2.1 rfl (AD (e:=vK) (o2.at (i:=0) rfl) (h.q7 o4.fr).kO zu qpa oK hi hz ab rfl (by rw[ac];decide) oJ fun s5 B5 w5 b5 f5 n5=>?_);have G:∀x∈B5,R.heap.size<=x:=fun x u=>(n5 x u).elim (fun e=>oJ) fun h=>zL f4.size h;have U:Fr [] R w5:=f4.j8 f5 fun x u=>.inr (by rw[zE.1 u];omega);have ad:∀(s:Sl) (l:List (jc×Int)) (B:List Nat) w6,eO oj 3 w6 s l B->(∀x∈B,R.heap.size<=x)->Fr [] R w6->l=iy (fun y:jc×Int=>y.1) ((i0,C),x) b.kO->Pt.st (dd r1 2) [s.v] w6 fun w7=>dJ fT (dd r1) w7 fun t=>Pt.st (dd r5) (HL.mk fT t) w7 fun w8=>dJ fT (dd r5) w8 fun t=>K t w8:=fun s l B w6 hb hB I e=>by
  refine (o.q7 I).st' 2 rfl (HL.mk fT (r.1,r.2.1,s,r.2.2.2)).toArray rfl rfl (zO rfl) fun w7 o7 f7=>oC o7 2 rfl (r.1,r.2.1,s,r.2.2.2) rfl (o7.st' 0 rfl _ (oc rfl) rfl (zM _) fun w8 o8 f8=>oC o8 0 rfl (r.1,r.2.1,s,r.2.2.2) rfl ?_);have J:=h.q7 o8.fr;have l1:r1<R.heap.size:=eT (o.at (i:=2) rfl);have l5:r5<R.heap.size:=eT (o.at (i:=0) rfl);have ap:=(hb.q8 f7 fun x u h=>by have:=hB x u;have:=zE.1 h;omega).q8 f8 fun x u h=>by have:=hB x u;have:=zE.1 h;omega
  have aq:dW oj 3 S w8 s (iy (fun y:jc×Int=>y.1) ((i0,C),x) b.kO):=(by rw[<- e];exact v8 ap zu hS fun x u=>zL o.fr.size (hB x u));exact kk (r.1,r.2.1,s,r.2.2.2) w8 ⟨J.acc,J.ll,aq,J.due,J.mL,J.mQ,J.jH,J.told,J.gone⟩ o8.fr
 have aL:s5.len=b.kO.length:=b5.len;refine iV (fun q w'=>∃n:Nat,q=n/\n<=b.kO.length/\Fr [] w5 w'/\((b.kO.take n).find? fun y:jc×Int=>decide (y.1=(((i0,C),x):jc×Int).1))=none) (fun q _=>b.kO.length-q.toNat) ⟨0,rfl,yW _,.refl _ _,rfl⟩ ?_;rintro q w6 ⟨n,rfl,hn,I,hf⟩ X hX;apply cD<;>intro hc;have E:n<b.kO.length:=oJ;have u:=zA E;have b6:=(b5.q7 I).q7 (Fr.refl [] w6).drew;have o6:=o.q7 ((U.trans I).drew);refine dW.kX (cl:=u2) (S:=[]) (b6.jq zu fun _ _ h=>nomatch h) n rfl u oM rfl (oC o6 1 rfl (i0,C) rfl (zj (a:=b.kO[n].1) ?_));have st:=At (p:=fun y:jc×Int=>decide (y.1=(((i0,C),x):jc×Int).1)) u hf;apply dR<;>intro hb;have ah:b.kO[n].1=(i0,C):=zC hb;refine qs6 (j:=2) (x:=((i0,C),x)) (vs:=[.b x]) b6 zu rfl E rfl (zM _) (by rw[show oj b.kO[n]=oj (b.kO[n].1,b.kO[n].2) from rfl,ah];rfl) fun w7 b7 f7=>ad _ _ _ _ b7 G ((U.trans I).drew.j8 f7 fun x u=>.inr (G x u)) (Au (kf:=fun y:jc×Int=>y.1) u hf ah).symm;rw[gc _ oJ];exact hX _ _ ⟨n+1,rfl,E,I.drew,st.2 hb⟩ oJ;have E:n=b.kO.length:=oJ;subst E;rw[xY] at hf;have V:=U.trans I;refine oC (o.q7 V) 1 rfl (i0,C) rfl (eO.push (e:=vK) (x:=(((i0,C),x):jc×Int)) (b5.q7 I) zu (qpa _) oK hi hz ab rfl rfl (by rw[ac];omega) oJ fun s7 B7 w7 b7 f7 n7=>ad _ _ _ _ b7 (fun x u=>(n7 x u).elim (G x) (zL V.size)) (V.j8 f7 fun x u=>.inr (G x u)) (Ax (kf:=fun y:jc×Int=>y.1) hf).symm)
end
def dW.Ba{α:Type}{enc:α->List Value}{k:Nat}{s:Sl}{l:List α}{c:Cell}(h:dW enc k S w s l)(n:Nat){i:Int}{x:α}{y:c.El}{K:c.El->Prop}(hi:i=n)(C:l[n]?=some x)(E:0<k)(u:(enc x)[0]?=some (c.mk y))(G:K y):idx s i k fun a=>ld c a w K:=by subst hi;obtain⟨U,b,o,I,_,V,T,fr,J,R⟩:=h.at n C;refine pY I ⟨oJ,oJ⟩ ?_;rw[zJ];refine iG J y ?_ G;rw[<- R,xA,if_pos E,yZ,Nat.add_zero] at u;rw[<- xK];exact u
def qxm{l:List (HL iS)}(u:n<l.length):iX d (l.take (n+1))=iX d (l.take n)++if kP l[n]≠kP d then [l[n]] else []:=by unfold iX;rw[yF u,xB];congr 1;by_cases h:kP l[n]=kP d;simp[h];simp[h]
def qlg{K:ph×Bool->WP}(h:RB S w r b)(hl:b.size<=100000)(hS:∀x∈S,x<w.heap.size)(kk:∀r' w',RB S w' r' (b.ka d)->Fr [] w w'->K (r',decide ((iX d b.due).length<b.due.length)) w'): cW 69 [.agg (HL.mk fT r).toArray,.agg #[.int .u64 d.1,.int .u64 d.2.1,.int .u64 d.2.2.1,.int .u64 d.2.2.2]] [.agg fT,.one .bool] w K:=by
 refine qeb ?_;have aw:b.due.length<=100000:=(by unfold Bk.size at hl;omega);refine oB (oE [] w) fun r1 w1 _ f1 o=>oB o fun r3 w2 _ f2 o=>oB o fun r5 G _ f3 o=>oB (oE [] G) fun r7 w4 e4 f4 o2=>?_;have l1:r1<G.heap.size:=eT (o.at (i:=2) rfl);have l5:r5<G.heap.size:=eT (o.at (i:=0) rfl);have ae:=(h.q7 o.fr).due;refine iV (fun t w'=>∃n:Nat,∃B,t.2=n/\n<=b.due.length/\eO jl 4 w' t.1 (iX d (b.due.take n)) B/\Fr [] G w'/\∀x∈B,G.heap.size<=x) (fun t _=>b.due.length-t.2.toNat) ⟨0,[r7],rfl,yW _,eO.none (o2.at (i:=0) rfl),f4,fun x u=>by rw[zE.1 u];omega⟩ ?_;rintro⟨s,q⟩ w5 ⟨n,B,hq,hn,U,V,R⟩ X hX;dsimp only at hq U⊢;subst hq;have o5:=o.q7 V;have aa:dW jl 4 S w5 r.2.2.2.1 b.due:=ae.q7 V;have ag:r.2.2.2.1.len=b.due.length:=aa.1;refine oA o5 2 rfl r.2.2.2.1 rfl (dR (fun hc=>?_) (fun hc=>?_));have C:n<b.due.length:=(by have:=zC hc;omega);have u:=zA C;have ct:=qxm (d:=d) C;generalize b.due[n]=x at u ct;have o6:=o5.drew;have I:=aa.drew;have aD:(iX d (b.due.take n)).length<=100000:=zL (length_filter_le _ _) (by rw[yK];omega);refine gQ (fun s' w'=>∃B',eO jl 4 w' s' (iX d (b.due.take (n+1))) B'/\Fr [] G w'/\∀x∈B',G.heap.size<=x) ?_ fun s' w' ⟨B',b',f',n'⟩=>hX _ _ ⟨n+1,B',by dsimp only;rw[gc _ oJ];rfl,C,b',f',n'⟩ (by dsimp only;rw[gc _ oJ];omega);refine tN (decide (kP x≠kP d)) w5.drew (fun M hM=>?_) ?_;refine oA o6 2 rfl r.2.2.2.1 rfl (dW.Ba (c:=.int .u64) I n rfl u oM (y:=x.1) rfl (oA o6 1 rfl d.1 rfl ?_));by_cases e:x.1=d.1;refine cond_false (by rw[e];simp) (oA o6 2 rfl r.2.2.2.1 rfl (dW.yz (c:=.int .u64) I n 1 rfl u oM (y:=x.2.1) rfl (oA o6 1 rfl d.2.1 rfl ?_)));rw[show (!x.2.1==d.2.1)=decide (kP x≠kP d) by unfold kP;rw[e];by_cases e2:x.2.1=d.2.1;simp[e2];simp[e2]];exact hM;rw[show decide (kP x≠kP d)=true from zZ fun h=>e (vA h).1] at hM;exact cond_true (oP e) hM;rw[ct];have b6:=U.q7 (Fr.refl [] w5).drew;apply cD<;>intro J;rw[if_pos (J)];refine oA o6 2 rfl r.2.2.2.1 rfl (dW.pO (y:=x) I n rfl u rfl rfl (wv b6 oJ fun s7 B7 w7 b7 f7 n7=>⟨B7,b7,V.drew.j8 f7 fun x u=>.inr (R x u),fun x u=>(n7 x u).elim (R x) (zL V.drew.size)⟩));rw[if_neg (J),xG];exact⟨B,b6,V.drew,R⟩;have C:n=b.due.length:=(by have:=zB hc;omega);subst C;rw[xY] at U;refine oA o5 2 rfl r.2.2.2.1 rfl (o5.st' 2 rfl (HL.mk fT (r.1,r.2.1,r.2.2.1,s,r.2.2.2.2)).toArray rfl rfl (zO rfl) fun w7 o7 f7=>oC o7 2 rfl (r.1,r.2.1,r.2.2.1,s,r.2.2.2.2) rfl (o7.st' 0 rfl _ (oc rfl) rfl (zM _) fun w8 o8 f8=>oC o8 0 rfl (r.1,r.2.1,r.2.2.1,s,r.2.2.2.2) rfl ?_));have E:=h.q7 o8.fr;have al:=(U.q8 f7 fun x u h=>by have:=R x u;have:=zE.1 h;omega).q8 f8 fun x u h=>by have:=R x u;have:=zE.1 h;omega
 have e1:s.len=(iX d b.due).length:=U.len;have e2:r.2.2.2.1.len=b.due.length:=ag
 have:=kk (r.1,r.2.1,r.2.2.1,s,r.2.2.2.2) w8 ⟨E.acc,E.ll,E.kO,v8 al wL hS fun x u=>zL o.fr.size (R x u),E.mL,E.mQ,E.jH,E.told,E.gone⟩ o8.fr
 rw[<- e1,<- e2] at this;simpa using this
def qt0{K:ph×Bool->WP}(h:RB S w r b)(u:b.size<=100000)(C:∀x∈S,x<w.heap.size)(E:∀r' w' t,RB S w' r' (b.ka d)->Fr [] w w'->K (r',t) w'): cW 69 [.agg (HL.mk fT r).toArray,.agg #[.int .u64 d.1,.int .u64 d.2.1,.int .u64 d.2.2.1,.int .u64 d.2.2.2]] [.agg fT,.one .bool] w K:=
 qlg h u C fun r' w' h f=>E r' w' _ h f
def qyr{J0 most:Int}{K:Sl->WP}(h:RB S w r b)(hl:b.size<=100000)(kk:∀s B w',eO jl 4 w' s (kU b.due J0 most) B->Fr [] w w'->(∀x∈B,w.heap.size<=x)->K s w'): cW 11 [.agg (HL.mk fT r).toArray,.int .u64 J0,.i most] de w K:=by
 refine qfk ?_;have al:b.due.length<=100000:=(by unfold Bk.size at hl;omega);refine oB (oE [] w) fun r1 U _ f3 o=>oB (oE [] U) fun r7 w4 e4 f4 o2=>?_;have ac:=(h.q7 f3).due;unfold kU at kk;generalize hp:(fun d:HL iS=>decide (d.1<=J0))=p at kk;refine iV (fun t w'=>∃n:Nat,∃B,t.2=n/\n<=b.due.length/\eO jl 4 w' t.1 ((b.due.take n).filter p) B/\((b.due.take n).filter p).length<=most.toNat/\Fr [] U w'/\∀x∈B,U.heap.size<=x) (fun t _=>b.due.length-t.2.toNat) ⟨0,[r7],rfl,yW _,eO.none (o2.at (i:=0) rfl),yW _,f4,fun x C=>by rw[zE.1 C];omega⟩ ?_;rintro⟨s,q⟩ w5 ⟨n,B,hq,hn,J,hm,R,V⟩ X hX;dsimp only at hq J⊢;subst hq;have o5:=o.q7 R;have G:dW jl 4 S w5 r.2.2.2.1 b.due:=ac.q7 R;have ar:r.2.2.2.1.len=b.due.length:=G.1;have hs:=J.len;refine tN (decide (n<b.due.length/\(s.len:Int)<most)) w5 (fun M hM=>?_) ?_;refine oA o5 0 rfl r.2.2.2.1 rfl (dR (fun u=>?_) (fun u=>?_));have u:=zC u;rw[show decide ((s.len:Int)<most)=decide (n<b.due.length/\(s.len:Int)<most) from decide_eq_decide.2 ⟨fun h=>⟨oJ,h⟩,fun h=>h.2⟩];exact hM;have u:=zB u;rw[show decide (n<b.due.length/\(s.len:Int)<most)=false from zU fun h=>u oJ] at hM;exact hM;apply dR<;>intro u;obtain⟨E,au⟩:=zC u;have C:=zA E;have ct:(b.due.take (n+1)).filter p=(b.due.take n).filter p++if p b.due[n] then [b.due[n]] else []:=by rw[yF E,xB];congr 1;by_cases h:p b.due[n];simp[h];simp[h]
 generalize b.due[n]=x at C ct;have av:((b.due.take n).filter p).length<=100000:=zL (length_filter_le _ _) (by rw[yK];omega);refine gQ (fun s' w'=>∃B',eO jl 4 w' s' ((b.due.take (n+1)).filter p) B'/\((b.due.take (n+1)).filter p).length<=most.toNat/\Fr [] U w'/\∀x∈B',U.heap.size<=x) ?_ fun s' w' ⟨B',b',m',f',n'⟩=>hX _ _ ⟨n+1,B',by dsimp only;rw[gc _ oJ];rfl,E,b',m',f',n'⟩ (by dsimp only;rw[gc _ oJ];omega);refine oA o5 0 rfl r.2.2.2.1 rfl (dW.Ba (c:=.int .u64) G n rfl C oM (y:=x.1) rfl ?_);rw[ct,show (decide (x.1<=J0))=p x by rw[<- hp]];apply dR<;>intro I;rw[if_pos I];refine oA o5 0 rfl r.2.2.2.1 rfl (dW.pO (y:=x) G n rfl C rfl rfl (wv J oJ fun s7 B7 w7 b7 f7 n7=>⟨B7,b7,by rw[zF,xL];omega,R.j8 f7 fun x C=>.inr (V x C),fun x C=>(n7 x C).elim (V x) (zL R.size)⟩));rw[if_neg (by rw[I];decide),xG];exact⟨B,J,hm,R,V⟩
 ·have u:=zB u;have e:(b.due.filter p).take most.toNat=(b.due.take n).filter p:=by
   conv=>lhs;rw[<- xD n b.due,xB]
   by_cases E:n<b.due.length;have:((b.due.take n).filter p).length=most.toNat:=by have:¬(s.len:Int)<most:=fun h=>u ⟨E,h⟩;omega
   exact take_left' this;rw[drop_of_length_le oJ,filter_nil,xG];exact zS hm
  rw[<- e] at J;exact kk s B w5 J (f3.trans R) fun x C=>zL f3.size (V x C)
section
section
variable {w:World}
def qvn{a b:HL iS}{K:Bool->WP}(u:∀w',Fr [] w w'->K (lY a b) w'):cW 110 [.agg #[.int .u64 a.1,.int .u64 a.2.1,.int .u64 a.2.2.1,.int .u64 a.2.2.2],.agg #[.int .u64 b.1,.int .u64 b.2.1,.int .u64 b.2.2.1,.int .u64 b.2.2.2]] dg w K:=by refine qgW<|oB (oE [] w) fun C w1 _ E o=>oB o fun G w2 _ I o=>oA o 1 rfl a.1 rfl (oA o 0 rfl b.1 rfl ?_);have u:=u w2 o.fr;unfold lY at u;apply dR<;>intro h;rw[zZ (.inl (zC h))] at u;exact u;have h:=zB h;refine oA o 1 rfl a.1 rfl (oA o 0 rfl b.1 rfl (dR (fun e=>?_) (fun e=>?_)));have e:a.1=b.1:=eq_of_beq e;refine oA o 1 rfl a.2.1 rfl (oA o 0 rfl b.2.1 rfl ?_);rw[show decide (a.1<b.1\/a.1=b.1/\a.2.1<b.2.1)=decide (a.2.1<b.2.1) from decide_eq_decide.2 ⟨fun q=>q.elim (fun q=>absurd q h) fun q=>q.2,fun q=>.inr ⟨e,q⟩⟩] at u;exact u;have e:a.1≠b.1:=ne_of_beq_false e;rw[zU fun q=>q.elim h fun q=>e q.1] at u;exact u
end
end
def qe (d:HL iS):Bool->List (HL iS)->List (HL iS)
 | c,[]=>if c then [] else [d]
 | c,x::r=>(if c=false/\lY d x=true then [d] else [])++x::qe d (c||lY d x) r
def qpj{d:HL iS}:∀l,qe d true l=l
 | []=>rfl
 | x::r=>by rw[qe,if_neg (fun h=>nomatch h.1),Bool.true_or,qpj r];rfl
def qtk{d:HL iS}:∀l,qe d false l=kW d l
 | []=>rfl
 | x::r=>by rw[qe,kW,Bool.false_or];by_cases h:lY d x=true;rw[if_pos ⟨rfl,h⟩,if_pos h,h,qpj];rfl;rw[if_neg fun q=>h q.2,if_neg h,Bool.eq_false_iff.2 h,qtk r];rfl
def qt2(h:RB S w r b)(hl:b.size<=100000)(hS:∀x∈S,x<w.heap.size)(kk:∀r' w',RB S w' r' (b.jh d)->Fr [] w w'->K r' w'): cW 68 [.agg (HL.mk fT r).toArray,.agg #[.int .u64 d.1,.int .u64 d.2.1,.int .u64 d.2.2.1,.int .u64 d.2.2.2]] [.agg fT] w K:=by
 refine qec ?_;have av:b.due.length<=100000:=(by unfold Bk.size at hl;omega);refine oB (oE [] w) fun r1 w1 _ f1 o=>oB o fun r3 w2 _ f2 o=>oB o fun r5 w3 _ f3 o=>oC o 2 rfl r rfl (oC o 1 rfl d rfl ?_);have aw:=o.fr.size;have l1:r1<w3.heap.size:=eT (o.at (i:=2) rfl);have l5:r5<w3.heap.size:=eT (o.at (i:=0) rfl);have n1:w.heap.size<=r1:=(o.own _ (yE (i:=2) rfl)).elim (fun h=>nomatch h) id;have n5:w.heap.size<=r5:=(o.own _ (yE (i:=0) rfl)).elim (fun h=>nomatch h) id;have ax:∀x∈r1::r5::S,x<w3.heap.size:=fun x u=>by rcases zG.1 u with rfl|u;exact l1;rcases zG.1 u with rfl|u;exact l5;exact yC (hS x u) o.fr.size
 have h0:RB (r1::r5::S) w r b:=h.q8 (.refl _ _) fun x u=>by rcases zG.1 u with rfl|u;exact .inr n1;rcases zG.1 u with rfl|u;exact .inr n5;exact .inl u
 refine qt0 (d:=d) (h0.q7 o.fr) hl ax fun r' w4 _ h4 f4=>(o.q7 f4).st' 2 rfl _ (oc rfl) rfl (zM _) fun I o f5=>?_;have h5:=h4.q8 (f5.mono fun x u _=>by rw[zE.1 u];exact mem_cons_self) fun x u=>.inl u;have z5:w3.heap.size<=I.heap.size:=zL f4.size f5.size;have ay:(iX d b.due).length<=100000:=zL (length_filter_le _ _) av;have U:dW jl 4 (r1::r5::S) I r'.2.2.2.1 (iX d b.due):=h5.due;have ab:(b.jh d).due=kW d (iX d b.due):=rfl;generalize iX d b.due=L at ay U ab;have aX:r'.2.2.2.1.len=L.length:=U.1;refine oB (oE [] I) fun r7 w6 e6 f6 o2=>iV (fun t w'=>∃n:Nat,∃B C,t.2.2=n/\n<=L.length/\eO jl 4 w' t.1 C B/\C++qe d t.2.1 (L.drop n)=kW d L/\C.length<=2*n/\Fr [] I w'/\∀x∈B,I.heap.size<=x) (fun t _=>L.length-t.2.2.toNat) ⟨0,[r7],[],rfl,yW _,eO.none (o2.at (i:=0) rfl),qtk L,zM _,f6,fun x u=>by rw[zE.1 u];omega⟩ ?_;rintro⟨s,c,q⟩ w7 ⟨n,B,C,hq,hn,hb,V,a1,f7,nB⟩ X hX;dsimp only at hq hb V⊢;subst hq;have o7:=o.q7 f7;have az:=U.q7 f7;refine oA o7 2 rfl r'.2.2.2.1 rfl (dR (fun hc=>?_) (fun hc=>?_));have E:n<L.length:=(by have:=zC hc;omega);have u:=zA E;rw[zX E,qe] at V;generalize L[n]=x at u V;refine gQ (fun z w'=>∃B',z.2=(c||lY d x)/\eO jl 4 w' z.1 (C++if c=false/\lY d x=true then [d] else []) B'/\Fr [] I w'/\∀x∈B',I.heap.size<=x) ?_ ?_;refine gQ (fun z w'=>z=decide (c=false/\lY d x=true)/\Fr [] w7 w') ?_ ?_;cases c;refine cond_true rfl (oC o7.drew 1 rfl d rfl (oA o7.drew 2 rfl r'.2.2.2.1 rfl (dW.pO (y:=x) az.drew n rfl u rfl rfl (qvn fun w8 f8=>⟨?_,(Fr.refl [] w7).drew.trans f8⟩))));cases lY d x<;>simp;exact cond_false rfl ⟨oL,(Fr.refl [] w7).drew⟩;rintro z w8 ⟨rfl,f8⟩;have al:=hb.q7 f8;apply dR<;>intro J;have J:=zC J;rw[if_pos J];refine oC (o7.q7 f8) 1 rfl d rfl (wv al oJ fun s9 B9 w9 b9 G R=>⟨B9,by dsimp only;rw[J.2,Bool.or_true],b9,(f7.trans f8).j8 G fun x u=>.inr (nB x u),fun x u=>(R x u).elim (nB x) (zL (f7.trans f8).size)⟩);have J:=zB J;rw[if_neg J,xG];exact⟨B,by dsimp only;cases c<;>simp at J⊢;exact J,al,f7.trans f8,nB⟩;rintro⟨s9,c9⟩ w9 ⟨B9,rfl,b9,G,R⟩;dsimp only at b9⊢;refine oA (o.q7 G) 2 rfl r'.2.2.2.1 rfl (dW.pO (y:=x) (U.q7 G) n rfl u rfl rfl (wv b9 (by rw[zF];split<;>simp<;>omega) fun a4 aC aD aE aa aF=>?_));refine hX _ _ ⟨n+1,aC,_,by dsimp only;rw[gc _ oJ];rfl,E,aE,by rw[<- V];simp only[zV,xI,xH],by rw[zF,zF];split<;>simp<;>omega,G.j8 aa fun x u=>.inr (R x u),fun x u=>(aF x u).elim (R x) (zL G.size)⟩ (by dsimp only;rw[gc _ oJ];omega);have E:n=L.length:=(by have:=zB hc;omega);subst E;rw[drop_length,qe] at V;refine gQ (fun z w'=>∃B',eO jl 4 w' z (kW d L) B'/\Fr [] I w'/\∀x∈B',I.heap.size<=x) ?_ ?_;cases c;rw[if_neg oM] at V;refine cond_true rfl (oC o7 1 rfl d rfl (wv hb oJ fun s9 B9 w9 b9 G R=>⟨B9,by rw[<- V];exact b9,f7.j8 G fun x u=>.inr (nB x u),fun x u=>(R x u).elim (nB x) (zL f7.size)⟩));rw[if_pos rfl,xG] at V;exact cond_false rfl ⟨B,by rw[<- V];exact hb,f7,nB⟩;rintro s9 w9 ⟨B9,b9,G,R⟩;refine (o.q7 G).st' 2 rfl (HL.mk fT (r'.1,r'.2.1,r'.2.2.1,s9,r'.2.2.2.2)).toArray rfl rfl (zO rfl) fun aD an aa=>oC an 2 rfl (r'.1,r'.2.1,r'.2.2.1,s9,r'.2.2.2.2) rfl (an.st' 0 rfl _ (oc rfl) rfl (zM _) fun aG ao ap=>oC ao 0 rfl (r'.1,r'.2.1,r'.2.2.1,s9,r'.2.2.2.2) rfl ?_);have g9:=h5.q7 G;have aH:=g9.q8 (aa.mono fun x u _=>by rw[zE.1 u];exact mem_cons_self) fun x u=>.inl u;have hr:=aH.q8 (S':=S) (ap.mono fun x u _=>by rw[zE.1 u];exact zN _ mem_cons_self) fun x u=>.inl (zN _ (zN _ u));have aq:=(b9.q8 aa fun x u h=>by have:=R x u;have:=zE.1 h;omega).q8 ap fun x u h=>by have:=R x u;have:=zE.1 h;omega
 exact kk (r'.1,r'.2.1,r'.2.2.1,s9,r'.2.2.2.2) aG ⟨hr.acc,hr.ll,hr.kO,by rw[ab];exact v8 (w0:=I) aq wL (fun x u=>yC (hS x u) (zL aw z5)) R,hr.mL,hr.mQ,hr.jH,hr.told,hr.gone⟩ ao.fr
end
section
open Go Go.Pt List
open Go.IntKind (wrap)
open Classical
attribute [local irreducible] ld dJ iH mZ i7 fi st new idx i8 jr fB js iY lV gT nn call dV inv run fc iM join loop held ext jR eI mH mz mI IntKind.wrap
end
section
open Go Go.Pt List
open Go.IntKind (wrap)
open Classical
attribute [local irreducible] ld dJ iH mZ i7 fi st new idx i8 jr fB js iY lV gT nn call dV inv run fc iM join loop held ext jR eI mH mz mI IntKind.wrap
variable {K:Addr->Prop} {S:List Nat} {w:World}
def qyH{s:Sl}{i:Int}{k:Nat}{p:Prop}(u:p)(h:idx s i k K):idx s i k fun a=>gT p (K a):=by unfold idx at h⊢;obtain⟨a,C,E,G⟩:=h;exact⟨a,C,E,pc u G⟩
def Do(x:Kp):∀u∈rz x,u.oneCell'=true:=all_eq_true.1 rfl
def qzw:∃i,Tryz.prog.info? EH=some i/\i.zero=some (.agg (rz kpZ).toArray)/\i.size=18/\i.bytes=128:=se oK
def qt4{r:ph}{b:Bk}{k:Kp}{K:ph->WP}(h:RB S w r b)(hl:b.size<=100000)(hS:∀x∈S,x<w.heap.size)(kk:∀r' w',RB S w' r' (b.jF k)->Fr [] w w'->K r' w'): cW 65 [.agg (HL.mk fT r).toArray,.agg (rz k).toArray] [.agg fT] w K:=by
 refine qcR ?_;have ak:b.ll.length<=100000/\b.mL.length<=100000/\b.mQ.length<=100000:=(by unfold Bk.size at hl;omega);obtain⟨i,hi,hz,al,am⟩:=qzw;refine oB (oE [] w) fun E w1 _ f1 o=>oB o fun r3 w2 _ f2 o=>oB o fun G w3 _ f3 o=>oC o 1 rfl k.1 rfl (oB o fun r8 w4 _ f4 o=>o.st' 0 rfl _ (oc rfl) rfl (zM _) fun w5 o f5=>?_);have l1:E<w5.heap.size:=eT (o.at (i:=3) rfl);have l5:G<w5.heap.size:=eT (o.at (i:=1) rfl);have n1:w.heap.size<=E:=(o.own _ (yE (i:=3) rfl)).elim (fun h=>nomatch h) id;have n5:w.heap.size<=G:=(o.own _ (yE (i:=1) rfl)).elim (fun h=>nomatch h) id;have an:∀x∈E::G::S,x<w5.heap.size:=fun x u=>by rcases zG.1 u with rfl|u;exact l1;rcases zG.1 u with rfl|u;exact l5;exact yC (hS x u) o.fr.size
 have h0:RB (E::G::S) w r b:=h.q8 (.refl _ _) fun x u=>by rcases zG.1 u with rfl|u;exact .inr n1;rcases zG.1 u with rfl|u;exact .inr n5;exact .inl u
 have h5:=h0.q7 o.fr;have C:∀ {w w':World},Fr [E] w w'->Fr (E::G::S) w w':=fun f=>f.mono fun x u _=>by rw[zE.1 u];exact mem_cons_self
 refine oA o 3 rfl r.2.2.2.2.1 rfl (oC o 0 rfl (k.1.2.2.1,k.1.2.2.2.1) rfl (oA o 0 rfl k.1.2.2.2.2.2.2.2.2.2.2.2.2.2.2.2 rfl (oC o 0 rfl (k.1.1,k.1.2.1) rfl (qqB (m:=wI k.1) h5.mL ak.2.1 an fun s6 w6 d6 J=>?_))));refine (o.q7 J).st' 3 rfl (HL.mk fT (r.1,r.2.1,r.2.2.1,r.2.2.2.1,s6,r.2.2.2.2.2)).toArray rfl rfl (zO rfl) fun w7 o f7=>?_;have h7:=(h5.q7 J).q8 (C f7) fun x u=>.inl u;have d7:=d6.q8 (C f7) fun x u=>.inl u;have z7:w5.heap.size<=w7.heap.size:=zL J.size f7.size;refine oA o 3 rfl r.2.2.2.2.2.1 rfl (oC o 0 rfl (k.1.2.2.2.2.1,k.1.2.2.2.2.2.1) rfl (oA o 0 rfl k.1.2.2.2.2.2.2.2.2.2.2.2.2.2.2.2 rfl (oC o 0 rfl (k.1.1,k.1.2.1) rfl (qqB (m:=Cg k.1) h7.mQ ak.2.2 (fun x u=>yC (an x u) z7) fun s8 w8 aD f8=>?_))));refine (o.q7 f8).st' 3 rfl (HL.mk fT (r.1,r.2.1,r.2.2.1,r.2.2.2.1,s6,s8,r.2.2.2.2.2.2)).toArray rfl rfl (zO rfl) fun w9 o f9=>?_;have h9:=(h7.q7 f8).q8 (C f9) fun x u=>.inl u;have d9:=(d7.q7 f8).q8 (C f9) fun x u=>.inl u;have c9:=aD.q8 (C f9) fun x u=>.inl u;have ba:E<w9.heap.size:=eT (o.at (i:=3) rfl);have bb:G<w9.heap.size:=eT (o.at (i:=1) rfl);refine oB (oE [] w9) fun r7 bc e7 R o2=>?_;have aG:=o.q7 R;refine oA aG 3 rfl r.2.1 rfl (AD (e:=EH) (o2.at (i:=0) rfl) (h9.q7 R).ll t8 Do oK hi hz al rfl (by rw[am];decide) oJ fun ap B5 aq b5 aI aJ=>?_);have U:∀x∈B5,w9.heap.size<=x:=fun x u=>(aJ x u).elim (fun e=>oJ) fun h=>zL R.size h;have ad:Fr [] w9 aq:=R.j8 aI fun x u=>.inr (by rw[zE.1 u];omega);have ar:∀(s:Sl) (l:List Kp) (B:List Nat) w6,eO rz 18 w6 s l B->(∀x∈B,w9.heap.size<=x)->Fr [] w9 w6->l=iy rV k b.ll->Pt.st (dd E 1) [s.v] w6 fun w7=>dJ fT (dd E) w7 fun t=>Pt.st (dd G) (HL.mk fT t) w7 fun w8=>dJ fT (dd G) w8 fun t=>K t w8:=fun s l B bg hb hB V e=>by
  refine (o.q7 V).st' 3 rfl (HL.mk fT (r.1,s,r.2.2.1,r.2.2.2.1,s6,s8,r.2.2.2.2.2.2)).toArray rfl rfl (zO rfl) fun av aw aa=>oC aw 3 rfl (r.1,s,r.2.2.1,r.2.2.2.1,s6,s8,r.2.2.2.2.2.2) rfl (aw.st' 1 rfl _ (oc rfl) rfl (zM _) fun ae ax ay=>oC ax 1 rfl (r.1,s,r.2.2.1,r.2.2.2.1,s6,s8,r.2.2.2.2.2.2) rfl ?_);have af:Fr (E::G::S) av ae:=ay.mono fun x u _=>by rw[zE.1 u];exact zN _ mem_cons_self
  have dn:∀x∈S,x∈E::G::S\/av.heap.size<=x:=fun x u=>.inl (zN _ (zN _ u));have hr:=((h9.q7 V).q8 (C aa) fun x u=>.inl u).q8 af dn;have hd:=((d9.q7 V).q8 (C aa) fun x u=>.inl u).q8 af dn;have hc:=((c9.q7 V).q8 (C aa) fun x u=>.inl u).q8 af dn;have aM:=(hb.q8 aa fun x u h=>by have:=hB x u;have:=zE.1 h;omega).q8 ay fun x u h=>by have:=hB x u;have:=zE.1 h;omega
  have aN:dW rz 18 S ae s (iy rV k b.ll):=(by rw[<- e];exact v8 aM t8 hS fun x u=>zL o.fr.size (hB x u));exact kk _ ae ⟨hr.acc,aN,hr.kO,hr.due,hd,hc,hr.jH,hr.told,hr.gone⟩ ax.fr
 have bi:ap.len=b.ll.length:=b5.len;refine iV (fun q w'=>∃n:Nat,q=n/\n<=b.ll.length/\Fr [] aq w'/\((b.ll.take n).find? fun x=>decide (rV x=rV k))=none) (fun q _=>b.ll.length-q.toNat) ⟨0,rfl,yW _,.refl _ _,rfl⟩ ?_;rintro q w6 ⟨n,rfl,hn,J,hf⟩ X hX;apply cD<;>intro hc;have I:n<b.ll.length:=oJ;have u:=zA I;have b6:=(b5.q7 J).q7 (Fr.refl [] w6).drew;have o6:=o.q7 ((ad.trans J).drew);refine dW.kX (cl:=u2) (S:=[]) (b6.jq t8 fun _ _ h=>nomatch h) n rfl u oM rfl (oC o6 0 rfl (rV k) rfl (zj (a:=rV b.ll[n]) ?_));have st:=At (p:=fun x=>decide (rV x=rV k)) u hf;apply dR<;>intro hb;refine qA (o6.at (i:=2) rfl) (rz k) (t8 k) rfl ?_
 have:=Fk (K:=fun aO=>Pt.st (dd E 1) [ap.v] aO fun w7=>dJ fT (dd E) w7 fun t=>Pt.st (dd G) (HL.mk fT t) w7 fun w8=>dJ fT (dd G) w8 fun t=>K t w8) b6 t8 Do (x:=k) rfl I fun w7 b7 f7=>ar _ _ _ _ b7 U ((ad.trans J).drew.j8 f7 fun x u=>.inr (U x u)) (Au u hf (zC hb)).symm
 exact qyH (t8 k) this;rw[gc _ oJ];exact hX _ _ ⟨n+1,rfl,I,J.drew,st.2 hb⟩ oJ;have I:n=b.ll.length:=oJ;subst I;rw[xY] at hf;have ag:=ad.trans J;refine qA ((o.q7 ag).at (i:=2) rfl) (rz k) (t8 k) rfl (pc (t8 k) (eO.push (e:=EH) (x:=k) (b5.q7 J) t8 (Do k) oK hi hz al rfl rfl (by rw[am];omega) oJ fun s7 B7 w7 b7 f7 n7=>ar _ _ _ _ b7 (fun x u=>(n7 x u).elim (U x) (zL ag.size)) (ag.j8 f7 fun x u=>.inr (U x u)) (Ax hf).symm))
abbrev FJ:TypeId:=117
def AK(x:Ln):(mn x).length=12:=rfl
def qo8(x:Ln):∀u∈mn x,u.oneCell'=true:=all_eq_true.1 rfl
def qzx:∃i,Tryz.prog.info? FJ=some i/\i.zero=some (.agg (mn ((0,0),zp)).toArray)/\i.size=12/\i.bytes=96:=se oK
def qz4{α:Type}{enc:α->List Value}{k:Nat}{s:Sl}{l:List α}(h:dW enc k S w s l)(n:Nat){i:Int}{x:α}(hi:i=n)(E:l[n]?=some x)(G:∀b o u T C,w.heap[b]?=some (.cells u T C)->(u.toList.drop o).take k=enc x->K (dd b o)):idx s i k K:=by subst hi;obtain⟨U,b,o,I,_,u,T,C,J,R⟩:=dW.at h n E;refine pY I ⟨oJ,oJ⟩ ?_;rw[zJ];exact G b _ u T C J R
def qt3{r:ph}{b:Bk}{a0 a1:Int}{x:HL lX}{K:ph->WP}(h:RB S w r b)(hl:b.size<=100000)(hS:∀x∈S,x<w.heap.size)(kk:∀r' w',RB S w' r' (b.lG ((a0,a1),x))->Fr [] w w'->K r' w'): cW 70 [.agg (HL.mk fT r).toArray,c6 a0 a1,.agg (HL.mk lX x).toArray] [.agg fT] w K:=by
 refine qed ?_;have aL:b.jH.length<=100000:=(by unfold Bk.size at hl;omega);obtain⟨i,hi,hz,ad,ae⟩:=qzx;have hm:∃m:Ln,m=((a0,a1),x):=⟨_,rfl⟩;obtain⟨m,em⟩:=hm;rw[<- em] at kk;refine oB (oE [] w) fun r1 w1 _ f1 o=>oB o fun r3 w2 _ f2 o=>oB o fun r5 aN _ aO o=>oB o fun r7 V _ f3 o=>oB (oE [] V) fun r9 w4 e4 f4 o2=>?_;have o4:=o.q7 f4;refine oA o4 3 rfl r.2.2.2.2.2.2.1 rfl (AD (e:=FJ) (o2.at (i:=0) rfl) (h.q7 o4.fr).jH AK qo8 oK hi hz ad rfl (by rw[ae];decide) oJ fun s5 B5 w5 b5 f5 n5=>?_);have G:∀x∈B5,V.heap.size<=x:=fun x u=>(n5 x u).elim (fun e=>oJ) fun h=>zL f4.size h;have aa:Fr [] V w5:=f4.j8 f5 fun x u=>.inr (by rw[zE.1 u];omega);have af:∀(s:Sl) (l:List Ln) (B:List Nat) J,eO mn 12 J s l B->(∀x∈B,V.heap.size<=x)->Fr [] V J->l=iy qF m b.jH->Pt.st (dd r1 6) [s.v] J fun w7=>dJ fT (dd r1) w7 fun t=>Pt.st (dd r7) (HL.mk fT t) w7 fun w8=>dJ fT (dd r7) w8 fun t=>K t w8:=fun s l B J C hB R e=>by
  refine (o.q7 R).st' 3 rfl (HL.mk fT (r.1,r.2.1,r.2.2.1,r.2.2.2.1,r.2.2.2.2.1,r.2.2.2.2.2.1,s,r.2.2.2.2.2.2.2)).toArray rfl rfl (zO rfl) fun w7 o7 f7=>oC o7 3 rfl (r.1,r.2.1,r.2.2.1,r.2.2.2.1,r.2.2.2.2.1,r.2.2.2.2.2.1,s,r.2.2.2.2.2.2.2) rfl (o7.st' 0 rfl _ (oc rfl) rfl (zM _) fun w8 o8 f8=>oC o8 0 rfl (r.1,r.2.1,r.2.2.1,r.2.2.2.1,r.2.2.2.2.1,r.2.2.2.2.2.1,s,r.2.2.2.2.2.2.2) rfl ?_);have U:=h.q7 o8.fr;have l1:r1<V.heap.size:=eT (o.at (i:=3) rfl);have l5:r7<V.heap.size:=eT (o.at (i:=0) rfl);have ap:=(C.q8 f7 fun x u h=>by have:=hB x u;have:=zE.1 h;omega).q8 f8 fun x u h=>by have:=hB x u;have:=zE.1 h;omega
  have aq:dW mn 12 S w8 s (iy qF m b.jH):=(by rw[<- e];exact v8 ap AK hS fun x u=>zL o.fr.size (hB x u));exact kk _ w8 ⟨U.acc,U.ll,U.kO,U.due,U.mL,U.mQ,aq,U.told,U.gone⟩ o8.fr
 have aV:s5.len=b.jH.length:=b5.len;refine iV (fun q w'=>∃n:Nat,q=n/\n<=b.jH.length/\Fr [] w5 w'/\((b.jH.take n).find? fun x=>decide (qF x=qF m))=none) (fun q _=>b.jH.length-q.toNat) ⟨0,rfl,yW _,.refl _ _,rfl⟩ ?_;rintro q J ⟨n,rfl,hn,R,hf⟩ X hX;apply cD<;>intro hc;have E:n<b.jH.length:=oJ;have u:=zA E;have b6:=(b5.q7 R).q7 (Fr.refl [] J).drew;have o6:=o.q7 ((aa.trans R).drew);have r6:dW mn 12 [] J.drew s5 b.jH:=b6.jq AK fun _ _ h=>nomatch h;refine tN (decide (qF b.jH[n]=qF m)) J.drew (fun M hM=>?_) ?_;refine dW.kX (cl:=u2) r6 n rfl u oM rfl (oC o6 2 rfl (a0,a1) rfl (zj (a:=b.jH[n].1) ?_));apply dR<;>intro C;have C:=zC C;refine qz4 r6 n rfl u fun b' o' cs T fr aw ax=>?_;simp only[Addr.q9];refine iG aw (mF (k9 b.jH[n].2)) ?_ (oA o6 1 rfl (mF (k9 x)) rfl ?_);have e:(mn b.jH[n])[10]?=some (.int .u64 (mF (k9 b.jH[n].2))):=rfl;rw[<- ax,xA,if_pos oM,yZ] at e;rw[<- xK];exact e;rw[show (mF (k9 b.jH[n].2)==mF (k9 x))=decide (qF b.jH[n]=qF m) by unfold qF;rw[C,em];by_cases e:mF (k9 b.jH[n].2)=mF (k9 x);simp[e];simp[e]];exact hM;have C:=zB C;rw[show decide (qF b.jH[n]=qF m)=false from zU fun e=>C (by rw[em] at e;exact (vA e).1)] at hM;exact hM;have st:=At (p:=fun x=>decide (qF x=qF m)) u hf;apply dR<;>intro C;have hk:=zC C;have h1:b.jH[n].1=(a0,a1):=(by rw[em] at hk;exact (vA hk).1);refine oC o6 1 rfl x rfl (qs6 (j:=2) (x:=m) (vs:=HL.mk lX x) b6 AK rfl E rfl (zM _) (by rw[em,show mn b.jH[n]=mn (b.jH[n].1,b.jH[n].2) from rfl,h1];rfl) fun w7 b7 f7=>af _ _ _ _ b7 G ((aa.trans R).drew.j8 f7 fun x u=>.inr (G x u)) (Au u hf hk).symm);rw[gc _ oJ];exact hX _ _ ⟨n+1,rfl,E,R.drew,st.2 C⟩ oJ;have E:n=b.jH.length:=oJ;subst E;rw[xY] at hf;have I:=aa.trans R;refine oC (o.q7 I) 2 rfl (a0,a1) rfl (oC (o.q7 I) 1 rfl x rfl (eO.push (e:=FJ) (x:=m) (b5.q7 R) AK (qo8 m) oK hi hz ad rfl (by rw[em];rfl) (by rw[ae];omega) oJ fun s7 B7 w7 b7 f7 n7=>af _ _ _ _ b7 (fun x u=>(n7 x u).elim (G x) (zL I.size)) (I.j8 f7 fun x u=>.inr (G x u)) (Ax hf).symm))
section
abbrev WF:FuncId:=86
structure Dg (w:World) (v:Value) (pb:Nat) (t:Int) (frm to:Key) (down:Bool) (WB:List Nat):Prop where
 val:∃ r1 r3 r5 r7 r9 s1 s2 B1 B2,v=.func (.func WF) #[] #[dB r1,dB r3,dB r5,dB r7,dB r9]/\WB=r1::r3::r5::r7::r9::(B1++B2)/\
  w.cell? (dd r1)=some (dB pb)/\w.cell? (dd r3)=some (.i t)/\w.cell? (dd r5)=some s1.v/\w.cell? (dd r7)=some s2.v/\w.cell? (dd r9)=some (.bool down)/\fO w s1 frm B1/\fO w s2 to B2
 lt:∀ b∈WB,b<w.heap.size
section
variable {dbk pb:Nat} {FD F:List Nat} {D:dE} {M:dU} {k v:Nat} {frm to:Key} {down:Bool} {w:World}
structure Gv (yield:Value) (Yc:List Nat) (wb:World) (L:fL) (I:Nat->WP) (E:WP):Prop where
 stay:∀ i W W' Z,I i W->Fr Z W W'->(∀ b∈Z,wb.heap.size<=b)->I i W'
 take:∀ i (hi:i<L.length) W ks vs B1 B2 (K:Bool->WP),I i W->fO W ks L[i].1 B1->fO W vs L[i].2 B2->(∀ b∈B1++B2,wb.heap.size<=b)->wb.heap.size<=W.heap.size->(∀ W',Fr Yc W W'->I (i+1) W'->K true W')->(∀ W',E W'->K false W')->dV Tryz.prog yield [ks.v,vs.v] dg W K
end
end
end
section
open Go Go.Pt List
open Go.IntKind (wrap)
open Classical
section
variable {α:Type} {p:α->Bool} {x:α} {l A B:List α} {lt:α->α->Prop}
end
end
section
open Go Go.Pt List
open Go.IntKind (wrap)
open Classical
def qAf{P:Program}{t:TypeId}{x y:Operand}{cs ds:Array Value}{w:World}{K:Bool->Prop}(d:Nat)(G:d<=10000)(r:Bool)(h:sd P d t (.agg cs) (.agg ds)=some r)(C:P.eqGuardType P.depth t=false)(k:K (!r)): fc [gO.one Cell.bool] (fun w'=>(do eqGuard .neq t x y (.agg cs) (.agg ds);binOp .neq t (.agg cs) (.agg ds):Sem Value).run P w') w K:=by have u:=CM d t _ _ r h (10000-d) w;rw[show d+(10000-d)=10000 by omega] at u;have E:(binOp .neq t (.agg cs) (.agg ds)).run P w=.ok (.bool (!r)) w:=sE (P:=P) true u oL oL oL oL;refine qJ (ts:=[gO.one Cell.bool]) (!r) ?_ k;show ((do eqGuard .neq t x y (.agg cs) (.agg ds);binOp .neq t (.agg cs) (.agg ds):Sem Value).run P w)=Result.ok (Value.bool (!r)) w;simp[eqGuard,C,E]
attribute [local irreducible] ld dJ iH mZ i7 fi st new idx i8 jr fB js iY lV gT nn call dV inv run fc iM join loop held ext jR eI mH mz mI IntKind.wrap
end
section
open Go Go.Pt List
open Go.IntKind (wrap)
open Classical
variable {K:Bool->Prop} {cs:Array Value}
def C9{P:Program}{f:TypeId->Value->Value->Option Bool}{C:Array Value}(u:∀t x r,f t x x=some r->r=true):∀ {E:List Field} {r:Bool},pB P f C C E=some r->r=true
 | [],r,h=>by simp[pB] at h;exact h
 | x::E,r,h=>by simp only[pB] at h;split at h;split at h;rename_i a b I G;rw[I] at G;cases G;split at h;rename_i U q J R;cases h;rw[u _ _ _ J,C9 u R];rfl;cases h;cases h;exact C9 u h
def qpb{P:Program}{f:TypeId->Value->Value->Option Bool}{e n:Nat}{u:Array Value}(C:∀t x r,f t x x=some r->r=true):∀ {is:List Nat} {r:Bool},qu P f e n u u is=some r->r=true
 | [],r,h=>by simp[qu] at h;exact h
 | i::is,r,h=>by simp only[qu] at h;split at h;rename_i a b G E;rw[G] at E;cases E;split at h;rename_i R q I J;cases h;rw[C _ _ _ I,qpb C J];rfl;cases h;cases h
def Cj{P:Program}:∀(d:Nat) (t:TypeId) (x:Value) (r:Bool),sd P d t x x=some r->r=true
 | 0,_,_,_,h=>nomatch h
 | d+1,t,x,r,h=>by
  unfold sd at h;split at h
  ·next heq=>cases heq;cases h;exact beq_self_eq_true _
  ·next heq=>cases heq;simp at h;exact h
  ·next heq=>cases heq;cases h;exact beq_self_eq_true _
  ·next heq=>
   cases heq;cases u:P.stoodInHeld t with
   | true=>rw[u] at h;cases h
   | false=>rw[u] at h;exact C9 (Cj d) h
  ·next heq=>
   cases heq;next _ e _ _=>
   cases u:mJ P e with
   | false=>rw[u] at h;cases h
   | true=>rw[u] at h;exact qpb (Cj d) h
  cases h
def qAg{P:Program}{t:TypeId}{x y:Operand}{w:World}(d:Nat)(C:d<=10000)(h:(sd P d t (.agg cs) (.agg cs)).isSome=true)(E:P.eqGuardType P.depth t=false)(k:K false): fc [gO.one Cell.bool] (fun w'=>(do eqGuard .neq t x y (.agg cs) (.agg cs);binOp .neq t (.agg cs) (.agg cs):Sem Value).run P w') w K:=by
 obtain⟨r,u⟩:=Option.isSome_iff_exists.1 h
 have:=Cj _ _ _ _ u
 subst this;exact qAf d C true u E k
def eqS{P:Program}{t:TypeId}{x y:Operand}{w:World}(d:Nat)(C:d<=10000)(h:(sd P d t (.agg cs) (.agg cs)).isSome=true)(E:P.eqGuardType P.depth t=false)(k:K true): fc [gO.one Cell.bool] (fun w'=>(do eqGuard .eql t x y (.agg cs) (.agg cs);binOp .eql t (.agg cs) (.agg cs):Sem Value).run P w') w K:=by
 obtain⟨r,u⟩:=Option.isSome_iff_exists.1 h
 have:=Cj _ _ _ _ u
 subst this;exact FO d C true u E k
end
section
open Go Go.Pt List
open Go.IntKind (wrap)
variable {d:HL iS} {l:List (HL iS)}
abbrev Ov:=Int×HL ku×Kp×jc×Int×HL iS×HL lX×Int
def rm (o:Ov):Int:=o.1
def yo (o:Ov):HL ku:=o.2.1
def uM (o:Ov):Kp:=o.2.2.1
def sS (o:Ov):jc:=o.2.2.2.1
def wS (o:Ov):Int:=o.2.2.2.2.1
def p4 (o:Ov):HL iS:=o.2.2.2.2.2.1
def xg (o:Ov):HL lX:=o.2.2.2.2.2.2.1
def tJ (o:Ov):Int:=o.2.2.2.2.2.2.2
structure qP (o:Ov):Prop where
 d:IntKind.u8.has (rm o)
 a:kx ku (yo o)
 k:tV (uM o)
 i:mX (sS o)
 s:IntKind.u8.has (wS o)
 u:kx iS (p4 o)
 r:kx lX (xg o)
 n:IntKind.u64.has (tJ o)
def pq (b:Bk) (o:Ov):Bk:=
 if rm o%8=0 then b.lO (yo o) else if rm o%8=1 then b.jF (uM o) else if rm o%8=2 then b.li (sS o,wS o)
 else if rm o%8=3 then b.jh (p4 o) else if rm o%8=4 then b.ka (p4 o) else if rm o%8=5 then b.lG (sS o,xg o)
 else if rm o%8=6 then b.jC (tJ o) else b.vP
def qqT{a b:HL iS}:lY a b=true↔(kP a).1<(kP b).1\/(kP a).1=(kP b).1/\(kP a).2<(kP b).2:=by unfold lY;rw[yM];exact Iff.rfl
def qxz{x:HL iS}:x∈kW d l↔x=d\/x∈l:=by rw[Cw.mem_iff,zG]
def qph{d:HL iS}:∀ {l:List (HL iS)},tZ l->(∀x∈l,kP x≠kP d)->tZ (kW d l)
 | [],_,_=>pairwise_singleton _ _
 | x::r,h,E=>by have C:=yI.1 h;unfold kW;by_cases e:lY d x=true;rw[if_pos e];refine yI.2 ⟨fun y u=>?_,h⟩;rcases zG.1 u with rfl|u;exact e;have G:=C.1 y u;rw[qqT] at e G⊢;omega;rw[if_neg e];refine yI.2 ⟨fun y u=>?_,qph C.2 fun y u=>E y (zN _ u)⟩;rcases qxz.1 u with rfl|u;have I:=E x mem_cons_self;rw[qqT] at e⊢;have G:¬((kP x).1=(kP y).1/\(kP x).2=(kP y).2):=fun h=>I (Prod.ext h.1 h.2);omega;exact C.1 y u
structure Bt (n i:Nat) (b:Bk):Prop where
 size:b.size<=3*i
 dus:tZ b.due
 blocks:b.cm.1=n
 vP:b.cm.2.1<=i+1
 last:∀ n,b.last=some n->nu n
section
variable {n i:Nat} {b:Bk} {o:Ov}
def Bk.qB{a:HL ku}:(b.lO a).size<=b.size+1:=by
 have:=uz (kf:=mA) (a:=a) (l:=b.acc)
 unfold Bk.lO Bk.size;dsimp only;omega
def Bk.qz{x:jc×Int}:(b.li x).size<=b.size+1:=by
 have:=uz (kf:=fun x:jc×Int=>x.1) (a:=x) (l:=b.kO)
 unfold Bk.li Bk.size;dsimp only;omega
def Bk.qo{x:Ln}:(b.lG x).size<=b.size+1:=by
 have:=uz (kf:=qF) (a:=x) (l:=b.jH)
 unfold Bk.lG Bk.size;dsimp only;omega
def Bk.nf{k:Kp}:(b.jF k).size<=b.size+3:=by have h:=uz (kf:=rV) (a:=k) (l:=b.ll);have u:=uz (kf:=ow) (a:=wI k.1) (l:=b.mL);have C:=uz (kf:=ow) (a:=Cg k.1) (l:=b.mQ);unfold Bk.jF Bk.k7 Bk.my Bk.oe Bk.size;dsimp only;omega
def qo0:(iX d l).length<=l.length:=length_filter_le _ _
def Bk.qx:(b.ka d).size<=b.size:=by
 have:=qo0 (d:=d) (l:=b.due)
 unfold Bk.ka Bk.size;dsimp only;omega
def Bk.qf:(b.jh d).size<=b.size+1:=by have h:=qo0 (d:=d) (l:=b.due);have u:(kW d (iX d b.due)).length=(iX d b.due).length+1:=(by rw[Cw.length_eq,yH]);unfold Bk.jh Bk.size;dsimp only;omega
def Bk.pE{x:Int}:(b.jC x).size<=b.size+1:=by unfold Bk.jC Bk.size;have:(some x).toList.length=1:=rfl;dsimp only;omega
def qoZ(h:tZ l):tZ (iX d l):=List.Pairwise.sublist filter_sublist h
def EI(h:tZ b.due):tZ (b.jh d).due:=qph (qoZ h) fun x u=>zC (mem_filter.1 u).2
def Bt.step(h:Bt n i b)(G:qP o):Bt n (i+1) (pq b o):=by obtain⟨J,u,C,R,E⟩:=h;unfold pq;split;exact⟨by have:=Bk.qB (b:=b) (a:=yo o);omega,u,C,by show b.cm.2.1<=_;omega,E⟩;split;exact⟨by have:=Bk.nf (b:=b) (k:=uM o);omega,u,C,by show b.cm.2.1<=_;omega,E⟩;split;exact⟨by have:=Bk.qz (b:=b) (x:=(sS o,wS o));omega,u,C,by show b.cm.2.1<=_;omega,E⟩;split;exact⟨by have:=Bk.qf (b:=b) (d:=p4 o);omega,EI u,C,by show b.cm.2.1<=_;omega,E⟩;split;exact⟨by have:=Bk.qx (b:=b) (d:=p4 o);omega,qoZ u,C,by show b.cm.2.1<=_;omega,E⟩;split;exact⟨by have:=Bk.qo (b:=b) (x:=(sS o,xg o));omega,u,C,by show b.cm.2.1<=_;omega,E⟩;split;exact⟨by have:=Bk.pE (b:=b) (x:=tJ o);omega,u,C,by show b.cm.2.1<=_;omega,fun n I=>by cases I;exact qH G.n⟩;exact⟨by show b.size<=_;omega,u,C,by show b.cm.2.1+1<=_;omega,E⟩
end
def kA (q:Nat×Nat×Gh) (l:List Ov):Bk:=l.foldl pq (vY q)
def qmM{q:Nat×Nat×Gh}{l:List Ov}{o:Ov}:kA q (l++[o])=pq (kA q l) o:=by unfold kA;rw[foldl_append];rfl
def DO{q:Nat×Nat×Gh}(C:q.2.1=1):∀k (l:List Ov),k<=l.length->(∀o∈l,qP o)->Bt q.1 k (kA q (l.take k))
 | 0,l,_,_=>⟨zM _,.nil,rfl,by show q.2.1<=_;omega,fun _ h=>nomatch h⟩
 | k+1,l,h,u=>by rw[yF oJ,qmM];exact (DO C k l oJ u).step (u _ (zW _))
end
section
open Go Go.ChangeShapes Go.WideShapes Go.ChangeAt Go.RowKit Go.Pt
def Cs:List Cell->List Value->Prop
 | [],[]=>True
 | c::h,v::vs=>(∃x:c.El,v=c.mk x/\sK c x)/\Cs h vs
 | _,_=>False
def Cs.sC:∀ {a b:List Cell} {u v:List Value},Cs a u->Cs b v->Cs (a++b) (u++v)
 | [],b,[],v,_,h=>h
 | c::a,b,x::u,v,h,g=>⟨h.1,Cs.sC h.2 g⟩
 | [],_,_::_,_,h,_=>h.elim
 | _::_,_,[],_,h,_=>h.elim
def Cs.split:∀ {a b:List Cell} {vs:List Value},Cs (a++b) vs->∃u v,vs=u++v/\Cs a u/\Cs b v
 | [],b,vs,h=>⟨[],vs,rfl,trivial,h⟩
 | c::a,b,x::vs,h=>by obtain⟨u,v,e,C,E⟩:=Cs.split h.2;exact⟨x::u,v,by rw[e];rfl,⟨h.1,C⟩,E⟩
 | _::_,_,[],h=>h.elim
def Cs.hl:∀ {cs:List Cell} {vs:List Value},Cs cs vs->∃x:HL cs,vs=HL.mk cs x/\kx cs x
 | [],[],_=>⟨(),rfl,trivial⟩
 | [c],[v],h=>by obtain⟨x,u,C⟩:=h.1;exact⟨x,by rw[u];rfl,C⟩
 | c::E::cs,v::vs,h=>by obtain⟨x,u,C⟩:=h.1;obtain⟨y,G,I⟩:=Cs.hl (cs:=E::cs) h.2;exact⟨(x,y),by rw[u,G];rfl,C,I⟩
 | [],_::_,h=>h.elim
 | [_],[],h=>h.elim
 | [_],_::_::_,h=>h.2.elim
 | _::_::_,[],h=>h.elim
def rF (P:Program) (f:TypeId->Option (List Cell)):Nat->List Field->Option (List Cell)
 | _,[]=>some []
 | k,x::h=>bif Nat.beq x.offset k then match f x.type with
  | some a=>bif Nat.beq (P.cellsOf x.type) a.length then (rF P f (k+a.length) h).map (a++·) else none
  | none=>none else none
def tc (P:Program):Nat->TypeId->Option (List Cell)
 | 0,_=>none
 | d+1,t=>match P.underlying t with
  | some (.int k)=>some [.int k]
  | some .bool=>some [.bool]
  | some (.struct u)=>match rF P (tc P d) 0 u.toList with
   | some h=>bif Nat.beq (P.cellsOf t) h.length then some h else none
   | none=>none
  | _=>none
section
variable {H:Type} {enc:TypeId×Value->H} {P:Program} {W:World} {base:Nat} {spare:Nat->Bool} {held:Bool}
def qqQ{f:TypeId->Option (List Cell)}{cells:List Value}(I:∀t cs,f t=some cs->∀n vs y,DataW.trod enc P W base spare held n t vs=some y->Cs cs vs):∀ {u:List Field} {k:Nat} {cs:List Cell},rF P f k u=some cs-> (∀x∈u,∃n y,DataW.trod enc P W base spare held n x.type ((cells.drop x.offset).take (P.cellsOf x.type))=some y)->Cs cs ((cells.drop k).take cs.length)
 | [],k,cs,h,_=>by cases h;exact trivial
 | x::u,k,cs,h,J=>by
  unfold rF at h;cases C:Nat.beq x.offset k with
  | false=>rw[C] at h;cases h
  | true=>
   rw[C] at h;cases E:f x.type with
   | none=>rw[E] at h;cases h
   | some a=>
    rw[E] at h;dsimp only [_root_.cond_true] at h;cases G:Nat.beq (P.cellsOf x.type) a.length with
    | false=>rw[G] at h;cases h
    | true=>
     rw[G] at h;obtain⟨b,U,rfl⟩:=yS.1 h;have ih:=qqQ (cells:=cells) I U fun z V=>J z (zN _ V);obtain⟨n,y,R⟩:=J x List.mem_cons_self;rw[yV C,yV G] at R;rw[zF,List.take_add,xC];exact (I _ _ E _ _ _ R).sC ih
def qqR:∀(d:Nat) (t:TypeId) (cs:List Cell),tc P d t=some cs->∀n vs y,DataW.trod enc P W base spare held n t vs=some y->Cs cs vs
 | 0,_,_,h,_,_,_,_=>nomatch h
 | d+1,t,cs,h,n,vs,y,u=>by
  unfold tc at h;split at h
  ·next k hu=>
   cases h;obtain⟨m,C,_,R⟩:=DataW.trod_int hu u;rw[C];exact⟨⟨m,rfl,qzT R⟩,trivial⟩
  ·next hu=>
   cases h;obtain⟨m,C,_⟩:=DataW.trod_bool hu u;rw[C];exact⟨⟨m,rfl,trivial⟩,trivial⟩
  ·next fs hu=>
   split at h
   ·next cs' hd=>
    cases E:Nat.beq (P.cellsOf t) cs'.length with
    | false=>rw[E] at h;cases h
    | true=>
     rw[E] at h;cases h;obtain⟨U,m,_,_,I,V,hf⟩:=DataW.trod_struct hu u
     have:=qqQ (cells:=vs) (qqR d) hd fun x hx=>by obtain⟨i,hi,rfl⟩:=List.getElem_of_mem hx;have G:i<fs.size:=(oP hi);have J:=hf i fs[i] (by simp[G]);rw[zA (show i<U.length by omega)] at J;exact⟨_,_,by simpa using J⟩
     rw[xE,zS (by have:=yV E;omega)] at this;exact this
   cases h
  cases h
def tC (o:Ov):List Value:=[.b (rm o)]++(HL.mk ku (yo o)++(HL.mk oq (uM o).1++([.int .u64 (uM o).2.1,.int .u64 (uM o).2.2]++([.int .u64 (sS o).1,.int .u64 (sS o).2,.b (wS o)]++(HL.mk iS (p4 o)++(HL.mk lX (xg o)++[.int .u64 (tJ o)]))))))
abbrev opC:List Cell:=[.b]++(ku++(oq++(dc++([.int .u64,.int .u64,.b]++(iS++(lX++[.int .u64]))))))
def qtz(o:Ov):(tC o).length=52:=rfl
def qzX{vs:List Value}(h:Cs opC vs):∃o:Ov,vs=tC o/\qP o:=by obtain⟨u1,v1,rfl,C,h⟩:=Cs.split (a:=[.b]) h;obtain⟨u2,v2,rfl,E,h⟩:=Cs.split (a:=ku) h;obtain⟨u3,v3,rfl,G,h⟩:=Cs.split (a:=oq) h;obtain⟨u4,v4,rfl,I,h⟩:=Cs.split (a:=dc) h;obtain⟨u5,v5,rfl,J,h⟩:=Cs.split (a:=[.int .u64,.int .u64,.b]) h;obtain⟨u6,v6,rfl,R,h⟩:=Cs.split (a:=iS) h;obtain⟨u7,v7,rfl,U,V⟩:=Cs.split (a:=lX) h;obtain⟨d,rfl,fd⟩:=C.hl;obtain⟨a,rfl,fa⟩:=E.hl;obtain⟨t,rfl,ft⟩:=G.hl;obtain⟨⟨p0,p1⟩,rfl,fp⟩:=I.hl;obtain⟨⟨i0,i1,x⟩,rfl,u⟩:=J.hl;obtain⟨e,rfl,fe⟩:=R.hl;obtain⟨r,rfl,fr⟩:=U.hl;obtain⟨n,rfl,fn⟩:=V.hl;exact⟨(d,a,(t,(p0,p1)),(i0,i1),x,e,r,n),rfl,⟨fd,fa,⟨ft,fp⟩,⟨u.1,u.2.1⟩,u.2.2,fe,fr,fn⟩⟩
end
section
section
variable {H:Type} {enc:TypeId×Value->H} {P:Program} {W:World} {base:Nat} {spare:Nat->Bool} {held:Bool}
abbrev OPT:TypeId:=81
def qyz:∀n u y,DataW.trod enc Tryz.prog W base spare held n OPT u=some y->∃o:Ov,u=tC o/\qP o:=fun n u y h=>qzX (qqR 5 OPT opC oK n u y h)
end
end
end
end Go.Proofs.YtpcmehldpoljfaaGreatDoor
namespace Go.Pt
section
open Go
end
end Go.Pt
namespace Go.Proofs.YtpcmehldpoljfaaGreatDoor
section
open Go Go.Pt List
open Classical
attribute [local irreducible] ld dJ iH mZ i7 fi st new idx i8 jr fB js iY lV gT nn call dV inv run fc iM join loop held ext jR eI mH mz mI IntKind.wrap
structure GD (yield:Value) (Yc:List Nat) (wb:World) (L:List (HL lX)) (I:Nat->WP) (E:WP):Prop where
 stay:∀ i W W' Z,I i W->Fr Z W W'->(∀ b∈Z,wb.heap.size<=b)->I i W'
 Gw:∀ W W' Z,E W->Fr Z W W'->(∀ b∈Z,wb.heap.size<=b)->E W'
 take:∀ i (hi:i<L.length) W (K:Bool->WP),I i W->wb.heap.size<=W.heap.size->(∀ W',Fr Yc W W'->I (i+1) W'->K true W')->(∀ W',Fr Yc W W'->E W'->K false W')->dV Tryz.prog yield [.agg (HL.mk lX L[i]).toArray] dg W K
end
section
open Go Go.Pt List
open Go.IntKind (wrap)
open Classical
attribute [local irreducible] ld dJ iH mZ i7 fi st new idx i8 jr fB js iY lV gT nn call dV inv run fc iM join loop held ext jR eI mH mz mI IntKind.wrap
variable {K:Option Addr×Option Addr->WP}
def qps{w:World}{n:Nat}(Y:List Nat)(C:∀b∈Y,b<w.heap.size)(hY:HG∉Y)(E:Hv w)(G:8<=n)(I:n<=4096)(kk:∀sb pb dbk FD F D w',nG w' Y sb dbk pb FD F D (jN n) ((n-2)-eC (n-2)) (n,1) (fun _=>([],[]))->Made D n->HG∉FD->sb∉FD->Fr [] w w'->(∀b∈sb::(FD++F),w.heap.size<=b)->K (pW sb,pW pb) w'): cW 32 [.i n] du w K:=by exact qhf<|qwd (n:=n) Y C hY E G I fun dbk pb FD F D w1 u J R U=>cond_false rfl<|qrY<|oB (oE [] w1) fun r w2 e2 V o=>kk r pb dbk FD F D w2 ⟨u.q7 V,nR.made G I u.wf J,o.at (i:=0) rfl,fun h=>by have:=u.x8.lt r h;omega⟩ J (fun h=>by have:=U HG (zH _ h);have:=E.lt;omega) (fun h=>by have:=u.uu r (by simp[Zo,h]);omega) (R.trans V) fun b hb=>(zG.1 hb).elim (fun e=>by rw[e,e2];exact R.size) (U b)
structure nX (w0 W:World) (Y:List Nat) (L:List (Nat×Obj)) (sb:Nat) (F:List Nat) (c:Nat) (bs br:Bk) (ri:ph):Prop where
 own:dM (eY L) W W L
 sB:SB W (eY L++Y) sb F c bs
 rb:RB (eY L++F) W ri br
 fr:Fr [] w0 W
 nL:∀ x∈eY L,w0.heap.size<=x
 nF:∀ x∈F,w0.heap.size<=x
 ns:w0.heap.size<=sb/\sb∉eY L
section
variable {w0 W w':World} {Y F F':List Nat} {L L':List (Nat×Obj)} {sb c:Nat} {bs br bs' br':Bk} {ri r':ph}
def nX.lt(h:nX w0 W Y L sb F c bs br ri):∀x∈eY L++F,x<W.heap.size:=fun x u=>(zD.1 u).elim (vO h.own x) (h.sB.flt x)
def nX.J0(h:nX w0 W Y L sb F c bs br ri)(o:dM (eY L) W w' L'):nX w0 w' Y L' sb F c bs br ri where
 own:=o.kZ
 sB:=h.sB.FX h.ns.2 o
 rb:=h.rb.q8 (o.fr.mono fun x u _=>zH _ u) fun x u=>(zD.1 u).elim (fun u=>by obtain⟨p,C,rfl⟩:=mem_map.1 u;exact (o.own p C).imp (zH _) id) fun u=>.inl (zI _ u)
 fr:=h.fr.j8 o.fr fun x u=>.inr (h.nL x u)
 nL:=fun x u=>by obtain⟨p,C,rfl⟩:=mem_map.1 u;exact (o.own p C).elim (h.nL _) (zL h.fr.size)
 nF:=h.nF
 ns:=⟨h.ns.1,fun u=>by
  obtain⟨p,C,e⟩:=mem_map.1 u;rcases o.own p C with E|E;exact h.ns.2 (by rw[<- e];exact E)
  have:=h.sB.lt
  omega⟩
def nX.sub(h:nX w0 W Y L sb F c bs br ri)(u:L'.Sublist L):nX w0 W Y L' sb F c bs br ri where
 own:=(h.own.sub u).kZ
 sB:=h.sB.y0 fun b C=>(zD.1 C).elim (fun C=>zH _ ((u.map _).subset C)) (zI _)
 rb:=h.rb.q8 (.refl _ _) fun x E=>.inl ((zD.1 E).elim (fun C=>zH _ ((u.map _).subset C)) (zI _))
 fr:=h.fr
 nL:=fun x E=>h.nL x ((u.map _).subset E)
 nF:=h.nF
 ns:=⟨h.ns.1,fun E=>h.ns.2 ((u.map _).subset E)⟩
def nX.mY(h:nX w0 W Y L sb F c bs br ri)(f:Fr [] W w')(u:RB (eY L++F) w' r' br'):nX w0 w' Y L sb F c bs br' r':=
 ⟨(h.own.q7 f).kZ,h.sB.q7 f,u,h.fr.trans f,h.nL,h.nF,h.ns⟩
def nX.q7(h:nX w0 W Y L sb F c bs br ri)(f:Fr [] W w'):nX w0 w' Y L sb F c bs br ri:=h.mY f (h.rb.q7 f)
def nX.ml(h:nX w0 W Y L sb F c bs br ri)(C:SB w' (eY L++Y) sb F' c bs')(s:np F W F' w'):nX w0 w' Y L sb F' c bs' br ri where
 own:=h.sB.own h.own s
 sB:=C
 rb:=h.rb.q8 (s.fr.mono fun x u _=>zI _ u) fun x u=>(zD.1 u).elim (fun u=>.inl (zH _ u)) fun u=>(s.new x u).imp (zI _) id
 fr:=h.fr.j8 s.fr fun x u=>.inr (h.nF x u)
 nL:=h.nL
 nF:=fun x u=>(s.new x u).elim (h.nF x) (zL h.fr.size)
 ns:=h.ns
end
abbrev xc:ph:=(dC,dC,dC,dC,dC,dC,dC,0,false,dC)
def qzN(S:List Nat)(w:World)(q:Nat×Nat×Gh):RB S w xc (vY q):=⟨.nil _ _ _ _,.nil _ _ _ _,.nil _ _ _ _,.nil _ _ _ _,.nil _ _ _ _,.nil _ _ _ _,.nil _ _ _ _,⟨rfl,rfl⟩,[],zM _,.nil _ _ _ _⟩
def nX.start{w0 w w':World}{Y:List Nat}{L:List (Nat×Obj)}{sb dbk pb c:Nat}{FD F:List Nat}{D:dE}{M:dU}{q:Nat×Nat}(o:dM [] w0 w L)(h:nG w' (eY L++Y) sb dbk pb FD F D M c q (fun _=>([],[])))(E:c<=100000)(G:q.2<=150)(I:HG∉FD)(J:sb∉FD)(f:Fr [] w w')(u:∀b∈sb::(FD++F),w.heap.size<=b):nX w0 w' Y L sb (FD++F) c (vY (q.1,q.2,pb,D,ma M)) (vY (q.1,q.2,pb,D,ma M)) xc where
 own:=(o.q7 f).kZ
 sB:=⟨pb,dbk,FD,F,D,M,_,rfl,h,I,J,qzs _,E,G,rfl⟩
 rb:=qzN _ _ _
 fr:=o.fr.trans f
 nL:=fun x C=>by obtain⟨p,R,rfl⟩:=mem_map.1 C;exact (o.own p R).elim (fun h=>nomatch h) id
 nF:=fun x C=>zL o.fr.size (u x (zN _ C))
 ns:=⟨zL o.fr.size (u sb oL),fun U=>by have:=vO o sb U;have:=u sb oL;omega⟩
end
section
open Go Go.Pt List
open Go.IntKind (wrap)
open Classical
section
variable {w w' w0 W:World} {Y F F' S:List Nat} {L L':List (Nat×Obj)} {sb pb c i:Nat} {b b' br br':Bk} {r ri r':ph}
def SB.sbF(h:SB w Y sb F c b):sb∉F:=by obtain⟨pb,dbk,FD,I,D,M,Fo,rfl,C,E,u,J,R,U⟩:=h;exact fun G=>(zD.1 G).elim u C.out
def SB.nH{o:Obj}(h:SB w Y sb F c b)(u:w.heap[sb]?=some o)(s:np F w F' w'):w'.heap[sb]?=some o:=by rw[s.fr.block sb (eT u) h.sbF];exact u
def RB.vP(h:RB S w r b):RB S w r b.vP:=⟨h.acc,h.ll,h.kO,h.due,h.mL,h.mQ,h.jH,h.told,h.gone⟩
def RB.jC(h:RB S w r b)(n:Int):RB S w (r.1,r.2.1,r.2.2.1,r.2.2.2.1,r.2.2.2.2.1,r.2.2.2.2.2.1,r.2.2.2.2.2.2.1,n,true,r.2.2.2.2.2.2.2.2.2) (b.jC n):=
 ⟨h.acc,h.ll,h.kO,h.due,h.mL,h.mQ,h.jH,⟨rfl,rfl⟩,h.gone⟩
structure oU (w0 W:World) (Y:List Nat) (L:List (Nat×Obj)) (sb pb:Nat) (F:List Nat) (b:Bk) (ri:ph):Prop where
 st:∃ g,nX w0 W Y L sb F 600 (b.gs g) b ri
 cell:W.heap[sb]?=some (.cells #[pP pb] yi (0,0))
def oU.q7(h:oU w0 W Y L sb pb F b ri)(f:Fr [] W w'):oU w0 w' Y L sb pb F b ri:=⟨h.st.imp fun g h=>h.q7 f,by rw[f.block sb (eT h.cell) fun h=>nomatch h];exact h.cell⟩
def oU.J0(h:oU w0 W Y L sb pb F b ri)(o:dM (eY L) W w' L'):oU w0 w' Y L' sb pb F b ri:=⟨h.st.imp fun g h=>h.J0 o,h.st.elim fun g u=>o.pd h.cell u.ns.2⟩
def oU.sub(h:oU w0 W Y L sb pb F b ri)(u:L'.Sublist L):oU w0 W Y L' sb pb F b ri:=⟨h.st.imp fun g h=>h.sub u,h.cell⟩
def oU.own(h:oU w0 W Y L sb pb F b ri):dM (eY L) W W L:=h.st.elim fun g h=>h.own
def oU.fr(h:oU w0 W Y L sb pb F b ri):Fr [] w0 W:=h.st.elim fun g h=>h.fr
def nG.less{dbk u:Nat}{FD:List Nat}{D:dE}{M:dU}{Q:Nat×Nat}{Fo:jL}(h:nG w Y sb dbk pb FD F D M c Q Fo)(C:u<=c):nG w Y sb dbk pb FD F D M u Q Fo:=⟨h.tw,⟨h.st.J0,h.st.J1,zL C h.st.many⟩,h.cell,h.out⟩
def oU.start{dbk:Nat}{FD:List Nat}{D:dE}(o:dM [] w0 w L)(h:nG w' (eY L++Y) sb dbk pb FD F D (jN 900) ((900-2)-eC (900-2)) (900,1) (fun _=>([],[])))(u:HG∉FD)(C:sb∉FD)(f:Fr [] w w')(E:∀b∈sb::(FD++F),w.heap.size<=b): ∃g,oU w0 w' Y L sb pb (FD++F) (vY (900,1,g)) xc:=
 ⟨_,⟨_,nX.start o (h.less (by have e:eC (900-2)=8:=rfl;omega)) oM oM u C f E⟩,h.cell⟩
def Bt.room{n:Nat}(h:Bt n i b)(hi:i<=60):3*(b.size+3)+1<=600/\3*b.size+1<=600/\b.cm.2.1<=100:=by
 have:=h.size
 have:=h.vP
 exact⟨oJ,oJ,oJ⟩
def Bt.Ay(h:Bt 900 i b)(hi:i<=60):600+eC b.cm.1+b.size+2<=b.cm.1/\eC b.cm.1+b.size<=600:=by
 have:=h.size
 have e:eC 900=8:=rfl;rw[h.blocks,e];exact⟨oJ,oJ⟩
end
end
section
open Go Go.Pt List
open Go.IntKind (wrap)
open Classical
attribute [local irreducible] ld dJ iH mZ i7 fi st new idx i8 jr fB js iY lV gT nn call dV inv run fc iM join loop held ext jR eI mH mz mI IntKind.wrap
abbrev BOT:TypeId:=34
def qo2{d:HL iS}{l:List (HL iS)}:((iX d l).length<l.length)↔∃x∈l,kP x=kP d:=by have h:=length_filter_lt_length_iff_exists (l:=l) (p:=fun x=>decide (kP x≠kP d));unfold iX;rw[h];simp
section
variable {w0 w w':World} {Y F:List Nat} {L:List (Nat×Obj)} {sb pb i:Nat} {b:Bk} {ri:ph} {o:Ov}
def qwI{K:ph×Bool->WP}(h:oU w0 w Y L sb pb F b ri)(ho:qP o)(ht:Bt 900 i b)(hi:i<=60)(G:∀F' r' w',oU w0 w' Y L sb pb F' (pq b o) r'->K (r',true) w'): cW 33 [dB sb,dB pb,.agg (HL.mk fT ri).toArray,.agg (tC o).toArray] [.agg fT,.one .bool] w K:=by
 refine qhg ?_;obtain⟨q1,q2,q3⟩:=ht.room hi;have ae:b.size<=100000:=oJ;have ao:=ht.Ay hi;refine oB h.own fun r1 w1 _ _ o1=>oB o1 fun r3 w2 _ _ o1=>oB o1 fun r5 w3 _ _ o1=>?_;have h:=h.J0 o1;have hd:(0:Int)<=rm o/\rm o<=255:=ho.d;have hm:Int.tmod (rm o) 8=rm o%8:=Int.tmod_eq_emod_of_nonneg hd.1;refine oA h.own 1 rfl (rm o) rfl ?_;rw[hm];unfold pq at G;have g:=(Fr.refl [] w3).drew;obtain⟨⟨gh,h⟩,hp⟩:=h;have cf:∀ {w4 w5:World},w4.heap[sb]?=some (.cells #[pP pb] yi (0,0))->Fr [] w4 w5->w5.heap[sb]?=some (.cells #[pP pb] yi (0,0)):=fun h f=>by rw[f.block sb (eT h) fun h=>nomatch h];exact h
 have J:∀ {F':List Nat} {w4:World} {r':ph} {bs br:Bk} {L2:List (Nat×Obj)} {cs:Array Value} {T5:TypeId},nX w0 w4 Y ((r5,.cells cs T5 (0,0))::L2) sb F' 600 bs br r'->w4.heap[sb]?=some (.cells #[pP pb] yi (0,0))->(∃g,bs=br.gs g)->L.Sublist L2->cs.size=10->(∀F' r' w',oU w0 w' Y L sb pb F' br r'->K (r',true) w')->Pt.st (dd r5) (HL.mk fT r') w4 fun w5=>dJ fT (dd r5) w5 fun t=>K (t,true) w5:=fun {F' w4 r' bs br L2 cs T5} h hp C hs hz G=>by obtain⟨g,rfl⟩:=C;exact h.own.st' 0 rfl _ (oc (by rw[hz];rfl)) rfl (by rw[hz];exact zM _) fun w5 o5 f5=>oC o5 0 rfl r' rfl (G F' r' w5 ⟨⟨g,(h.J0 o5).sub (hs.cons _)⟩,o5.pd hp h.ns.2⟩)
 have C:=h.q7 g;have ab:=cf hp g;have R:L.Sublist ([(r3,Obj.cells (tC o).toArray 81 (0,0)),(r1,Obj.cells (HL.mk fT ri).toArray BOT (0,0))]++L):=.cons _ (.cons _ (.refl _));refine dR (fun E=>?_) fun E=>?_;rw[if_pos (yO.1 E)] at G;refine oC C.own 2 rfl ri rfl (oC C.own 1 rfl (yo o) rfl (oC C.own 1 rfl (yo o) rfl (qt1 C.rb ae C.lt fun r' w4 h4 U=>?_)));have h:=C.mY U h4;exact ia (h.own.cells 1 rfl rfl) (qt7 h.sB q2 ho.a fun F5 w5 h5 V=>J (h.ml h5 V) (h.sB.nH (cf ab U) V) ⟨gh,rfl⟩ R rfl G);rw[if_neg (zR.1 E)] at G;refine dR (fun E=>?_) fun E=>?_;rw[if_pos (yO.1 E)] at G;refine oC C.own 2 rfl ri rfl (qA (C.own.at (i:=1) rfl) (rz (uM o)) rfl rfl (qA (C.own.at (i:=1) rfl) (rz (uM o)) rfl rfl (qt4 C.rb ae C.lt fun r' w4 h4 U=>?_)));have h:=C.mY U h4;exact ia (h.own.cells 1 rfl rfl) (qt9 h.sB q1 ho.k fun F5 w5 h5 V=>J (h.ml h5 V) (h.sB.nH (cf ab U) V) ⟨gh,rfl⟩ R rfl G);rw[if_neg (zR.1 E)] at G;refine dR (fun E=>?_) fun E=>?_;rw[if_pos (yO.1 E)] at G;refine oC C.own 2 rfl ri rfl (oC C.own 1 rfl (sS o) rfl (oA C.own 1 rfl (wS o) rfl (oC C.own 1 rfl (sS o) rfl (oA C.own 1 rfl (wS o) rfl (qt5 C.rb ae C.lt fun r' w4 h4 U=>?_)))));have h:=C.mY U h4;exact jX (h.own.cell 1 rfl rfl) (h.own.cells 1 rfl rfl) (qua h.sB q2 ho.i ho.s fun F5 w5 h5 V=>J (h.ml h5 V) (h.sB.nH (cf ab U) V) ⟨gh,rfl⟩ R rfl G);rw[if_neg (zR.1 E)] at G;refine dR (fun E=>?_) fun E=>?_;rw[if_pos (yO.1 E)] at G;refine oC C.own 2 rfl ri rfl (oC C.own 1 rfl (p4 o) rfl (oC C.own 1 rfl (p4 o) rfl (qt2 (d:=p4 o) C.rb ae C.lt fun r' w4 h4 U=>?_)));have h:=C.mY U h4;exact ia (h.own.cells 1 rfl rfl) (Em h.sB q2 ho.u fun F5 w5 h5 V=>J (h.ml h5 V) (h.sB.nH (cf ab U) V) ⟨gh,rfl⟩ R rfl G);rw[if_neg (zR.1 E)] at G;refine dR (fun E=>?_) fun E=>?_;rw[if_pos (yO.1 E)] at G;refine oC h.own 2 rfl ri rfl (oC h.own 1 rfl (p4 o) rfl (qlg (d:=p4 o) h.rb ae h.lt fun r' w4 h4 U=>?_));have h:=h.mY U h4;have hp:=cf hp U;refine oB h.own fun aP w5 _ _ o5=>o5.st' 0 rfl _ (oc rfl) rfl (zM _) fun w6 o6 _=>?_;have h':=h.J0 o6;have hp:=o6.pd hp h.ns.2;refine tN (if ∃x∈b.due,kP x=kP (p4 o) then 0 else 5:Int) w6 (fun M hM=>?_) ?_;refine dR (fun E=>?_) fun E=>?_;rw[if_pos (qo2.1 (zC E))] at hM;exact hM;rw[if_neg fun h=>zB E (qo2.2 h)] at hM;exact hM;have g6:=(Fr.refl [] w6).drew;have h:=h'.q7 g6;have hp:=cf hp g6;refine oC h.own 0 rfl r' rfl (oC h.own 2 rfl (p4 o) rfl (qsf (d2:=(p4 o).2.2.1) (d3:=(p4 o).2.2.2) h.sB q2 ho.u (fun am F7 w7 h7 s7=>?_) fun aj w7 f7=>?_));have am:∃x∈b.due,kP x=kP (p4 o):=am;rw[if_pos am];have I:=h.ml h7 s7;exact ia (I.own.cells 0 rfl rfl) (J (I.sub (.cons _ (.refl _))) (h.sB.nH hp s7) ⟨gh,rfl⟩ R rfl G);have aj:∀x∈b.due,kP x≠kP (p4 o):=aj;rw[if_neg fun⟨x,hx,e⟩=>aj x hx e];have e:=qso (b:=b) (d:=p4 o) aj;have I:=h.q7 f7;rw[e] at I G;exact ia (I.own.cells 0 rfl rfl) (J (I.sub (.cons _ (.refl _))) (cf hp f7) ⟨gh,rfl⟩ R rfl G);rw[if_neg (zR.1 E)] at G;refine dR (fun E=>?_) fun E=>?_;rw[if_pos (yO.1 E)] at G;refine oC C.own 2 rfl ri rfl (oC C.own 1 rfl (sS o) rfl (oC C.own 1 rfl (xg o) rfl (oC C.own 1 rfl (sS o) rfl (oC C.own 1 rfl (xg o) rfl (qt3 C.rb ae C.lt fun r' w4 h4 U=>?_)))));have h:=C.mY U h4;exact jX (h.own.cells 1 rfl rfl) (h.own.cells 1 rfl rfl) (qt8 h.sB q2 ho.i ho.r fun F5 w5 h5 V=>J (h.ml h5 V) (h.sB.nH (cf ab U) V) ⟨gh,rfl⟩ R rfl G);rw[if_neg (zR.1 E)] at G;refine dR (fun E=>?_) fun E=>?_;rw[if_pos (yO.1 E)] at G;refine oA h.own 1 rfl (tJ o) rfl (h.own.st' 2 rfl (HL.mk fT (ri.1,ri.2.1,ri.2.2.1,ri.2.2.2.1,ri.2.2.2.2.1,ri.2.2.2.2.2.1,ri.2.2.2.2.2.2.1,tJ o,ri.2.2.2.2.2.2.2.2.1,ri.2.2.2.2.2.2.2.2.2)).toArray rfl rfl (zO rfl) fun w4 o4 _=>o4.st' 2 rfl (HL.mk fT (ri.1,ri.2.1,ri.2.2.1,ri.2.2.2.1,ri.2.2.2.2.1,ri.2.2.2.2.2.1,ri.2.2.2.2.2.2.1,tJ o,true,ri.2.2.2.2.2.2.2.2.2)).toArray rfl rfl (zO rfl) fun w5 o5 _=>?_);have g5:=(Fr.refl [] w5).drew;have hp:=cf (o5.pd hp h.ns.2) g5;have h:=(h.J0 o5).q7 g5;have h:=h.mY (.refl _ _) (h.rb.jC (tJ o));refine oC h.own 2 rfl (ri.1,ri.2.1,ri.2.2.1,ri.2.2.2.1,ri.2.2.2.2.1,ri.2.2.2.2.2.1,ri.2.2.2.2.2.2.1,tJ o,true,ri.2.2.2.2.2.2.2.2.2) rfl (oA h.own 1 rfl (tJ o) rfl (qsg h.sB q2 fun F6 w6 h6 s6=>?_));have I:=h.ml h6 s6;exact ia (I.own.cells 2 rfl rfl) (J I (h.sB.nH hp s6) ⟨gh,rfl⟩ (.cons _ (.cons _ (.refl _))) rfl G);rw[if_neg (zR.1 E)] at G;refine oC C.own 2 rfl ri rfl (SB.na C.sB ab q3 ao.1 ao.2 fun F5 w5 g' h5 V=>?_);have I:=C.ml h5 V;exact ia (I.own.cells 2 rfl rfl) (J (I.mY (.refl _ _) I.rb.vP) (C.sB.nH ab V) ⟨g',rfl⟩ R rfl G)
end
end
section
open Go Go.Pt List
open Go.IntKind (wrap)
open Classical
variable {K:Option Addr×ph×Bool->WP}
def ovZ:Ov:=(0,Ao,kpZ,(0,0),0,(0,0,0,0),zp,0)
def qzJ:((Tryz.prog.info? 81).bind (·.zero)).map (fun z=>z.cells.toList)=some (tC ovZ):=by kernel_rfl
attribute [local irreducible] ld dJ iH mZ i7 fi st new idx i8 jr fB js iY lV gT nn call dV inv run fc iM join loop held ext jR eI mH mz mI IntKind.wrap
abbrev oBk (r:ph):Obj:=.cells (HL.mk fT r).toArray BOT (0,0)
section
variable {w w':World} {s:Sl} {l:List Ov}
def quj(E:Hv w)(G:dW tC 52 [] w s l)(I:∀o∈l,qP o)(hl:l.length<=60)(kk:∀sb pb F q ri w',q.1=900->q.2.1=1->oU w w' [] [] sb pb F (kA q l) ri->K (pW sb,ri,true) w'): cW 9 [s.v] [.one .ptr,.agg fT,.one .bool] w K:=by refine qgU ?_;have J:=G.1;refine oB (oE [] w) fun R w1 e1 f1 o=>?_;have l1:=eT (o.at (i:=0) rfl);refine qps (n:=900) [R] (fun b hb=>by rw[zE.1 hb];exact l1) (fun hm=>by have:=zE.1 hm;have:=E.lt;omega) (E.q7 o.fr) oM oM fun sb pb dbk FD F D w3 U hM hg hd f3 n3=>cond_false rfl ?_;obtain⟨g,h⟩:=oU.start (Y:=[]) o U hg hd f3 n3;clear o U hM;refine oB h.own fun r7 w4 _ _ o=>?_;have h:=h.J0 o;clear o;have hz:=qzJ;refine iV (fun x W=>∃i:Nat,∃F ri,x=i/\i<=l.length/\oU w W [] [(r7,oBk ri),(R,oBk xc)] sb pb F (kA (900,1,g) (l.take i)) ri) (fun x _=>l.length-x.toNat) ⟨0,_,xc,rfl,yW _,h⟩ ?_;clear h;rintro x W ⟨i,F,ri,rfl,hi,h⟩ X hX;have ht:=DO (q:=(900,1,g)) rfl i l hi I;refine dR (fun C=>?_) fun C=>?_;have u:i<l.length:=(by have:=zC C;omega);have hx:=zA u;refine dW.gR (G.q7 h.fr) qtz i rfl hx (oI h.own hz fun ap V _ o=>pc (qtz _) (o.st' 0 rfl _ (oc rfl) rfl (zM _) fun w6 o _=>?_));have h:=h.J0 o;clear o;refine oC h.own 1 rfl ri rfl (qA (h.own.at (i:=0) rfl) (tC l[i]) rfl rfl (qwI h (I _ (zW u)) ht oJ fun F' r' w7 h=>?_));refine oB h.own fun aq w8 _ _ o=>o.st' 0 rfl _ (oc rfl) rfl (zM _) fun w9 o _=>cond_false rfl (oC o 0 rfl r' rfl (o.st' 2 rfl _ (oc rfl) rfl (zM _) fun wa o _=>?_));have h:=h.J0 o;rw[gc _ oJ];refine hX _ _ ⟨i+1,F',r',rfl,u,?_⟩ oJ;rw[yF u,qmM];exact h.sub (.cons _ (.cons _ (.refl _)));have u:i=l.length:=(by have:=zB C;omega);subst u;rw[xY] at h;have h:=h.q7 (Fr.refl [] W).drew;refine oC h.own 0 rfl ri rfl (h.own.st' 1 rfl _ (oc rfl) rfl (zM _) fun V o _=>oC o 1 rfl ri rfl ?_);exact kk sb pb F (900,1,g) ri V rfl rfl ((h.J0 o).sub (nil_sublist _))
def qm6{K:Bool->WP}(I:Hv w)(J:∀w',Fr [] w w'->K true w'):cW 8 [] dg w K:=by refine qgV ?_;unfold qdy;refine qps (n:=40) [] (fun _ h=>nomatch h) (fun h=>nomatch h) I oM oM fun sb pb dbk FD F D w1 R hM U V f1 n1=>?_;have hn:eC (40-2)=1:=rfl;have h:=nX.start (Y:=[]) (oE [] w) R oJ oM U V f1 n1;generalize ((40,1).1,(40,1).2,pb,D,ma (jN 40))=q at h;have E:∀ {a b:Int},nu a->nu b->kx iS (a,b,0,0):=fun ha hb=>⟨BF ha,BF hb,qya,qya⟩;refine gQ (fun x w'=>x=false/\∃F br,nX w w' [] [] sb F ((40-2)-eC (40-2)) (((vY q).jh (9,2,0,0)).jh (5,3,0,0)) br xc) ?_ ?_;refine cond_false rfl (Em h.sB (by show 3*0+1<=_;omega) (E ⟨oM,oM⟩ ⟨oM,oM⟩) fun F2 w2 h2 s2=>cond_false rfl ?_);have u:=h.ml h2 s2;exact Em u.sB (by show 3*1+1<=_;omega) (E ⟨oM,oM⟩ ⟨oM,oM⟩) fun G w3 h3 s3=>⟨rfl,G,_,u.ml h3 s3⟩;rintro x w3 ⟨rfl,G,br,h⟩;have e:kU (((vY q).jh (9,2,0,0)).jh (5,3,0,0)).due 9 1=[(5,3,0,0)]:=oK;refine cond_false rfl (qsV h.sB (BF ⟨oM,oM⟩) (EI (EI .nil)) (by show 2<=_;omega) fun s B w4 C f4 nB _=>?_);rw[e] at C;have hl:s.len=1:=C.len;refine cond_true (by rw[hl];rfl) (dW.pO (y:=(5,3,0,0)) (C.jq wL (S:=[]) fun _ _ h=>nomatch h) 0 rfl rfl rfl rfl ?_);exact eqS (t:=A5) 3 oM oK oK (J w4 (h.fr.trans f4))
def qsh{J0 most:Int}{K:Bool->WP}(J:Hv w)(hr:dW tC 52 [] w s l)(ho:∀o∈l,qP o)(hn:IntKind.u64.has J0)(kk:∀w',Fr [] w w'->K true w'): cW 3 [s.v,.int .u64 J0,.i most] dg w K:=by refine qfj ?_;have af:=hr.1;refine dR (fun _=>qm6 J kk) fun G=>?_;have hl:l.length<=60:=(by have:=zB G;omega);refine quj J hr ho hl fun sb pb F q ri w1 q1 q2 h=>?_;have R:=DO q2 l.length l (zM _) ho;rw[xY] at R;have an:=R.size;refine oB h.own fun r5 w2 _ _ o=>o.st' 0 rfl _ (oc rfl) rfl (zM _) fun w3 o _=>cond_false rfl ?_;have h:=(h.J0 o).q7 (Fr.refl [] w3).drew;obtain⟨⟨g,h⟩,_⟩:=h;refine oC h.own 0 rfl ri rfl (qsV h.sB hn R.dus (by show (kA q l).size<=_;omega) fun s9 B9 w4 I U n9 ag=>ia ((h.own.q7 U).cells 0 rfl rfl) (qyr (h.rb.q7 U) oJ fun aq ar w5 u C au=>?_));have I:=I.q7 C;have V:=I.len;have aa:=u.len;have fw:Fr [] w w5:=(h.fr.trans U).trans C;refine cond_false (by rw[V,aa];simp[Bk.gs]) ?_;have av:=qxp (l:=(kA q l).due) (J0:=J0) (most:=most);have aw:(kA q l).due.length<=(kA q l).size:=(by unfold Bk.size;omega);refine iV (fun x W=>∃i:Nat,x=i/\i<=(kU (kA q l).due J0 most).length/\Fr [] w5 W) (fun x _=>(kU (kA q l).due J0 most).length-x.toNat) ⟨0,rfl,yW _,.refl _ _⟩ ?_;rintro x W ⟨i,rfl,hi,fW⟩ X hX;have V:s9.len=(kU (kA q l).due J0 most).length:=V;refine dR (fun G=>?_) fun G=>?_;have E:i<(kU (kA q l).due J0 most).length:=(by have:=zC G;omega);have hx:=zA E;have g:=fW.drew;refine dW.pO ((I.q7 g).jq wL (S:=[]) fun _ _ h=>nomatch h) i rfl hx rfl rfl (dW.pO ((u.q7 g).jq wL (S:=[]) fun _ _ h=>nomatch h) i rfl hx rfl rfl (qAg (t:=A5) 3 oM oK oK (cond_false rfl ?_)));rw[gc _ oJ];exact hX _ _ ⟨i+1,rfl,E,g⟩ oJ;exact qm6 (J.q7 (fw.trans fW)) fun w6 f6=>kk w6 ((fw.trans fW).trans f6)
end
end
end Go.Proofs.YtpcmehldpoljfaaGreatDoor
