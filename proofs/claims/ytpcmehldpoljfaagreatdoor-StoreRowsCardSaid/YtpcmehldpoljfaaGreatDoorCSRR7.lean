/- Conditions: those that stand in each line. -/
import Derived.Test.YtpcmehldpoljfaaGreatDoorCSRR6
import Derived.Test.YtpcmehldpoljfaaGreatDoorCSRR3
import Derived.Test.YtpcmehldpoljfaaGreatDoorCSRR1
import Derived.Test.YtpcmehldpoljfaaGreatDoorCSRR2
set_option linter.unusedVariables false
set_option linter.unusedSimpArgs false
set_option linter.defProp false
namespace Go.Proofs.YtpcmehldpoljfaaGreatDoor
open Go.Proofs.Tryz (prog)
section
open Go Go.Pt List
open Go.IntKind (wrap)
open Classical
attribute [local irreducible] ld dX jg oe jF fP st new idx jG jR fM jY jz mM iH nn call eJ inv run fG js join loop held ext kz eC nK nE nQ IntKind.wrap
variable {K:Sl->WP} {S:IS} {d:HL jB} {i:Int} {k n:Nat} {l:List (HL jB)} {s:Sl} {w:IK}
def qAj{frm to:Key}{x:Key×Key}:uZ frm to x=true↔¬fT x.1 frm/\¬fT to x.1:=by unfold uZ;rw[yA,yN,yN];have h:cmpL x.1 frm>=0↔¬fT x.1 frm:=(by unfold fT;omega);have u:cmpL x.1 to<=0↔¬fT to x.1:=(by unfold fT;rw[ug x.1 to];omega);rw[h,u]
def Hp(l:IT):¬cmpL l l<0:=rQ
def Dw{x y:IT}{n m:Int}(u:lQ n)(E:lQ m)(G:x.length=y.length):fT (x++bw 8 n) (y++bw 8 m)↔fT x y\/x=y/\n<m:=by unfold fT;rw[qtK G];by_cases e:x=y;rw[iP e,qwa u E,e];exact⟨λh=>.inr ⟨rfl,h⟩,λh=>h.elim (λh=>absurd h (Hp y)) λh=>h.2⟩;rw[iN e];exact⟨.inl,λh=>h.elim id λh=>absurd h.1 e⟩
def quj{a b c d:Int}(u:lQ a)(G:lQ b)(E:lQ c)(I:lQ d):fT (lp a b) (lp c d)↔a<c\/a=c/\b<d:=by unfold lp;rw[Dw G I (by rw[lI,lI]),show fT (bw 8 a) (bw 8 c)↔a<c from qwa u E];exact⟨λh=>h.imp id λh=>⟨Dn (by rw[p8];exact u) (by rw[p8];exact E) h.1,h.2⟩,λh=>h.imp id λh=>⟨by rw[h.1],h.2⟩⟩
def vv (l:List (HL jB)):Prop:=l.Pairwise λa b=>mY a b=true
def wM (d:HL jB):Key×Key:=(lp d.1 d.2.1,je (Ct d))
def qx8{a b:HL jB}(h:jX jB a)(u:jX jB b):fT (wM a).1 (wM b).1↔mY a b=true:=by unfold mY;rw[yN];exact quj (qm h.1) (qm h.2.1) (qm u.1) (qm u.2.1)
def mW.eqs{α κ:Type}{K:pU α κ}{L:gr}{l:List α}{f:α->Key×Key}(h:mW K L l)(u:∀a,f a=(K.g (K.key a),K.val a))(E:l.Pairwise λa b=>fT (f a).1 (f b).1):L=l.map f:=by
 refine List.Perm.eq_of_pairwise (le:=λx y=>fT x.1 y.1) (λa b _ _ G I=>absurd I (tj G)) ?_ ?_ ?_;have:=h.1.sort;unfold fD fY eh at this;exact pairwise_map.1 this;exact pairwise_map.2 E;rw[show f=λa=>(K.g (K.key a),K.val a) from funext u];exact h.1.perm
def pI (l:List (HL jB)) (h most:Int):List (HL jB):=(l.filter λd=>decide (d.1<=h)).take most.toNat
def qwn{L:gr}{u most:Int}(h:mW uw L l)(J:vv l)(R:lQ u):(gP false [] (lp u 18446744073709551615) L).take most.toNat=(pI l u most).map wM:=by
 have e:L=l.map wM:=h.eqs (λ_=>rfl) (List.Pairwise.imp_of_mem (λ{a b} U V E=>(qx8 (h.2 a U) (h.2 b V)).2 E) J);unfold gP lD pI;rw[iN oM,e,filter_map,xQ];congr 2;refine filter_congr λd hd=>?_;have I:=h.2 d hd;have E:=qm I.1;have G:=qm I.2.1;rw[It,Function.comp,qAj,yN];have h0:¬fT (wM d).1 []:=by
  unfold wM lp fT;have:bw 8 d.1≠[]:=λe=>by have:=IH List.length e;rw[lI] at this;cases this
  cases hx:bw 8 d.1 with
  | nil=>exact absurd hx this
  | cons x r=>exact (by decide:¬(1:Int)<0)
 have h3:fT (lp u 18446744073709551615) (wM d).1↔u<d.1\/u=d.1/\18446744073709551615<d.2.1:=quj R ⟨oM,oM⟩ E G;rw[h3];have key:∀a e:Int,lQ e->(¬(u<a\/u=a/\18446744073709551615<e)↔a<=u):=λa e h=>by omega
 exact⟨λh=>(key _ _ G).1 h.2,λh=>⟨h0,(key _ _ G).2 h⟩⟩
abbrev Et:IM:=41
abbrev kX:HL jB->List IL:=HL.mk jB
def D3(d:HL jB):(kX d).length=4:=rfl
def qAl:∃i,prog.info? Et=some i/\i.zero=some (.agg dh)/\i.size=4/\i.bytes=32:=tB oK
def qwo(d:HL jB):∀u∈kX d,u.oneCell'=true:=λu h=>by obtain⟨a,b,c,e⟩:=d;rcases zG.1 h with rfl|h;rfl;rcases zG.1 h with rfl|h;rfl;rcases zG.1 h with rfl|h;rfl;rw[zE.1 h];rfl
def Bu{B:IS}{x:HL jB}(h:fj kX 4 w s l B)(U:l.length<=1000000)(I:∀G B' w',fj kX 4 w' G (l++[x]) B'->Fr B w w'->(∀b∈B',b∈B\/w.heap.size<=b)->K G w'): Pt.new (.cells (HL.mk jB x).toArray Et) w λr w1=>Pt.run dl ((Builtin.append_ #[29,29] 29 #[s.v,.slice (pW r) 1 1]).run prog w1) K:=by obtain⟨j,J,R,u,E⟩:=qAl;exact fj.push (e:=Et) (x:=x) h D3 (qwo x) oK J R u rfl rfl (by rw[E];omega) oJ I
section
variable {w w' w1:IK} {Y F F':IS} {sb pb c:Nat} {b b':Bk}
def qzc{u most:Int}(h:SB w Y sb F c b)(hn:IntKind.u64.has u)(hd:vv b.due)(hl:b.size<=90000)(kk:∀s B w',fj kX 4 w' s (pI b.due u most) B->Fr [] w w'->(∀x∈B,w.heap.size<=x)->(∀d∈b.due,jX jB d)->K s w'): cW 10 [dS sb,.w u,.i most] dl w K:=by
 refine qkL ?_;obtain⟨pb,h⟩:=h;have g:=(Fr.refl [] w).drew;refine h.tG g (qtv λs1 w1 h1 f1=>iS (h.held (g.trans f1)) ?_);obtain⟨dbk,FD,Fp,D,M,Fo,rfl,hS,aA,aB,hb,hc,hj⟩:=h;have G:=hb.due;have aD:=G.len;have af:=(hS.q8 g).q8 f1;have hz:b.due.length<=b.size:=(by unfold Bk.size;omega);refine qvR (S:=[]) (k:=16) (v:=16) (frm:=[]) (L:=(Fo 3).1) (P:=(Fo 3).2) ((af.tw.y8 (Y':=[]) λ_ h=>nomatch h).up (by omega)) rfl (.inr ⟨oM,hS.st.J2.J4 3 oM⟩) oJ (.nil _ _ _ _) h1.rd (yX _) (by rw[zm];decide) (λ_ h=>nomatch h) (GO _ _) λs2 w2 B KB ps hB hR _ I f2 nB _=>?_;rw[qwn G hd (qm hn)] at I;have ag:ps.length=(pI b.due u most).length:=(by have:=IH List.length I;simpa using this);have aG:(pI b.due u most).length<=b.due.length:=(by unfold pI;rw[yL];exact zL (Nat.min_le_right _ _) (length_filter_le _ _));have aH:s2.len=ps.length:=(by rw[hB.len,zK]);have ah:eI nz 2 [] w2 s2 (ps.map (·.1)):=hB.jQ qpI λ_ _ h=>nomatch h;refine jv (λq w'=>∃i:Nat,∃B',q.2=i/\i<=ps.length/\fj kX 4 w' q.1 ((pI b.due u most).take i) B'/\Fr [] w2 w'/\∀x∈B',w2.heap.size<=x) (λq _=>ps.length-q.2.toNat) ⟨0,[],rfl,yX _,fj.nil _ _ _,.refl _ _,λ_ h=>nomatch h⟩ ?_;rintro⟨s3,q⟩ w3 ⟨i,B3,hq,hi,b3,U,n3⟩ X hX;dsimp only at hq b3⊢;subst hq;apply cD<;>intro J;have E:i<ps.length:=oJ;have R:i<(pI b.due u most).length:=oJ;have V:ps[i].2=wM (pI b.due u most)[i]:=by
  have:=IH (·[i]?) I;simp only[zQ,zA E,zA R,Option.map_some] at this;exact yO this
 generalize aa:(pI b.due u most)[i]=d at V;have hm:d∈b.due:=(by rw[<- aa];exact (mem_filter.1 (yV (zW R))).1);have ok:=G.2 d hm;obtain⟨B1,B2,k1,k2,_,_⟩:=hR ps[i] (zW E);rw[V] at k1 k2;have aj:eN [] w2 ps[i].1.1 (lp d.1 d.2.1):=k1.jQ lY λ_ _ h=>nomatch h;have ak:eN [] w2 ps[i].1.2 (je (Ct d)):=k2.jQ lY λ_ _ h=>nomatch h;refine iC (λq w'=>∃B',fj kX 4 w' q ((pI b.due u most).take (i+1)) B'/\Fr [] w2 w'/\∀x∈B',w2.heap.size<=x) ?_ λs4 w4 ⟨B4,b4,f4,n4⟩=>hX _ _ ⟨i+1,B4,by dsimp only;rw[gG _ oJ];rfl,E,b4,f4,n4⟩ (by dsimp only;rw[gG _ oJ];omega);refine eI.rY (x:=ps[i].1) (y:=ps[i].1) (ah.q8 U) i rfl (by rw[zQ,zA E];rfl) rfl rfl<|oB (oE [] w3) λr4 w4 _ f4 o=>o.st' 0 rfl _ (mR rfl) rfl (zM _) λw5 o _=>oA o 0 rfl ps[i].1.1 rfl (oA o 0 rfl ps[i].1.2 rfl ?_);have f5:=U.trans o.fr;refine qux (x:=Ct d) (aj.q8 f5) (ak.q8 f5) (qm ok.1) (qm ok.2.1) ⟨qm ok.2.2.1,qm ok.2.2.2⟩ λw6 f6=>oB (o.q8 f6) λr7 w7 _ f7 o=>o.st' 0 rfl _ (mR rfl) rfl (zM _) λw8 o _=>Im rfl (IR o 0 rfl d ?_);refine Bu (b3.q8 o.fr) (by rw[yL];omega) λs9 B9 w9 b9 f9 n9=>⟨B9,?_,(U.trans o.fr).J0 f9 λx hx=>.inr (n3 x hx),λx hx=>(n9 x hx).elim (n3 x) λh=>zL (U.trans o.fr).size h⟩;rw[yG R,aa];exact b9;have E:i=ps.length:=oJ;subst E;rw[ag,vA] at b3;have f:=(g.trans f1).trans f2;exact kk s3 B3 w3 b3 (f.trans U) (λx hx=>zL f.size (n3 x hx)) G.2
end
section
def Ep{x:Int}(h:lQ x):IntKind.u64.has x:=show (0:Int)<=x/\x<=18446744073709551615 from⟨h.1,oJ⟩
def qyV:IntKind.u64.has 0:=Ep ⟨oM,oM⟩
section
variable {w w' w1:IK} {Y F F':IS} {sb pb c:Nat} {b b':Bk}
end
end
section
section
variable {w w' w1:IK} {Y F F':IS} {sb pb c:Nat} {b b':Bk}
def SB.flt(h:SB w Y sb F c b):∀x∈F,x<w.heap.size:=by obtain⟨pb,dbk,FD,J,D,M,Fo,rfl,u,E,G,R,U,V⟩:=h;exact λx I=>(zD.1 I).elim (λh=>u.tw.z9.pE x (zH _ h)) λh=>u.tw.z9.lt x h
end
end
section
def Bg{a b:jf}{x y:Operand}{K:Bool->Prop}(k:K (decide (a=b))): fG [iF.one Cell.bool] (λw'=>(do eqGuard .eql vh x y (di a.1 a.2) (di b.1 b.2);binOp .eql vh (di a.1 a.2) (di b.1 b.2):Sem IL).run prog w') w K:=by have e:tP prog 2 vh (di a.1 a.2) (di b.1 b.2)=some (bif a.1==b.1 then (bif a.2==b.2 then true else false) else false):=oK;have h:(bif a.1==b.1 then (bif a.2==b.2 then true else false) else false)=decide (a=b):=(by obtain⟨u,E⟩:=a;obtain⟨G,I⟩:=b;dsimp only;by_cases h0:u=G;by_cases h1:E=I;simp[h0,h1];simp[h0,h1];simp[h0]);rw[h] at e;exact G6 2 oM _ e oK k
def eI.lW{α:Type}{enc:α->List IL}{l:List α}{cl:List Cell}(h:eI enc k S w s l)(n:Nat){x:α}{y:HL cl}{K:HL cl->Prop}(hi:i=n)(u:l[n]?=some x)(E:cl.length<=k)(G:(enc x).take cl.length=HL.mk cl y)(I:K y):idx s i k λa=>dX cl a w K:=by subst hi;obtain⟨V,b,o,J,_,cs,T,fr,R,U⟩:=h.at n u;refine qM J ⟨oJ,oJ⟩ ?_;rw[zJ];refine wL R y ?_ I;rw[<- G,<- U,take_take,xS E]
def eI.xg{α:Type}{enc:α->List IL}{l:List α}{c:Cell}(h:eI enc k S w s l)(n j:Nat){x:α}{y:c.El}{K:c.El->Prop}(hi:i=n)(E:l[n]?=some x)(G:j<k)(u:(enc x)[j]?=some (c.mk y))(I:K y):idx s i k λa=>ld c ⟨a.block,a.off+j,none⟩ w K:=by subst hi;obtain⟨V,b,o,J,_,cs,T,fr,R,U⟩:=h.at n E;refine qM J ⟨oJ,oJ⟩ ?_;rw[zJ];refine iv R y ?_ I;rw[<- U,xB,iP G,xA] at u;rw[<- xM];exact u
def pV (x:jf×Int):List IL:=[.w x.1.1,.w x.1.2,.b x.2]
def pq (m:Mv):List IL:=[.w m.1.1,.w m.1.2,.w m.2.1,.w m.2.2.1,.w m.2.2.2]
def mD (x:Ln):List IL:=[.w x.1.1,.w x.1.2]++HL.mk ka x.2
def BW (x:jf×Int):List IL:=[.w x.1.1,.w x.1.2,.w x.2]
abbrev rI:HL ll->List IL:=HL.mk ll
abbrev pg:=HL gE
structure RB (S:IS) (w:IK) (r:pg) (b:Bk):Prop where
 acc:eI rI 15 S w r.1 b.acc
 mg:eI tg 18 S w r.2.1 b.mg
 lL:eI pV 3 S w r.2.2.1 b.lL
 due:eI kX 4 S w r.2.2.2.1 b.due
 nY:eI pq 5 S w r.2.2.2.2.1 b.nY
 oi:eI pq 5 S w r.2.2.2.2.2.1 b.oi
 iq:eI mD 12 S w r.2.2.2.2.2.2.1 b.iq
 told:r.2.2.2.2.2.2.2.2.1=b.last.isSome/\r.2.2.2.2.2.2.2.1=b.last.getD 0
 gone:∃ g:List (jf×Int),g.length<=b.gn/\eI BW 3 S w r.2.2.2.2.2.2.2.2.2 g
section
variable {S S':IS} {w w':IK} {r:pg} {b:Bk}
def RB.j1(h:RB S w r b)(f:Fr S w w')(u:∀x∈S',x∈S\/w.heap.size<=x):RB S' w' r b:=⟨h.acc.j1 f u,h.mg.j1 f u,h.lL.j1 f u,h.due.j1 f u,h.nY.j1 f u,h.oi.j1 f u,h.iq.j1 f u,h.told,h.gone.elim λg q=>⟨g,q.1,q.2.j1 f u⟩⟩
def RB.q8(h:RB S w r b)(f:Fr [] w w'):RB S w' r b:=h.j1 (f.mono λ_ h _=>nomatch h) λ_ h=>.inl h
def Ci{α:Type}{p:α->Bool}{l:List α}{i:Nat}{x:α}(I:l[i]?=some x)(E:(l.take i).find? p=none):(p x=true->l.find? p=some x)/\(p x=false->(l.take (i+1)).find? p=none):=by obtain⟨G,u⟩:=zP.1 I;constructor;intro h;rw[show l.find? p=(l.take i++l.drop i).find? p by rw[xF],List.find?_append,E,zX G,u,List.find?_cons,h];rfl;intro h;rw[yG G,u,List.find?_append,E,List.find?_cons,h];rfl
end
end
section
section
variable {α:Type} {enc:α->List IL} {k:Nat} {w:IK} {s:Sl} {l:List α} {B S:IS}
def Hx{x:α}{K:WP}(h:fj enc k w s l B)(E:∀x,(enc x).length=k)(J:∀x,∀u∈enc x,u.oneCell'=true)(hi:i=n)(V:n<l.length)(kk:∀w',fj enc k w' s (l.set n x) B->Fr B w w'->K w'):idx s i k λa=>Pt.st a (enc x) w K:=by
 subst hi;have hf:=qI E;rcases h with ⟨_,rfl,_⟩|⟨b,o,I,T,rfl,rfl,ha,hb,h5,h6,h7,h8⟩;cases V;refine qM ha ⟨oJ,oJ⟩ ?_;rw[zJ,xT];rw[xG] at h8;have h9:l.length*k<=s.cap*k:=IB k oJ;have al:l.length*k<=I.size:=oJ;have G:l=l.take n++l[n]::l.drop (n+1):=(by rw[<- zX V,xF]);have aa:I=((l.take n).flatMap enc++enc l[n]++((l.drop (n+1)).flatMap enc++I.toList.drop (l.length*k))).toArray:=by
  apply Array.ext';have:l.flatMap enc=(l.take n).flatMap enc++enc l[n]++(l.drop (n+1)).flatMap enc:=by
   conv=>lhs;rw[G]
   rw[yQ,yH,zV]
  rw[<- zV,<- this,<- h8,xF]
 have hA:((l.take n).flatMap enc).length=n*k:=(by rw[hf,yL,xS oJ]);have R:en I (n*k) (enc x)=((l.take n).flatMap enc++enc x++((l.drop (n+1)).flatMap enc++I.toList.drop (l.length*k))).toArray:=by
  have:=t5 (A:=(l.take n).flatMap enc) (X:=enc l[n]) (Y:=enc x) (Z:=(l.drop (n+1)).flatMap enc++I.toList.drop (l.length*k)) (by rw[E,E]);rw[hA,<- aa] at this;exact this
 have ab:(n+1)*k<=l.length*k:=IB k V;rw[Nat.succ_mul] at ab;refine qH hb _ R (all_eq_true.2 (J x)) (by rw[E];omega) λw' ac f=>kk w' (.inr ⟨b,0,_,T,rfl,rfl,ha,ac,by rw[xH];exact h5,h6,?_,?_⟩) f;have:=IH Array.size R;rw[nT] at this;rw[<- this];exact h7;rw[xG,xH];have e:(l.set n x).flatMap enc=(l.take n).flatMap enc++enc x++(l.drop (n+1)).flatMap enc:=by rw[set_eq_take_append_cons_drop,iP V,yQ,yH,zV]
 have U:((l.set n x).flatMap enc).length=l.length*k:=(by rw[hf,xH]);show List.take (l.length*k) (_++_++(_++_))=_;rw[<- zV,<- e,<- U];exact take_left' rfl
def As{t ty e:IM}{i:TypeInfo}{z:IL}{r:Nat}{T:IM}(R:w.heap[r]?=some (.c #[] T))(I:eI enc k S w s l)(E:∀x,(enc x).length=k)(G:∀x,∀u∈enc x,u.oneCell'=true)(ht:prog.underlying t=some (.slice e))(hi:prog.info? e=some i)(hz:i.zero=some z)(U:i.size=k)(V:z.cells.size=k)(aa:i.bytes<=1000)(hl:l.length<=1000000)(kk:∀J B w',fj enc k w' J l B->Fr [r] w w'->(∀b∈B,b=r\/w.heap.size<=b)->K J w'): Pt.run dl ((Builtin.append_ #[t,t] ty #[.slice (pW r) 0 0,s.v]).run prog w) K:=by
 refine fj.j4 (s:=⟨pW r,0,0⟩) (l:=[]) (ys:=l) (B:=[r]) (fj.none R) E ht hi hz U V (uU (e':=e) I E G ht) I.1 ?_ (by simp;have:=I.1;omega) λJ B' w' b' f' n' _=>kk J B' w' (oP b') f' λb R=>(n' b R).imp (λh=>zE.1 h) id;have:=I.1;rw[xL,xT,this];calc l.length*i.bytes<=1000000*1000:=Nat.mul_le_mul hl aa
  _<=_:=by decide
end
def BO(x:HL ll):(rI x).length=15:=rfl
def Hf(x:HL ll):∀u∈rI x,u.oneCell'=true:=all_eq_true.1 rfl
def qAk:∃i,prog.info? 74=some i/\i.zero=some (Il ll BX)/\i.size=15/\i.bytes=104:=tB oK
section
variable {S:IS} {w w':IK} {r:pg} {b:Bk}
def yu{α:Type}{enc:α->List IL}{w w0:IK}{l:List α}{B S:IS}(h:fj enc k w s l B)(u:∀x,(enc x).length=k)(E:∀x∈S,x<w0.heap.size)(G:∀x∈B,w0.heap.size<=x):eI enc k S w s l:=h.jQ u λb I J=>by have:=E b J;have:=G b I;omega
def BT{α κ:Type}[DecidableEq κ]{kf:α->κ}{a x:α}{l:List α}(E:l[n]?=some x)(u:(l.take n).find? (λy=>decide (kf y=kf a))=none)(h:kf x=kf a):jd kf a l=l.set n a:=by obtain⟨G,rfl⟩:=zP.1 E;refine qsj G h λj I e=>?_;rw[List.find?_eq_none] at u;refine u (l[j]' oJ) ?_ (oP e);exact mem_take_iff_getElem.2 ⟨j,oJ,rfl⟩
def CP{α κ:Type}[DecidableEq κ]{kf:α->κ}{a:α}{l:List α}(h:l.find? (λy=>decide (kf y=kf a))=none):jd kf a l=l++[a]:=G3 λx u e=>by rw[List.find?_eq_none] at h;exact h x u (oP e)
def quE{a:HL ll}{K:pg->WP}(h:RB S w r b)(hl:b.size<=100000)(hS:∀x∈S,x<w.heap.size)(kk:∀r' w',RB S w' r' (b.mL a)->Fr [] w w'->K r' w'): cW 64 [Il gE r,Il ll a] [.agg gE] w K:=by
 refine qc6 ?_;have aE:b.acc.length<=100000:=(by unfold Bk.size at hl;omega);obtain⟨i,hi,hz,ab,ac⟩:=qAk;refine oB (oE [] w) λr1 w1 _ f1 o=>oB o λr3 w2 _ f2 o=>oB o λr5 R _ f3 o=>oB (oE [] R) λr7 w4 e4 f4 o2=>?_;have o4:=o.q8 f4;refine IQ o4 2 rfl r.1 (As (e:=74) (o2.at (i:=0) rfl) (h.q8 o4.fr).acc BO Hf oK hi hz ab rfl (by rw[ac];decide) oJ λs5 B5 w5 b5 f5 n5=>?_);have G:∀x∈B5,R.heap.size<=x:=λx u=>(n5 x u).elim (λe=>oJ) λh=>zL f4.size h;have U:Fr [] R w5:=f4.J0 f5 λx u=>.inr (by rw[zE.1 u];omega);have ad:∀(s:Sl) (l:List (HL ll)) (B:IS) w6,fj rI 15 w6 s l B->(∀x∈B,R.heap.size<=x)->Fr [] R w6->l=jd nO a b.acc->Pt.st (dk r1) [s.v] w6 λw7=>dX gE (dk r1) w7 λt=>Pt.st (dk r5) (HL.mk gE t) w7 λw8=>dX gE (dk r5) w8 λt=>K t w8:=λs l B w6 hb hB I e=>by
  refine (o.q8 I).st' 2 rfl (HL.mk gE (s,r.2)).toArray rfl rfl (zO rfl) λw7 o7 f7=>IR o7 2 rfl (s,r.2) (o7.st' 0 rfl _ (mR rfl) rfl (zM _) λw8 o8 f8=>IR o8 0 rfl (s,r.2) ?_);have J:=h.q8 o8.fr;have l1:r1<R.heap.size:=eO (o.at (i:=2) rfl);have l5:r5<R.heap.size:=eO (o.at (i:=0) rfl);have ao:=(hb.j1 f7 λx u h=>by have:=hB x u;have:=zE.1 h;omega).j1 f8 λx u h=>by have:=hB x u;have:=zE.1 h;omega
  have ap:eI rI 15 S w8 s (jd nO a b.acc):=(by rw[<- e];exact yu ao BO hS λx u=>zL o.fr.size (hB x u));exact kk (s,r.2) w8 ⟨ap,J.mg,J.lL,J.due,J.nY,J.oi,J.iq,J.told,J.gone⟩ o8.fr
 have aL:s5.len=b.acc.length:=b5.len;refine jv (λq w'=>∃n:Nat,q=n/\n<=b.acc.length/\Fr [] w5 w'/\((b.acc.take n).find? λx=>decide (nO x=nO a))=none) (λq _=>b.acc.length-q.toNat) ⟨0,rfl,yX _,.refl _ _,rfl⟩ ?_;rintro q w6 ⟨n,rfl,hn,I,hf⟩ X hX;apply cD<;>intro hc;have E:n<b.acc.length:=oJ;have u:=zA E;have b6:=(b5.q8 I).q8 (Fr.refl [] w6).drew;have o6:=o.q8 ((U.trans I).drew);refine eI.lW (cl:=u2) (S:=[]) (b6.jQ BO λ_ _ h=>nomatch h) n rfl u oM rfl (IR o6 1 rfl (nO a) (Bg (a:=nO b.acc[n]) ?_));have st:=Ci (p:=λx=>decide (nO x=nO a)) u hf;apply eB<;>intro hb;refine IR o6 1 rfl a (Hx b6 BO Hf rfl E λw7 b7 f7=>ad _ _ _ _ b7 G ((U.trans I).drew.J0 f7 λx u=>.inr (G x u)) (BT u hf (zC hb)).symm);rw[gG _ oJ];exact hX _ _ ⟨n+1,rfl,E,I.drew,st.2 hb⟩ oJ;have E:n=b.acc.length:=oJ;subst E;rw[vA] at hf;have V:=U.trans I;refine IR (o.q8 V) 1 rfl a (fj.push (e:=74) (x:=a) (b5.q8 I) BO (Hf a) oK hi hz ab rfl rfl (by rw[ac];omega) oJ λs7 B7 w7 b7 f7 n7=>ad _ _ _ _ b7 (λx u=>(n7 x u).elim (G x) (zL V.size)) (V.J0 f7 λx u=>.inr (G x u)) (CP hf).symm)
end
end
section
abbrev HU:IM:=49
abbrev mvs:List Cell:=[.w,.w,.w,.w,.w]
def Cm(x:Mv):(pq x).length=5:=rfl
def G8(x:Mv):∀u∈pq x,u.oneCell'=true:=all_eq_true.1 rfl
def qAp:∃i,prog.info? HU=some i/\i.zero=some (.agg #[.w 0,.w 0,.w 0,.w 0,.w 0])/\i.size=5/\i.bytes=40:=tB oK
section
variable {S:IS} {w w':IK} {s:Sl} {l:List Mv}
def qra{m:Mv}(h:eI pq 5 S w s l)(hl:l.length<=100000)(hS:∀x∈S,x<w.heap.size)(kk:∀s' w',eI pq 5 S w' s' (jd qe m l)->Fr [] w w'->K s' w'): cW 109 [s.v,.agg #[.w m.1.1,.w m.1.2,.w m.2.1,.w m.2.2.1,.w m.2.2.2]] dl w K:=by
 refine qhG ?_;obtain⟨i,hi,hz,aa,ab⟩:=qAp;refine oB (oE [] w) λr1 w3 _ f3 o=>oB (oE [] w3) λr7 w4 e4 f4 o2=>?_;have o4:=o.q8 f4;refine As (e:=HU) (o2.at (i:=0) rfl) (h.q8 o4.fr) Cm G8 oK hi hz aa rfl (by rw[ab];decide) oJ λs5 B5 w5 b5 f5 n5=>?_;have I:∀x∈B5,w3.heap.size<=x:=λx u=>(n5 x u).elim (λe=>oJ) λh=>zL f4.size h;have U:Fr [] w3 w5:=f4.J0 f5 λx u=>.inr (by rw[zE.1 u];omega);have ad:∀(s:Sl) (l':List Mv) (B:IS) J,fj pq 5 J s l' B->(∀x∈B,w3.heap.size<=x)->Fr [] w3 J->l'=jd qe m l->K s J:=λs l' B J E hB R e=>by refine kk s J ?_ (f3.trans R);rw[<- e];exact yu E Cm hS λx u=>zL f3.size (hB x u)
 have aF:s5.len=l.length:=b5.len;refine jv (λq w'=>∃n:Nat,q=n/\n<=l.length/\Fr [] w5 w'/\((l.take n).find? λx=>decide (qe x=qe m))=none) (λq _=>l.length-q.toNat) ⟨0,rfl,yX _,.refl _ _,rfl⟩ ?_;rintro q J ⟨n,rfl,hn,R,hf⟩ X hX;apply cD<;>intro hc;have G:n<l.length:=oJ;have u:=zA G;have b6:=(b5.q8 R).q8 (Fr.refl [] J).drew;have o6:=o.q8 ((U.trans R).drew);have r6:eI pq 5 [] J.drew s5 l:=b6.jQ Cm λ_ _ h=>nomatch h;refine uu (decide (qe l[n]=qe m)) J.drew (λM hM=>?_) ?_;refine eI.lW (cl:=u2) r6 n rfl u oM rfl (IR o6 0 rfl m.1 (Bg (a:=l[n].1) ?_));apply eB<;>intro E;have E:=zC E;refine eI.xg (c:=.w) r6 n 2 rfl u oM (y:=l[n].2.1) rfl (IQ o6 0 rfl m.2.1 ?_);rw[show (l[n].2.1==m.2.1)=decide (qe l[n]=qe m) by unfold qe;rw[E];by_cases e:l[n].2.1=m.2.1;simp[e];simp[e]];exact hM;have E:=zB E;rw[show decide (qe l[n]=qe m)=false from zU λe=>E (vC e).1] at hM;exact hM;have st:=Ci (p:=λx=>decide (qe x=qe m)) u hf;apply eB<;>intro E;refine IR o6 0 rfl (m.1.1,m.1.2,m.2.1,m.2.2.1,m.2.2.2) (Hx b6 Cm G8 (x:=m) rfl G λw7 b7 f7=>ad _ _ _ _ b7 I ((U.trans R).drew.J0 f7 λx u=>.inr (I x u)) (BT u hf (zC E)).symm);rw[gG _ oJ];exact hX _ _ ⟨n+1,rfl,G,R.drew,st.2 E⟩ oJ;have G:n=l.length:=oJ;subst G;rw[vA] at hf;have V:=U.trans R;refine IR (o.q8 V) 0 rfl (m.1.1,m.1.2,m.2.1,m.2.2.1,m.2.2.2) (fj.push (e:=HU) (x:=m) (b5.q8 R) Cm (G8 m) oK hi hz aa rfl rfl (by rw[ab];omega) oJ λs7 B7 w7 b7 f7 n7=>ad _ _ _ _ b7 (λx u=>(n7 x u).elim (I x) (zL V.size)) (V.J0 f7 λx u=>.inr (I x u)) (CP hf).symm)
end
end
section
section
variable {α:Type} {enc:α->List IL} {k:Nat} {w:IK} {s:Sl} {l:List α} {B S:IS}
def qtI{j:Nat}{x:α}{vs:List IL}{K:WP}(h:fj enc k w s l B)(G:∀x,(enc x).length=k)(hi:i=n)(hn:n<l.length)(J:vs.all Value.oneCell'=true)(hj:j+vs.length<=k)(hx:enc x=(enc l[n]).take j++vs++(enc l[n]).drop (j+vs.length))(kk:∀w',fj enc k w' s (l.set n x) B->Fr B w w'->K w'):idx s i k λa=>Pt.st ⟨a.block,a.off+j,none⟩ vs w K:=by
 subst hi;have hf:=qI G;rcases h with ⟨_,rfl,_⟩|⟨b,o,u,T,rfl,rfl,ha,hb,h5,h6,h7,h8⟩;cases hn;refine qM ha ⟨oJ,oJ⟩ ?_;rw[zJ,xT];rw[xG] at h8;have h9:l.length*k<=s.cap*k:=IB k oJ;have aq:l.length*k<=u.size:=oJ;have E:l=l.take n++l[n]::l.drop (n+1):=(by rw[<- zX hn,xF]);have R:=G l[n];have he:enc l[n]=(enc l[n]).take j++((enc l[n]).drop j).take vs.length++(enc l[n]).drop (j+vs.length):=(by rw[zV,<- xE,xF,xF]);have U:u=(((l.take n).flatMap enc++(enc l[n]).take j)++((enc l[n]).drop j).take vs.length++((enc l[n]).drop (j+vs.length)++((l.drop (n+1)).flatMap enc++u.toList.drop (l.length*k)))).toArray:=by
  apply Array.ext';have:l.flatMap enc=(l.take n).flatMap enc++enc l[n]++(l.drop (n+1)).flatMap enc:=by
   conv=>lhs;rw[E]
   rw[yQ,yH,zV]
  have h0:u.toList=(l.take n).flatMap enc++enc l[n]++(l.drop (n+1)).flatMap enc++u.toList.drop (l.length*k):=(by rw[<- this,<- h8,xF]);rw[h0];conv=>lhs;rw[he]
  rw[<- h0];simp only[zV]
 have hA:((l.take n).flatMap enc++(enc l[n]).take j).length=n*k+j:=(by rw[zF,hf,yL,yL,xS oJ,R];omega);have I:en u (n*k+j) vs=((l.take n).flatMap enc++enc x++((l.drop (n+1)).flatMap enc++u.toList.drop (l.length*k))).toArray:=by
  have:=t5 (A:=(l.take n).flatMap enc++(enc l[n]).take j) (X:=((enc l[n]).drop j).take vs.length) (Y:=vs) (Z:=(enc l[n]).drop (j+vs.length)++((l.drop (n+1)).flatMap enc++u.toList.drop (l.length*k))) (by rw[yL,yB,R];omega);rw[hA,<- U] at this;rw[this,hx];simp only[zV]
 have ad:(n+1)*k<=l.length*k:=IB k hn;rw[Nat.succ_mul] at ad;have V:n*k+j+vs.length<=u.size:=(by clear U I hx he hA h8;omega);refine qH hb _ I J V λw' ae f=>kk w' (.inr ⟨b,0,_,T,rfl,rfl,ha,ae,by rw[xH];exact h5,h6,?_,?_⟩) f;have:=IH Array.size I;rw[nT] at this;rw[<- this];exact h7;rw[xG,xH];have e:(l.set n x).flatMap enc=(l.take n).flatMap enc++enc x++(l.drop (n+1)).flatMap enc:=by rw[set_eq_take_append_cons_drop,iP hn,yQ,yH,zV]
 have aa:((l.set n x).flatMap enc).length=l.length*k:=(by rw[hf,xH]);show List.take (l.length*k) (_++_++(_++_))=_;rw[<- zV,<- e,<- aa];exact take_left' rfl
end
abbrev yi:IM:=144
def Ck(x:jf×Int):(pV x).length=3:=rfl
def qpJ(x:jf×Int):∀u∈pV x,u.oneCell'=true:=all_eq_true.1 rfl
def qAs:∃i,prog.info? yi=some i/\i.zero=some (.agg #[.w 0,.w 0,.b 0])/\i.size=3/\i.bytes=24:=tB oK
def quI{r:pg}{b:Bk}{i0 E x:Int}{K:pg->WP}(h:RB S w r b)(hl:b.size<=100000)(hS:∀x∈S,x<w.heap.size)(kk:∀r' w',RB S w' r' (b.mf ((i0,E),x))->Fr [] w w'->K r' w'): cW 66 [Il gE r,di i0 E,.b x] [.agg gE] w K:=by
 refine qdy ?_;have aF:b.lL.length<=100000:=(by unfold Bk.size at hl;omega);obtain⟨i,hi,hz,ac,ad⟩:=qAs;refine oB (oE [] w) λr1 w1 _ f1 o=>oB o λr3 w2 _ f2 o=>oB o λr5 U _ f3 o=>oB (oE [] U) λr7 w4 e4 f4 o2=>?_;have o4:=o.q8 f4;refine IQ o4 2 rfl r.2.2.1 (As (e:=yi) (o2.at (i:=0) rfl) (h.q8 o4.fr).lL Ck qpJ oK hi hz ac rfl (by rw[ad];decide) oJ λs5 B5 w5 b5 f5 n5=>?_);have I:∀x∈B5,U.heap.size<=x:=λx u=>(n5 x u).elim (λe=>oJ) λh=>zL f4.size h;have V:Fr [] U w5:=f4.J0 f5 λx u=>.inr (by rw[zE.1 u];omega);have ae:∀(s:Sl) (l:List (jf×Int)) (B:IS) w6,fj pV 3 w6 s l B->(∀x∈B,U.heap.size<=x)->Fr [] U w6->l=jd (λy:jf×Int=>y.1) ((i0,E),x) b.lL->Pt.st (dk r1 2) [s.v] w6 λw7=>dX gE (dk r1) w7 λt=>Pt.st (dk r5) (HL.mk gE t) w7 λw8=>dX gE (dk r5) w8 λt=>K t w8:=λs l B w6 hb hB J e=>by
  refine (o.q8 J).st' 2 rfl (HL.mk gE (r.1,r.2.1,s,r.2.2.2)).toArray rfl rfl (zO rfl) λw7 o7 f7=>IR o7 2 rfl (r.1,r.2.1,s,r.2.2.2) (o7.st' 0 rfl _ (mR rfl) rfl (zM _) λw8 o8 f8=>IR o8 0 rfl (r.1,r.2.1,s,r.2.2.2) ?_);have R:=h.q8 o8.fr;have l1:r1<U.heap.size:=eO (o.at (i:=2) rfl);have l5:r5<U.heap.size:=eO (o.at (i:=0) rfl);have aq:=(hb.j1 f7 λx u h=>by have:=hB x u;have:=zE.1 h;omega).j1 f8 λx u h=>by have:=hB x u;have:=zE.1 h;omega
  have ar:eI pV 3 S w8 s (jd (λy:jf×Int=>y.1) ((i0,E),x) b.lL):=(by rw[<- e];exact yu aq Ck hS λx u=>zL o.fr.size (hB x u));exact kk (r.1,r.2.1,s,r.2.2.2) w8 ⟨R.acc,R.mg,ar,R.due,R.nY,R.oi,R.iq,R.told,R.gone⟩ o8.fr
 have aM:s5.len=b.lL.length:=b5.len;refine jv (λq w'=>∃n:Nat,q=n/\n<=b.lL.length/\Fr [] w5 w'/\((b.lL.take n).find? λy:jf×Int=>decide (y.1=(((i0,E),x):jf×Int).1))=none) (λq _=>b.lL.length-q.toNat) ⟨0,rfl,yX _,.refl _ _,rfl⟩ ?_;rintro q w6 ⟨n,rfl,hn,J,hf⟩ X hX;apply cD<;>intro hc;have G:n<b.lL.length:=oJ;have u:=zA G;have b6:=(b5.q8 J).q8 (Fr.refl [] w6).drew;have o6:=o.q8 ((V.trans J).drew);refine eI.lW (cl:=u2) (S:=[]) (b6.jQ Ck λ_ _ h=>nomatch h) n rfl u oM rfl (IR o6 1 rfl (i0,E) (Bg (a:=b.lL[n].1) ?_));have st:=Ci (p:=λy:jf×Int=>decide (y.1=(((i0,E),x):jf×Int).1)) u hf;apply eB<;>intro hb;have ai:b.lL[n].1=(i0,E):=zC hb;refine qtI (j:=2) (x:=((i0,E),x)) (vs:=[.b x]) b6 Ck rfl G rfl (zM _) (by rw[show pV b.lL[n]=pV (b.lL[n].1,b.lL[n].2) from rfl,ai];rfl) λw7 b7 f7=>ae _ _ _ _ b7 I ((V.trans J).drew.J0 f7 λx u=>.inr (I x u)) (BT (kf:=λy:jf×Int=>y.1) u hf ai).symm;rw[gG _ oJ];exact hX _ _ ⟨n+1,rfl,G,J.drew,st.2 hb⟩ oJ;have G:n=b.lL.length:=oJ;subst G;rw[vA] at hf;have aa:=V.trans J;refine IR (o.q8 aa) 1 rfl (i0,E) (fj.push (e:=yi) (x:=(((i0,E),x):jf×Int)) (b5.q8 J) Ck (qpJ _) oK hi hz ac rfl rfl (by rw[ad];omega) oJ λs7 B7 w7 b7 f7 n7=>ae _ _ _ _ b7 (λx u=>(n7 x u).elim (I x) (zL aa.size)) (aa.J0 f7 λx u=>.inr (I x u)) (CP (kf:=λy:jf×Int=>y.1) hf).symm)
end
def eI.H0{α:Type}{enc:α->List IL}{l:List α}{c:Cell}(h:eI enc k S w s l)(n:Nat){x:α}{y:c.El}{K:c.El->Prop}(hi:i=n)(E:l[n]?=some x)(G:0<k)(u:(enc x)[0]?=some (c.mk y))(I:K y):idx s i k λa=>ld c a w K:=by subst hi;obtain⟨V,b,o,J,_,cs,T,fr,R,U⟩:=h.at n E;refine qM J ⟨oJ,oJ⟩ ?_;rw[zJ];refine iv R y ?_ I;rw[<- U,xB,iP G,xA,Nat.add_zero] at u;rw[<- xM];exact u
def qx6(u:n<l.length):jE d (l.take (n+1))=jE d (l.take n)++if lM l[n]≠lM d then [l[n]] else []:=by unfold jE;rw[yG u,xC];congr 1;by_cases h:lM l[n]=lM d;simp[h];simp[h]
def qlH{r:pg}{b:Bk}{K:pg×Bool->WP}(h:RB S w r b)(hl:b.size<=100000)(hS:∀x∈S,x<w.heap.size)(kk:∀r' w',RB S w' r' (b.k8 d)->Fr [] w w'->K (r',decide ((jE d b.due).length<b.due.length)) w'): cW 69 [Il gE r,.agg #[.w d.1,.w d.2.1,.w d.2.2.1,.w d.2.2.2]] [.agg gE,.one .bool] w K:=by
 refine qek ?_;have ax:b.due.length<=100000:=(by unfold Bk.size at hl;omega);refine oB (oE [] w) λr1 w1 _ f1 o=>oB o λr3 w2 _ f2 o=>oB o λr5 I _ f3 o=>oB (oE [] I) λr7 w4 e4 f4 o2=>?_;have l1:r1<I.heap.size:=eO (o.at (i:=2) rfl);have l5:r5<I.heap.size:=eO (o.at (i:=0) rfl);have af:=(h.q8 o.fr).due;refine jv (λt w'=>∃n:Nat,∃B,t.2=n/\n<=b.due.length/\fj kX 4 w' t.1 (jE d (b.due.take n)) B/\Fr [] I w'/\∀x∈B,I.heap.size<=x) (λt _=>b.due.length-t.2.toNat) ⟨0,[r7],rfl,yX _,fj.none (o2.at (i:=0) rfl),f4,λx u=>by rw[zE.1 u];omega⟩ ?_;rintro⟨s,q⟩ w5 ⟨n,B,hq,hn,V,f5,U⟩ X hX;dsimp only at hq V⊢;subst hq;have o5:=o.q8 f5;have ab:eI kX 4 S w5 r.2.2.2.1 b.due:=af.q8 f5;have ah:r.2.2.2.1.len=b.due.length:=ab.1;refine IQ o5 2 rfl r.2.2.2.1 (eB (λhc=>?_) λhc=>?_);have E:n<b.due.length:=(by have:=zC hc;omega);have u:=zA E;have ct:=qx6 (d:=d) E;generalize b.due[n]=x at u ct;have o6:=o5.drew;have J:=ab.drew;have aE:(jE d (b.due.take n)).length<=100000:=zL (length_filter_le _ _) (by rw[yL];omega);refine iC (λs' w'=>∃B',fj kX 4 w' s' (jE d (b.due.take (n+1))) B'/\Fr [] I w'/\∀x∈B',I.heap.size<=x) ?_ λs' w' ⟨B',b',f',n'⟩=>hX _ _ ⟨n+1,B',by dsimp only;rw[gG _ oJ];rfl,E,b',f',n'⟩ (by dsimp only;rw[gG _ oJ];omega);refine uu (decide (lM x≠lM d)) w5.drew (λM hM=>?_) ?_;refine IQ o6 2 rfl r.2.2.2.1 (eI.H0 (c:=.w) J n rfl u oM (y:=x.1) rfl (IQ o6 1 rfl d.1 ?_));by_cases e:x.1=d.1;refine Io (by rw[e];simp) (IQ o6 2 rfl r.2.2.2.1 (eI.xg (c:=.w) J n 1 rfl u oM (y:=x.2.1) rfl (IQ o6 1 rfl d.2.1 ?_)));rw[show (!x.2.1==d.2.1)=decide (lM x≠lM d) by unfold lM;rw[e];by_cases e2:x.2.1=d.2.1;simp[e2];simp[e2]];exact hM;rw[show decide (lM x≠lM d)=true from zZ λh=>e (vC h).1] at hM;exact Im (oP e) hM;rw[ct];have b6:=V.q8 (Fr.refl [] w5).drew;apply cD<;>intro R;rw[iP (R)];refine IQ o6 2 rfl r.2.2.2.1 (eI.rY (y:=x) J n rfl u rfl rfl (Bu b6 oJ λs7 B7 w7 b7 f7 n7=>⟨B7,b7,f5.drew.J0 f7 λx u=>.inr (U x u),λx u=>(n7 x u).elim (U x) (zL f5.drew.size)⟩));rw[iN (R),xI];exact⟨B,b6,f5.drew,U⟩;have E:n=b.due.length:=(by have:=zB hc;omega);subst E;rw[vA] at V;refine IQ o5 2 rfl r.2.2.2.1 (o5.st' 2 rfl (HL.mk gE (r.1,r.2.1,r.2.2.1,s,r.2.2.2.2)).toArray rfl rfl (zO rfl) λw7 o7 f7=>IR o7 2 rfl (r.1,r.2.1,r.2.2.1,s,r.2.2.2.2) (o7.st' 0 rfl _ (mR rfl) rfl (zM _) λw8 o8 f8=>IR o8 0 rfl (r.1,r.2.1,r.2.2.1,s,r.2.2.2.2) ?_));have G:=h.q8 o8.fr;have am:=(V.j1 f7 λx u h=>by have:=U x u;have:=zE.1 h;omega).j1 f8 λx u h=>by have:=U x u;have:=zE.1 h;omega
 have e1:s.len=(jE d b.due).length:=V.len;have e2:r.2.2.2.1.len=b.due.length:=ah;have:=kk (r.1,r.2.1,r.2.2.1,s,r.2.2.2.2) w8 ⟨G.acc,G.mg,G.lL,yu am D3 hS λx u=>zL o.fr.size (U x u),G.nY,G.oi,G.iq,G.told,G.gone⟩ o8.fr;rw[<- e1,<- e2] at this;simpa using this
def quD{r:pg}{b:Bk}{K:pg×Bool->WP}(h:RB S w r b)(u:b.size<=100000)(E:∀x∈S,x<w.heap.size)(G:∀r' w' t,RB S w' r' (b.k8 d)->Fr [] w w'->K (r',t) w'): cW 69 [Il gE r,.agg #[.w d.1,.w d.2.1,.w d.2.2.1,.w d.2.2.2]] [.agg gE,.one .bool] w K:=
 qlH h u E λr' w' h f=>G r' w' _ h f
end
section
open Go Go.Pt List
open Go.IntKind (wrap)
open Classical
attribute [local irreducible] ld dX jg oe jF fP st new idx jG jR fM jY jz mM iH nn call eJ inv run fG js join loop held ext kz eC nK nE nQ IntKind.wrap
end
section
open Go Go.Pt List
open Go.IntKind (wrap)
open Classical
attribute [local irreducible] ld dX jg oe jF fP st new idx jG jR fM jY jz mM iH nn call eJ inv run fG js join loop held ext kz eC nK nE nQ IntKind.wrap
section
variable {w:IK}
def qv3{a b:HL jB}{K:Bool->WP}(u:∀w',Fr [] w w'->K (mY a b) w'):cW 110 [.agg #[.w a.1,.w a.2.1,.w a.2.2.1,.w a.2.2.2],.agg #[.w b.1,.w b.2.1,.w b.2.2.1,.w b.2.2.2]] dp w K:=by refine qhj<|oB (oE [] w) λE w1 _ G o=>oB o λI w2 _ J o=>IQ o 1 rfl a.1 (IQ o 0 rfl b.1 ?_);have u:=u w2 o.fr;unfold mY at u;apply eB<;>intro h;rw[zZ (.inl (zC h))] at u;exact u;have h:=zB h;refine IQ o 1 rfl a.1 (IQ o 0 rfl b.1 (eB (λe=>?_) λe=>?_));have e:a.1=b.1:=eq_of_beq e;refine IQ o 1 rfl a.2.1 (IQ o 0 rfl b.2.1 ?_);rw[show decide (a.1<b.1\/a.1=b.1/\a.2.1<b.2.1)=decide (a.2.1<b.2.1) from decide_eq_decide.2 ⟨λq=>q.elim (λq=>absurd q h) λq=>q.2,λq=>.inr ⟨e,q⟩⟩] at u;exact u;have e:a.1≠b.1:=ne_of_beq_false e;rw[zU λq=>q.elim h λq=>e q.1] at u;exact u
end
def rD (d:HL jB):Bool->List (HL jB)->List (HL jB)
 | c,[]=>if c then [] else [d]
 | c,x::r=>(if c=false/\mY d x=true then [d] else [])++x::rD d (c||mY d x) r
def qpS{d:HL jB}:∀l,rD d true l=l
 | []=>rfl
 | x::r=>by rw[rD,iN (λh=>nomatch h.1),Bool.true_or,qpS r];rfl
def qtW{d:HL jB}:∀l,rD d false l=lU d l
 | []=>rfl
 | x::r=>by rw[rD,lU,Bool.false_or];by_cases h:mY d x=true;rw[iP ⟨rfl,h⟩,iP h,h,qpS];rfl;rw[iN λq=>h q.2,iN h,Bool.eq_false_iff.2 h,qtW r];rfl
def quF{S:IS}{w:IK}{r:pg}{b:Bk}{d:HL jB}{K:pg->WP}(h:RB S w r b)(hl:b.size<=100000)(hS:∀x∈S,x<w.heap.size)(kk:∀r' w',RB S w' r' (b.jS d)->Fr [] w w'->K r' w'): cW 68 [Il gE r,.agg #[.w d.1,.w d.2.1,.w d.2.2.1,.w d.2.2.2]] [.agg gE] w K:=by
 refine qel ?_;have aw:b.due.length<=100000:=(by unfold Bk.size at hl;omega);refine oB (oE [] w) λr1 w1 _ f1 o=>oB o λr3 w2 _ f2 o=>oB o λr5 w3 _ f3 o=>IR o 2 rfl r (IR o 1 rfl d ?_);have ax:=o.fr.size;have l1:r1<w3.heap.size:=eO (o.at (i:=2) rfl);have l5:r5<w3.heap.size:=eO (o.at (i:=0) rfl);have n1:w.heap.size<=r1:=(o.own _ (yF (i:=2) rfl)).elim (λh=>nomatch h) id;have n5:w.heap.size<=r5:=(o.own _ (yF (i:=0) rfl)).elim (λh=>nomatch h) id;have ay:∀x∈r1::r5::S,x<w3.heap.size:=λx u=>by rcases zG.1 u with rfl|u;exact l1;rcases zG.1 u with rfl|u;exact l5;exact yC (hS x u) o.fr.size
 have h0:RB (r1::r5::S) w r b:=h.j1 (.refl _ _) λx u=>by rcases zG.1 u with rfl|u;exact .inr n1;rcases zG.1 u with rfl|u;exact .inr n5;exact .inl u
 refine quD (d:=d) (h0.q8 o.fr) hl ay λr' w4 _ h4 f4=>(o.q8 f4).st' 2 rfl _ (mR rfl) rfl (zM _) λJ o f5=>?_;have h5:=h4.j1 (f5.mono λx u _=>by rw[zE.1 u];exact Is) λx u=>.inl u;have z5:w3.heap.size<=J.heap.size:=zL f4.size f5.size;have az:(jE d b.due).length<=100000:=zL (length_filter_le _ _) aw;have V:eI kX 4 (r1::r5::S) J r'.2.2.2.1 (jE d b.due):=h5.due;have ac:(b.jS d).due=lU d (jE d b.due):=rfl;generalize jE d b.due=L at az V ac;have aY:r'.2.2.2.1.len=L.length:=V.1;refine oB (oE [] J) λr7 w6 e6 f6 o2=>jv (λt w'=>∃n:Nat,∃B E,t.2.2=n/\n<=L.length/\fj kX 4 w' t.1 E B/\E++rD d t.2.1 (L.drop n)=lU d L/\E.length<=2*n/\Fr [] J w'/\∀x∈B,J.heap.size<=x) (λt _=>L.length-t.2.2.toNat) ⟨0,[r7],[],rfl,yX _,fj.none (o2.at (i:=0) rfl),qtW L,zM _,f6,λx u=>by rw[zE.1 u];omega⟩ ?_;rintro⟨s,c,q⟩ w7 ⟨n,B,E,hq,hn,hb,he,a2,f7,nB⟩ X hX;dsimp only at hq hb he⊢;subst hq;have o7:=o.q8 f7;have aA:=V.q8 f7;refine IQ o7 2 rfl r'.2.2.2.1 (eB (λhc=>?_) λhc=>?_);have G:n<L.length:=(by have:=zC hc;omega);have u:=zA G;rw[zX G,rD] at he;generalize L[n]=x at u he;refine iC (λz w'=>∃B',z.2=(c||mY d x)/\fj kX 4 w' z.1 (E++if c=false/\mY d x=true then [d] else []) B'/\Fr [] J w'/\∀x∈B',J.heap.size<=x) ?_ ?_;refine iC (λz w'=>z=decide (c=false/\mY d x=true)/\Fr [] w7 w') ?_ ?_;cases c;refine Im rfl (IR o7.drew 1 rfl d (IQ o7.drew 2 rfl r'.2.2.2.1 (eI.rY (y:=x) aA.drew n rfl u rfl rfl (qv3 λw8 f8=>⟨?_,(Fr.refl [] w7).drew.trans f8⟩))));cases mY d x<;>simp;exact Io rfl ⟨oL,(Fr.refl [] w7).drew⟩;rintro z w8 ⟨rfl,f8⟩;have am:=hb.q8 f8;apply eB<;>intro R;have R:=zC R;rw[iP R];refine IR (o7.q8 f8) 1 rfl d (Bu am oJ λs9 B9 w9 b9 I U=>⟨B9,by dsimp only;rw[R.2,Bool.or_true],b9,(f7.trans f8).J0 I λx u=>.inr (nB x u),λx u=>(U x u).elim (nB x) (zL (f7.trans f8).size)⟩);have R:=zB R;rw[iN R,xI];exact⟨B,by dsimp only;cases c<;>simp at R⊢;exact R,am,f7.trans f8,nB⟩;rintro⟨s9,c9⟩ w9 ⟨B9,rfl,b9,I,U⟩;dsimp only at b9⊢;refine IQ (o.q8 I) 2 rfl r'.2.2.2.1 (eI.rY (y:=x) (V.q8 I) n rfl u rfl rfl (Bu b9 (by rw[zF];split<;>simp<;>omega) λa5 aD aE aF ab aG=>?_));refine hX _ _ ⟨n+1,aD,_,by dsimp only;rw[gG _ oJ];rfl,G,aF,by rw[<- he];simp only[zV,xK,xJ],by rw[zF,zF];split<;>simp<;>omega,I.J0 ab λx u=>.inr (U x u),λx u=>(aG x u).elim (U x) (zL I.size)⟩ (by dsimp only;rw[gG _ oJ];omega);have G:n=L.length:=(by have:=zB hc;omega);subst G;rw[drop_length,rD] at he;refine iC (λz w'=>∃B',fj kX 4 w' z (lU d L) B'/\Fr [] J w'/\∀x∈B',J.heap.size<=x) ?_ ?_;cases c;rw[iN oM] at he;refine Im rfl (IR o7 1 rfl d (Bu hb oJ λs9 B9 w9 b9 I U=>⟨B9,by rw[<- he];exact b9,f7.J0 I λx u=>.inr (nB x u),λx u=>(U x u).elim (nB x) (zL f7.size)⟩));rw[iP rfl,xI] at he;exact Io rfl ⟨B,by rw[<- he];exact hb,f7,nB⟩;rintro s9 w9 ⟨B9,b9,I,U⟩;refine (o.q8 I).st' 2 rfl (HL.mk gE (r'.1,r'.2.1,r'.2.2.1,s9,r'.2.2.2.2)).toArray rfl rfl (zO rfl) λaE ao ab=>IR ao 2 rfl (r'.1,r'.2.1,r'.2.2.1,s9,r'.2.2.2.2) (ao.st' 0 rfl _ (mR rfl) rfl (zM _) λaH ap aq=>IR ap 0 rfl (r'.1,r'.2.1,r'.2.2.1,s9,r'.2.2.2.2) ?_);have g9:=h5.q8 I;have aI:=g9.j1 (ab.mono λx u _=>by rw[zE.1 u];exact Is) λx u=>.inl u;have hr:=aI.j1 (S':=S) (aq.mono λx u _=>by rw[zE.1 u];exact zN _ Is) λx u=>.inl (zN _ (zN _ u));have ar:=(b9.j1 ab λx u h=>by have:=U x u;have:=zE.1 h;omega).j1 aq λx u h=>by have:=U x u;have:=zE.1 h;omega
 exact kk (r'.1,r'.2.1,r'.2.2.1,s9,r'.2.2.2.2) aH ⟨hr.acc,hr.mg,hr.lL,by rw[ac];exact yu (w0:=J) ar D3 (λx u=>yC (hS x u) (zL ax z5)) U,hr.nY,hr.oi,hr.iq,hr.told,hr.gone⟩ ap.fr
end
section
open Go Go.Pt List
open Go.IntKind (wrap)
open Classical
attribute [local irreducible] ld dX jg oe jF fP st new idx jG jR fM jY jz mM iH nn call eJ inv run fG js join loop held ext kz eC nK nE nQ IntKind.wrap
end
section
open Go Go.Pt List
open Go.IntKind (wrap)
open Classical
attribute [local irreducible] ld dX jg oe jF fP st new idx jG jR fM jY jz mM iH nn call eJ inv run fG js join loop held ext kz eC nK nE nQ IntKind.wrap
variable {K:Addr->Prop} {S:IS} {w:IK}
def qzu{s:Sl}{i:Int}{k:Nat}{p:Prop}(u:p)(h:idx s i k K):idx s i k λa=>iH p (K a):=by unfold idx at h⊢;obtain⟨a,E,G,I⟩:=h;exact⟨a,E,G,qu u I⟩
def GP(x:Kp):∀u∈tg x,u.oneCell'=true:=all_eq_true.1 rfl
def qAn:∃i,prog.info? Gp=some i/\i.zero=some (.agg (tg kpZ).toArray)/\i.size=18/\i.bytes=128:=tB oK
def quH{r:pg}{b:Bk}{k:Kp}{K:pg->WP}(h:RB S w r b)(hl:b.size<=100000)(hS:∀x∈S,x<w.heap.size)(kk:∀r' w',RB S w' r' (b.kF k)->Fr [] w w'->K r' w'): cW 65 [Il gE r,.agg (tg k).toArray] [.agg gE] w K:=by
 refine qcW ?_;have al:b.mg.length<=100000/\b.nY.length<=100000/\b.oi.length<=100000:=(by unfold Bk.size at hl;omega);obtain⟨i,hi,hz,am,an⟩:=qAn;refine oB (oE [] w) λG w1 _ f1 o=>oB o λr3 w2 _ f2 o=>oB o λI w3 _ f3 o=>IR o 1 rfl k.1 (oB o λr8 w4 _ f4 o=>o.st' 0 rfl _ (mR rfl) rfl (zM _) λw5 o f5=>?_);have l1:G<w5.heap.size:=eO (o.at (i:=3) rfl);have l5:I<w5.heap.size:=eO (o.at (i:=1) rfl);have n1:w.heap.size<=G:=(o.own _ (yF (i:=3) rfl)).elim (λh=>nomatch h) id;have n5:w.heap.size<=I:=(o.own _ (yF (i:=1) rfl)).elim (λh=>nomatch h) id;have ao:∀x∈G::I::S,x<w5.heap.size:=λx u=>by rcases zG.1 u with rfl|u;exact l1;rcases zG.1 u with rfl|u;exact l5;exact yC (hS x u) o.fr.size
 have h0:RB (G::I::S) w r b:=h.j1 (.refl _ _) λx u=>by rcases zG.1 u with rfl|u;exact .inr n1;rcases zG.1 u with rfl|u;exact .inr n5;exact .inl u
 have h5:=h0.q8 o.fr;have E:∀ {w w':IK},Fr [G] w w'->Fr (G::I::S) w w':=λf=>f.mono λx u _=>by rw[zE.1 u];exact Is
 refine IQ o 3 rfl r.2.2.2.2.1 (IR o 0 rfl (k.1.2.2.1,k.1.2.2.2.1) (IQ o 0 rfl k.1.2.2.2.2.2.2.2.2.2.2.2.2.2.2.2 (IR o 0 rfl (k.1.1,k.1.2.1) (qra (m:=Ak k.1) h5.nY al.2.1 ao λs6 w6 d6 R=>?_))));refine (o.q8 R).st' 3 rfl (HL.mk gE (r.1,r.2.1,r.2.2.1,r.2.2.2.1,s6,r.2.2.2.2.2)).toArray rfl rfl (zO rfl) λw7 o f7=>?_;have h7:=(h5.q8 R).j1 (E f7) λx u=>.inl u;have d7:=d6.j1 (E f7) λx u=>.inl u;have z7:w5.heap.size<=w7.heap.size:=zL R.size f7.size;refine IQ o 3 rfl r.2.2.2.2.2.1 (IR o 0 rfl (k.1.2.2.2.2.1,k.1.2.2.2.2.2.1) (IQ o 0 rfl k.1.2.2.2.2.2.2.2.2.2.2.2.2.2.2.2 (IR o 0 rfl (k.1.1,k.1.2.1) (qra (m:=Dx k.1) h7.oi al.2.2 (λx u=>yC (ao x u) z7) λs8 w8 aE f8=>?_))));refine (o.q8 f8).st' 3 rfl (HL.mk gE (r.1,r.2.1,r.2.2.1,r.2.2.2.1,s6,s8,r.2.2.2.2.2.2)).toArray rfl rfl (zO rfl) λw9 o f9=>?_;have h9:=(h7.q8 f8).j1 (E f9) λx u=>.inl u;have d9:=(d7.q8 f8).j1 (E f9) λx u=>.inl u;have c9:=aE.j1 (E f9) λx u=>.inl u;have bb:G<w9.heap.size:=eO (o.at (i:=3) rfl);have bc:I<w9.heap.size:=eO (o.at (i:=1) rfl);refine oB (oE [] w9) λr7 bd e7 U o2=>?_;have aH:=o.q8 U;refine IQ aH 3 rfl r.2.1 (As (e:=Gp) (o2.at (i:=0) rfl) (h9.q8 U).mg wl GP oK hi hz am rfl (by rw[an];decide) oJ λaq B5 ar b5 aJ aK=>?_);have V:∀x∈B5,w9.heap.size<=x:=λx u=>(aK x u).elim (λe=>oJ) λh=>zL U.size h;have ae:Fr [] w9 ar:=U.J0 aJ λx u=>.inr (by rw[zE.1 u];omega);have au:∀(s:Sl) (l:List Kp) (B:IS) w6,fj tg 18 w6 s l B->(∀x∈B,w9.heap.size<=x)->Fr [] w9 w6->l=jd tK k b.mg->Pt.st (dk G 1) [s.v] w6 λw7=>dX gE (dk G) w7 λt=>Pt.st (dk I) (HL.mk gE t) w7 λw8=>dX gE (dk I) w8 λt=>K t w8:=λs l B bh hb hB aa e=>by
  refine (o.q8 aa).st' 3 rfl (HL.mk gE (r.1,s,r.2.2.1,r.2.2.2.1,s6,s8,r.2.2.2.2.2.2)).toArray rfl rfl (zO rfl) λaw ax ab=>IR ax 3 rfl (r.1,s,r.2.2.1,r.2.2.2.1,s6,s8,r.2.2.2.2.2.2) (ax.st' 1 rfl _ (mR rfl) rfl (zM _) λaf ay az=>IR ay 1 rfl (r.1,s,r.2.2.1,r.2.2.2.1,s6,s8,r.2.2.2.2.2.2) ?_);have ag:Fr (G::I::S) aw af:=az.mono λx u _=>by rw[zE.1 u];exact zN _ Is
  have dn:∀x∈S,x∈G::I::S\/aw.heap.size<=x:=λx u=>.inl (zN _ (zN _ u));have hr:=((h9.q8 aa).j1 (E ab) λx u=>.inl u).j1 ag dn;have hd:=((d9.q8 aa).j1 (E ab) λx u=>.inl u).j1 ag dn;have hc:=((c9.q8 aa).j1 (E ab) λx u=>.inl u).j1 ag dn;have aN:=(hb.j1 ab λx u h=>by have:=hB x u;have:=zE.1 h;omega).j1 az λx u h=>by have:=hB x u;have:=zE.1 h;omega
  have aO:eI tg 18 S af s (jd tK k b.mg):=(by rw[<- e];exact yu aN wl hS λx u=>zL o.fr.size (hB x u));exact kk _ af ⟨hr.acc,aO,hr.lL,hr.due,hd,hc,hr.iq,hr.told,hr.gone⟩ ay.fr
 have bj:aq.len=b.mg.length:=b5.len;refine jv (λq w'=>∃n:Nat,q=n/\n<=b.mg.length/\Fr [] ar w'/\((b.mg.take n).find? λx=>decide (tK x=tK k))=none) (λq _=>b.mg.length-q.toNat) ⟨0,rfl,yX _,.refl _ _,rfl⟩ ?_;rintro q w6 ⟨n,rfl,hn,R,hf⟩ X hX;apply cD<;>intro hc;have J:n<b.mg.length:=oJ;have u:=zA J;have b6:=(b5.q8 R).q8 (Fr.refl [] w6).drew;have o6:=o.q8 ((ae.trans R).drew);refine eI.lW (cl:=u2) (S:=[]) (b6.jQ wl λ_ _ h=>nomatch h) n rfl u oM rfl (IR o6 0 rfl (tK k) (Bg (a:=tK b.mg[n]) ?_));have st:=Ci (p:=λx=>decide (tK x=tK k)) u hf;apply eB<;>intro hb;refine rP (o6.at (i:=2) rfl) (tg k) (wl k) rfl ?_;have:=Hx (K:=λaP=>Pt.st (dk G 1) [aq.v] aP λw7=>dX gE (dk G) w7 λt=>Pt.st (dk I) (HL.mk gE t) w7 λw8=>dX gE (dk I) w8 λt=>K t w8) b6 wl GP (x:=k) rfl J λw7 b7 f7=>au _ _ _ _ b7 V ((ae.trans R).drew.J0 f7 λx u=>.inr (V x u)) (BT u hf (zC hb)).symm;exact qzu (wl k) this;rw[gG _ oJ];exact hX _ _ ⟨n+1,rfl,J,R.drew,st.2 hb⟩ oJ;have J:n=b.mg.length:=oJ;subst J;rw[vA] at hf;have ah:=ae.trans R;refine rP ((o.q8 ah).at (i:=2) rfl) (tg k) (wl k) rfl (qu (wl k) (fj.push (e:=Gp) (x:=k) (b5.q8 R) wl (GP k) oK hi hz am rfl rfl (by rw[an];omega) oJ λs7 B7 w7 b7 f7 n7=>au _ _ _ _ b7 (λx u=>(n7 x u).elim (V x) (zL ah.size)) (ah.J0 f7 λx u=>.inr (V x u)) (CP hf).symm))
abbrev Ht:IM:=117
def Cl(x:Ln):(mD x).length=12:=rfl
def qpH(x:Ln):∀u∈mD x,u.oneCell'=true:=all_eq_true.1 rfl
def qAo:∃i,prog.info? Ht=some i/\i.zero=some (.agg (mD ((0,0),vo)).toArray)/\i.size=12/\i.bytes=96:=tB oK
def qAY{α:Type}{enc:α->List IL}{k:Nat}{s:Sl}{l:List α}(h:eI enc k S w s l)(n:Nat){i:Int}{x:α}(hi:i=n)(G:l[n]?=some x)(I:∀b o u T E,w.heap[b]?=some (.cells u T E)->(u.toList.drop o).take k=enc x->K (dk b o)):idx s i k K:=by subst hi;obtain⟨V,b,o,J,_,u,T,E,R,U⟩:=eI.at h n G;refine qM J ⟨oJ,oJ⟩ ?_;rw[zJ];exact I b _ u T E R U
def quG{r:pg}{b:Bk}{a0 a1:Int}{x:HL ka}{K:pg->WP}(h:RB S w r b)(hl:b.size<=100000)(hS:∀x∈S,x<w.heap.size)(kk:∀r' w',RB S w' r' (b.mB ((a0,a1),x))->Fr [] w w'->K r' w'): cW 70 [Il gE r,di a0 a1,Il ka x] [.agg gE] w K:=by
 refine qem ?_;have aM:b.iq.length<=100000:=(by unfold Bk.size at hl;omega);obtain⟨i,hi,hz,ae,af⟩:=qAo;have hm:∃m:Ln,m=((a0,a1),x):=⟨_,rfl⟩;obtain⟨m,em⟩:=hm;rw[<- em] at kk;refine oB (oE [] w) λr1 w1 _ f1 o=>oB o λr3 w2 _ f2 o=>oB o λr5 aO _ aP o=>oB o λr7 w3 _ f3 o=>oB (oE [] w3) λr9 w4 e4 f4 o2=>?_;have o4:=o.q8 f4;refine IQ o4 3 rfl r.2.2.2.2.2.2.1 (As (e:=Ht) (o2.at (i:=0) rfl) (h.q8 o4.fr).iq Cl qpH oK hi hz ae rfl (by rw[af];decide) oJ λs5 B5 w5 b5 f5 n5=>?_);have I:∀x∈B5,w3.heap.size<=x:=λx u=>(n5 x u).elim (λe=>oJ) λh=>zL f4.size h;have ab:Fr [] w3 w5:=f4.J0 f5 λx u=>.inr (by rw[zE.1 u];omega);have ag:∀(s:Sl) (l:List Ln) (B:IS) R,fj mD 12 R s l B->(∀x∈B,w3.heap.size<=x)->Fr [] w3 R->l=jd qP m b.iq->Pt.st (dk r1 6) [s.v] R λw7=>dX gE (dk r1) w7 λt=>Pt.st (dk r7) (HL.mk gE t) w7 λw8=>dX gE (dk r7) w8 λt=>K t w8:=λs l B R E hB U e=>by
  refine (o.q8 U).st' 3 rfl (HL.mk gE (r.1,r.2.1,r.2.2.1,r.2.2.2.1,r.2.2.2.2.1,r.2.2.2.2.2.1,s,r.2.2.2.2.2.2.2)).toArray rfl rfl (zO rfl) λw7 o7 f7=>IR o7 3 rfl (r.1,r.2.1,r.2.2.1,r.2.2.2.1,r.2.2.2.2.1,r.2.2.2.2.2.1,s,r.2.2.2.2.2.2.2) (o7.st' 0 rfl _ (mR rfl) rfl (zM _) λw8 o8 f8=>IR o8 0 rfl (r.1,r.2.1,r.2.2.1,r.2.2.2.1,r.2.2.2.2.1,r.2.2.2.2.2.1,s,r.2.2.2.2.2.2.2) ?_);have V:=h.q8 o8.fr;have l1:r1<w3.heap.size:=eO (o.at (i:=3) rfl);have l5:r7<w3.heap.size:=eO (o.at (i:=0) rfl);have aq:=(E.j1 f7 λx u h=>by have:=hB x u;have:=zE.1 h;omega).j1 f8 λx u h=>by have:=hB x u;have:=zE.1 h;omega
  have ar:eI mD 12 S w8 s (jd qP m b.iq):=(by rw[<- e];exact yu aq Cl hS λx u=>zL o.fr.size (hB x u));exact kk _ w8 ⟨V.acc,V.mg,V.lL,V.due,V.nY,V.oi,ar,V.told,V.gone⟩ o8.fr
 have aW:s5.len=b.iq.length:=b5.len;refine jv (λq w'=>∃n:Nat,q=n/\n<=b.iq.length/\Fr [] w5 w'/\((b.iq.take n).find? λx=>decide (qP x=qP m))=none) (λq _=>b.iq.length-q.toNat) ⟨0,rfl,yX _,.refl _ _,rfl⟩ ?_;rintro q R ⟨n,rfl,hn,U,hf⟩ X hX;apply cD<;>intro hc;have G:n<b.iq.length:=oJ;have u:=zA G;have b6:=(b5.q8 U).q8 (Fr.refl [] R).drew;have o6:=o.q8 ((ab.trans U).drew);have r6:eI mD 12 [] R.drew s5 b.iq:=b6.jQ Cl λ_ _ h=>nomatch h;refine uu (decide (qP b.iq[n]=qP m)) R.drew (λM hM=>?_) ?_;refine eI.lW (cl:=u2) r6 n rfl u oM rfl (IR o6 2 rfl (a0,a1) (Bg (a:=b.iq[n].1) ?_));apply eB<;>intro E;have E:=zC E;refine qAY r6 n rfl u λb' o' cs T fr ax ay=>?_;simp only[Addr.j3];refine iv ax (lV (jM b.iq[n].2)) ?_ (IQ o6 1 rfl (lV (jM x)) ?_);have e:(mD b.iq[n])[10]?=some (.w (lV (jM b.iq[n].2))):=rfl;rw[<- ay,xB,iP oM,xA] at e;rw[<- xM];exact e;rw[show (lV (jM b.iq[n].2)==lV (jM x))=decide (qP b.iq[n]=qP m) by unfold qP;rw[E,em];by_cases e:lV (jM b.iq[n].2)=lV (jM x);simp[e];simp[e]];exact hM;have E:=zB E;rw[show decide (qP b.iq[n]=qP m)=false from zU λe=>E (by rw[em] at e;exact (vC e).1)] at hM;exact hM;have st:=Ci (p:=λx=>decide (qP x=qP m)) u hf;apply eB<;>intro E;have hk:=zC E;have h1:b.iq[n].1=(a0,a1):=(by rw[em] at hk;exact (vC hk).1);refine IR o6 1 rfl x (qtI (j:=2) (x:=m) (vs:=HL.mk ka x) b6 Cl rfl G rfl (zM _) (by rw[em,show mD b.iq[n]=mD (b.iq[n].1,b.iq[n].2) from rfl,h1];rfl) λw7 b7 f7=>ag _ _ _ _ b7 I ((ab.trans U).drew.J0 f7 λx u=>.inr (I x u)) (BT u hf hk).symm);rw[gG _ oJ];exact hX _ _ ⟨n+1,rfl,G,U.drew,st.2 E⟩ oJ;have G:n=b.iq.length:=oJ;subst G;rw[vA] at hf;have J:=ab.trans U;refine IR (o.q8 J) 2 rfl (a0,a1) (IR (o.q8 J) 1 rfl x (fj.push (e:=Ht) (x:=m) (b5.q8 U) Cl (qpH m) oK hi hz ae rfl (by rw[em];rfl) (by rw[af];omega) oJ λs7 B7 w7 b7 f7 n7=>ag _ _ _ _ b7 (λx u=>(n7 x u).elim (I x) (zL J.size)) (J.J0 f7 λx u=>.inr (I x u)) (CP hf).symm))
section
abbrev WF:FuncId:=86
structure pR (w:IK) (v:IL) (pb:Nat) (t:Int) (frm to:Key) (down:Bool) (WB:IS):Prop where
 val:∃ r1 r3 r5 r7 r9 s1 s2 B1 B2,v=.func (.func WF) #[] #[dS r1,dS r3,dS r5,dS r7,dS r9]/\WB=r1::r3::r5::r7::r9::(B1++B2)/\
  w.cell? (dk r1)=some (dS pb)/\w.cell? (dk r3)=some (.i t)/\w.cell? (dk r5)=some s1.v/\w.cell? (dk r7)=some s2.v/\w.cell? (dk r9)=some (.bool down)/\gb w s1 frm B1/\gb w s2 to B2
 lt:∀ b∈WB,b<w.heap.size
def quY{w':IK}{b off:Nat}(f:Fr S w w')(h:b<w.heap.size)(u:b∉S):w'.cell? (dk b off)=w.cell? (dk b off):=by simp only[World.cell?,f.block b h u]
def pR.j1{S:IS}{w w':IK}{v:IL}{pb:Nat}{t:Int}{frm to:Key}{down:Bool}{E:IS}(h:pR w v pb t frm to down E)(f:Fr S w w')(G:∀b∈E,b∉S):pR w' v pb t frm to down E:=by obtain⟨⟨I,J,R,U,V,s1,s2,B1,B2,e,rfl,c1,c3,c5,c7,c9,b1,b2⟩,hl⟩:=h;have g:∀b∈I::J::R::U::V::(B1++B2),w'.cell? (dk b)=w.cell? (dk b):=λb u=>quY f (hl b u) (G b u);exact⟨⟨I,J,R,U,V,s1,s2,B1,B2,e,rfl,by rw[g I oL];exact c1,by rw[g J oL];exact c3,by rw[g R oL];exact c5,by rw[g U oL];exact c7,by rw[g V oL];exact c9,b1.j1 f λb u=>G b (by simp[u]),b2.j1 f λb u=>G b (by simp[u])⟩,λb u=>yC (hl b u) f.size⟩
section
variable {dbk pb:Nat} {FD F:IS} {D:dV} {M:eH} {k v:Nat} {frm to:Key} {down:Bool} {w:IK}
def qze{t:Int}{U E:Sl}{p:Option Addr}{K:IL->WP}(hp:p=pW pb)(hf:eN S w U frm)(ht:eN S w E to)(V:frm.length<=1000000)(aa:to.length<=1000000)(kk:∀v w' WB,pR w' v pb t frm to down WB->(∀b∈WB,w.heap.size<=b)->Fr [] w w'->K v w'): cW 44 [.p p,.i t,U.v,E.v,.bool down] dw w K:=by
 subst hp;refine qoG ?_;have h:=oE [] w;refine oB h λr1 w1 e1 f1 h=>oB h λr3 w3 e3 f3 h=>oB h λr5 w5 e5 f5 h=>oB h λr7 w7 e7 f7 h=>oB h λr9 R e9 f9 h=>?_;have h:=oF h;have l1:=eO (h.at (i:=4) rfl);have l3:=eO (h.at (i:=3) rfl);have l5:=eO (h.at (i:=2) rfl);have l7:=eO (h.at (i:=1) rfl);have l9:=eO (h.at (i:=0) rfl);dsimp only at l1 l3 l5 l7 l9;have n1:=f1.size;have n3:=f3.size;have n5:=f5.size;have n7:=f7.size;refine IQ h 2 rfl U<|IQ h 1 rfl E<|wH (hf.q8 h.fr) V λs1 B1 wa b1 fa na _ _=>?_;have h:=h.q8 fa;refine iS (h.cell 1)<|wH (ht.q8 h.fr) aa λs2 B2 wb b2 fb nb _ _=>?_;have h:=h.q8 fb;have za:=fa.size;have zb:=fb.size;refine oD h 2 rfl #[s1.v] λwc h fc=>oD h 1 rfl #[s2.v] λI h fd=>?_;have G:Fr [r5,r7] wb I:=(fc.mono λb u _=>by rw[zE.1 u];simp).trans (fd.mono λb u _=>by rw[zE.1 u];simp);have z0:w.heap.size<=R.heap.size:=(by have:=f9.size;omega);have ns:∀b,R.drew.heap.size<=b->b∉[r5,r7]:=λb u hm=>by simp only[zG,xY,or_false] at hm;rcases hm with rfl|rfl<;>omega
 have q1:gb I s1 frm B1:=(b1.q8 fb).j1 G λb u=>ns b (na b u);have q2:gb I s2 to B2:=b2.j1 G λb u=>ns b (zL za (nb b u));have aQ:=h.fr.size;have zd:R.drew.heap.size<=I.heap.size:=zL (zL za zb) G.size;refine kk _ I _ ⟨⟨r1,r3,r5,r7,r9,s1,s2,B1,B2,rfl,rfl,h.cell 4,h.cell 3,h.cell 2,h.cell 1,h.cell 0,q1,q2⟩,λb u=>?_⟩ (λb u=>?_) h.fr;simp only[zG,zD] at u;rcases u with rfl|rfl|rfl|rfl|rfl|u|u;omega;omega;omega;omega;omega;exact q1.lt b u;exact q2.lt b u;have J:w.heap.size<=R.drew.heap.size:=z0;simp only[zG,zD] at u;rcases u with rfl|rfl|rfl|rfl|rfl|u|u;omega;omega;omega;omega;omega;exact zL J (na b u);exact zL J (zL za (nb b u))
structure BA (yield:IL) (Yc:IS) (wb:IK) (L:gr) (I:Nat->WP) (E:WP):Prop where
 stay:∀ i W W' Z,I i W->Fr Z W W'->(∀ b∈Z,wb.heap.size<=b)->I i W'
 take:∀ i (hi:i<L.length) W ks vs B1 B2 (K:Bool->WP),I i W->gb W ks L[i].1 B1->gb W vs L[i].2 B2->(∀ b∈B1++B2,wb.heap.size<=b)->wb.heap.size<=W.heap.size->(∀ W',Fr Yc W W'->I (i+1) W'->K true W')->(∀ W',E W'->K false W')->eJ prog yield [ks.v,vs.v] dp W K
def qxR{t:Int}{L:gr}{P:IT}{Yc WB:IS}{v0 ad:IL}{I:Nat->WP}{E:WP}{K:Unit->WP}{lb:List IL}(hv:v0=.func (.func WF) #[] lb.toArray)(hW:pR w v0 pb t frm to down WB)(hT:TW dbk pb FD D 900000 w Yc F M)(hs:si t=((k:Int),(v:Int)))(hL:k≠0/\gq D M k v t L P)(aK:L.length<=90000)(aL:frm.length<=1000000)(aM:to.length<=1000000)(aN:eX frm)(aO:eX to)(hY:BA ad Yc w (gP down frm to L) I E)(h0:I 0 w)(k1:∀G,I (gP down frm to L).length G->K () G)(k2:∀G,E G->K () G): cW WF (ad::lb) [] w K:=by
 obtain⟨⟨r1,r3,r5,r7,r9,s1,s2,B1,B2,e,rfl,c1,c3,c5,c7,c9,b1,b2⟩,U⟩:=hW;rw[e] at hv;have aP:lb=[dS r1,dS r3,dS r5,dS r7,dS r9]:=by
  injection hv with _ _ h3;simpa using (IH Array.toList h3).symm
 subst aP;refine qll<|oX (pW pb) c1<|oX t c3<|oX s1 c5<|oX s2 c7<|oX down c9<|qrg (S:=[]) hT hs (.inr hL) aK (b1.dH λb _=>oL) (b2.dH λb _=>oL) aL aM aN aO λcb w1 st SB zs hC V f1=>?_;generalize gP down frm to L=R at V hY k1;have aq:=hY.stay 0 w w1 [] h0 f1 λb u=>nomatch u;let J:Nat->Option Addr×Bool->WP:=λi s W=>∃(st:Sl) (SB:IS) (zs:List qp) (ks vs:Sl) (C1 C2:IS) (r:Nat) (T:IM),s=(pW r,decide (i<R.length))/\i<=R.length/\W.heap[r]?=some (.c (tJ ks vs) T)/\gx dbk pb FD D F M k v frm to down w cb Yc W st SB zs/\I i W/\(∀h:i<R.length,gb W ks R[i].1 C1/\gb W vs R[i].2 C2)/\Left D M k v frm to down 1 (zs.map (·.2)) (R.drop (i+1))/\r∉Yc/\w.heap.size<=W.heap.size/\∀b∈C1++C2,w.heap.size<=b;have ag:∀(Y:IS) (i:Nat) (W:IK) (st:Sl) (SB:IS) (zs:List qp) (K':(Sl×Sl)×Bool->WP),gx dbk pb FD D F M k v frm to down w cb Y W st SB zs->I i W->Left D M k v frm to down 1 (zs.map (·.2)) (R.drop i)->i<=R.length->w.heap.size<=W.heap.size->
   (∀ks vs C1 C2 G Z st' SB' zs',gx dbk pb FD D F M k v frm to down w cb Y G st' SB' zs'->I i G->(∀h:i<R.length,gb G ks R[i].1 C1/\gb G vs R[i].2 C2)->(∀b∈C1++C2,W.heap.size<=b)->Left D M k v frm to down 1 (zs'.map (·.2)) (R.drop (i+1))->Fr Z W G->(∀b∈Z,b∈cb::SB)->w.heap.size<=G.heap.size->K' ((ks,vs),decide (i<R.length)) G)->
   cW 40 [dS cb] [.agg CE,.one .bool] W K':=by
  intro Y i W st SB zs K' hC hI V bG ah kK;refine qpm hC V (λhn G aa f'=>?_) λx L' hx ks vs C1 C2 G st' SB' zs' hk hv aa aU f' _ n1 n2 _=>?_;have aV:R.length<=i:=by
   have:=IH List.length hn;rw[yB,xL] at this;omega
  have:=kK dT dT [] [] G (cb::SB) _ _ _ aa (hY.stay i W G _ hI f' hC.new) (λh=>absurd h oJ) (λb u=>nomatch u) (.inl ⟨rfl,vF oJ⟩) f' (λb u=>u) (zL ah f'.size);rw[zU (show ¬i<R.length by omega)] at this;exact this;have U:i<R.length:=by
   have:=IH List.length hx;rw[yB,yI] at this;omega
  rw[zX U] at hx;obtain⟨rfl,rfl⟩:=vD hx;have:=kK ks vs C1 C2 G (cb::SB) st' SB' zs' (aa.j1 (.refl _ _) (λb u=>.inl (by simp[u])) λb u=>aa.lt b (by simp[u])) (hY.stay i W G _ hI f' hC.new) (λ_=>⟨hk,hv⟩) (λb u=>(zD.1 u).elim (n1 b) (n2 b)) aU f' (λb u=>u) (zL ah f'.size);rw[zZ U] at this;exact this
 refine ag Yc 0 w1 st SB zs _ hC aq V (yX _) f1.size λks vs C1 C2 w2 Z aW aX aY am au an nC av f2 hZ aZ=>oB (oE [] w2) λr w3 e3 f3 h=>oD h 0 rfl (tJ ks vs) λw4 h f4=>?_;have aw:=am.lt;refine Cq J (λi=>R.length+1-i) 0 ⟨aW,aX,aY,ks,vs,C1,C2,r,wJ,rfl,yX _,h.at (i:=0) rfl,am.q8 h.fr,hY.stay 0 w2 w4 [] au h.fr (λb u=>nomatch u),λhl=>⟨(an hl).1.q8 h.fr,(an hl).2.q8 h.fr⟩,av,λhm=>by have:=aw r (by simp[hm]);omega,zL aZ h.fr.size,λb u=>zL f1.size (nC b u)⟩ ?_;clear am au an av h aq hC V nC;rintro i s W ⟨st,SB,zs,ks,vs,C1,C2,r,T,rfl,hi,hr,hC,hI,hB,V,a0,ah,nC⟩ X hX;dsimp only;apply cD<;>intro hc;have U:=hc;obtain⟨q1,q2⟩:=hB U;refine fO (iv hr ks rfl ?_);refine fO (iv hr vs rfl ?_);refine hY.take i U W ks vs C1 C2 _ hI q1 q2 nC ah (λG f' a2=>?_) λG hE=>Im rfl (k2 G hE);refine Io rfl ?_;have a3:G.heap[r]?=some (.c (tJ ks vs) T):=(by rw[f'.block r (eO hr) a0];exact hr);refine fO (wL a3 (ks,vs) rfl ?_);have aa:=hC.j1 f' (λb u=>.inl u) λb u=>yC (hC.lt b (by simp[u])) f'.size;refine oB (oE [] G) λra Wa ea fa h=>oD h 0 rfl (tJ ks vs) λWb h fb=>?_;have ai:=aa.lt;have a5:gx dbk pb FD D F M k v frm to down w cb (ra::Yc) Wb st SB zs:=aa.j1 (h.fr.mono λ_ h=>nomatch h) (λb u=>(zG.1 u).elim (λe=>.inr (by rw[e,ea];exact zM _)) .inl) λb u=>by rcases zG.1 u with rfl|u;exact eO (h.at (i:=0) rfl);exact yC (ai b (by simp[u])) h.fr.size
 have ay:=eO (h.at (i:=0) rfl);dsimp only at ay;have aj:w.heap.size<=G.heap.size:=zL ah f'.size;refine ag (ra::Yc) (i+1) Wb st SB zs _ a5 (hY.stay _ G Wb [] a2 h.fr λb u=>nomatch u) V U (zL aj h.fr.size) λaz aA D1 D2 Wc Z st' SB' zs' aB a6 aC aD a7 fc a8 a9=>?_;have aE:ra∉Z:=λhm=>by
  have:=ai ra (by rcases zG.1 (a8 ra hm) with h|h<;>simp[h]);omega
 have a':Wc.heap[ra]?=some (.c (tJ ks vs) wJ):=(by rw[fc.block ra ay aE];exact h.at (i:=0) rfl);have aF:ra∉Yc:=λhm=>by have:=ai ra (by simp[hm]);omega
 refine qH a' (tJ az aA) rfl rfl (zO rfl) λWd hd fd=>?_;have hn:∀b∈D1++D2,b∉[ra]:=λb u hm=>by
  have:=aD b u;rw[zE.1 hm] at this;omega
 refine hX (i+1) _ Wd ⟨st',SB',zs',az,aA,D1,D2,ra,wJ,rfl,U,hd,aB.j1 (fd.mono λb u _=>by rw[zE.1 u];simp) (λb u=>.inl (by simp[u])) (λb u=>yC (aB.lt b (by simp[u])) fd.size),hY.stay _ Wc Wd [ra] a6 fd (λb u=>by rw[zE.1 u,ea];exact aj),λhl=>⟨(aC hl).1.j1 fd λb u=>hn b (by simp[u]),(aC hl).2.j1 fd λb u=>hn b (by simp[u])⟩,a7,aF,zL a9 fd.size,λb u=>zL (zL aj h.fr.size) (aD b u)⟩ oJ;have aV:=hc;have:i=R.length:=oJ;subst this;exact k1 W hI
end
end
section
def Mov (w0 W:IK) (Y C:IS) (cb:Nat) (rest:gr):Prop:=∃(dbk pb:Nat) (FD:IS) (D:dV) (F:IS) (M:eH) (k v:Nat) (frm to:Key) (down:Bool) (st:Sl) (SB:IS) (zs:List qp),
 gx dbk pb FD D F M k v frm to down w0 cb Y W st SB zs/\Left D M k v frm to down 1 (zs.map (·.2)) rest/\C=cb::SB
section
variable {w0 W w':IK} {Y C:IS} {cb:Nat} {rest:gr}
end
end
end
section
open Go Go.Pt List
open Go.IntKind (wrap)
variable {d:HL jB} {down:Bool} {frm:Int} {i:jf} {l:List (HL jB)}
abbrev Ov:=Int×HL ll×Kp×jf×Int×HL jB×HL ka×Int
def sY (o:Ov):Int:=o.1
def A1 (o:Ov):HL ll:=o.2.1
def wD (o:Ov):Kp:=o.2.2.1
def uq (o:Ov):jf:=o.2.2.2.1
def Ar (o:Ov):Int:=o.2.2.2.2.1
def rz (o:Ov):HL jB:=o.2.2.2.2.2.1
def AH (o:Ov):HL ka:=o.2.2.2.2.2.2.1
def vc (o:Ov):Int:=o.2.2.2.2.2.2.2
structure sH (o:Ov):Prop where
 d:IntKind.u8.has (sY o)
 a:jX ll (A1 o)
 k:vr (wD o)
 i:lN (uq o)
 s:IntKind.u8.has (Ar o)
 u:jX jB (rz o)
 r:jX ka (AH o)
 n:IntKind.u64.has (vc o)
def qC (b:Bk) (o:Ov):Bk:=
 if sY o%8=0 then b.mL (A1 o) else if sY o%8=1 then b.kF (wD o) else if sY o%8=2 then b.mf (uq o,Ar o)
 else if sY o%8=3 then b.jS (rz o) else if sY o%8=4 then b.k8 (rz o) else if sY o%8=5 then b.mB (uq o,AH o)
 else if sY o%8=6 then b.kA (vc o) else b.yp
def qrw{a b:HL jB}:mY a b=true↔(lM a).1<(lM b).1\/(lM a).1=(lM b).1/\(lM a).2<(lM b).2:=by unfold mY;rw[yN];exact Iff.rfl
def qyi{x:HL jB}:x∈lU d l↔x=d\/x∈l:=by rw[DB.mem_iff,zG]
def qpQ{d:HL jB}:∀ {l:List (HL jB)},vv l->(∀x∈l,lM x≠lM d)->vv (lU d l)
 | [],_,_=>pairwise_singleton _ _
 | x::r,h,G=>by have E:=yJ.1 h;unfold lU;by_cases e:mY d x=true;rw[iP e];refine yJ.2 ⟨λy u=>?_,h⟩;rcases zG.1 u with rfl|u;exact e;have I:=E.1 y u;rw[qrw] at e I⊢;omega;rw[iN e];refine yJ.2 ⟨λy u=>?_,qpQ E.2 λy u=>G y (zN _ u)⟩;rcases qyi.1 u with rfl|u;have J:=G x Is;rw[qrw] at e⊢;have I:¬((lM x).1=(lM y).1/\(lM x).2=(lM y).2):=λh=>J (Prod.ext h.1 h.2);omega;exact E.1 y u
structure Bt (n i:Nat) (b:Bk):Prop where
 size:b.size<=3*i
 dus:vv b.due
 blocks:b.cm.1=n
 yp:b.cm.2.1<=i+1
 last:∀ n,b.last=some n->lQ n
section
variable {n i:Nat} {b:Bk} {o:Ov}
def Bk.rZ{a:HL ll}:(b.mL a).size<=b.size+1:=by
 have:=v8 (kf:=nO) (a:=a) (l:=b.acc);unfold Bk.mL Bk.size;dsimp only;omega
def Bk.rW{x:jf×Int}:(b.mf x).size<=b.size+1:=by
 have:=v8 (kf:=λx:jf×Int=>x.1) (a:=x) (l:=b.lL);unfold Bk.mf Bk.size;dsimp only;omega
def Bk.rL{x:Ln}:(b.mB x).size<=b.size+1:=by
 have:=v8 (kf:=qP) (a:=x) (l:=b.iq);unfold Bk.mB Bk.size;dsimp only;omega
def Bk.oU{k:Kp}:(b.kF k).size<=b.size+3:=by have h:=v8 (kf:=tK) (a:=k) (l:=b.mg);have u:=v8 (kf:=qe) (a:=Ak k.1) (l:=b.nY);have E:=v8 (kf:=qe) (a:=Dx k.1) (l:=b.oi);unfold Bk.kF Bk.lZ Bk.nM Bk.pO Bk.size;dsimp only;omega
def qpz:(jE d l).length<=l.length:=length_filter_le _ _
def Bk.rV:(b.k8 d).size<=b.size:=by
 have:=qpz (d:=d) (l:=b.due);unfold Bk.k8 Bk.size;dsimp only;omega
def Bk.rE:(b.jS d).size<=b.size+1:=by have h:=qpz (d:=d) (l:=b.due);have u:(lU d (jE d b.due)).length=(jE d b.due).length+1:=(by rw[DB.length_eq,yI]);unfold Bk.jS Bk.size;dsimp only;omega
def Bk.qU{x:Int}:(b.kA x).size<=b.size+1:=by unfold Bk.kA Bk.size;have:(some x).toList.length=1:=rfl;dsimp only;omega
def qpy(h:vv l):vv (jE d l):=List.Pairwise.sublist filter_sublist h
def HV(h:vv b.due):vv (b.jS d).due:=qpQ (qpy h) λx u=>zC (mem_filter.1 u).2
def Bt.step(h:Bt n i b)(I:sH o):Bt n (i+1) (qC b o):=by obtain⟨R,u,E,U,G⟩:=h;unfold qC;split;exact⟨by have:=Bk.rZ (b:=b) (a:=A1 o);omega,u,E,by show b.cm.2.1<=_;omega,G⟩;split;exact⟨by have:=Bk.oU (b:=b) (k:=wD o);omega,u,E,by show b.cm.2.1<=_;omega,G⟩;split;exact⟨by have:=Bk.rW (b:=b) (x:=(uq o,Ar o));omega,u,E,by show b.cm.2.1<=_;omega,G⟩;split;exact⟨by have:=Bk.rE (b:=b) (d:=rz o);omega,HV u,E,by show b.cm.2.1<=_;omega,G⟩;split;exact⟨by have:=Bk.rV (b:=b) (d:=rz o);omega,qpy u,E,by show b.cm.2.1<=_;omega,G⟩;split;exact⟨by have:=Bk.rL (b:=b) (x:=(uq o,AH o));omega,u,E,by show b.cm.2.1<=_;omega,G⟩;split;exact⟨by have:=Bk.qU (b:=b) (x:=vc o);omega,u,E,by show b.cm.2.1<=_;omega,λn J=>by cases J;exact qm I.n⟩;exact⟨by show b.size<=_;omega,u,E,by show b.cm.2.1+1<=_;omega,G⟩
end
def pQ (q:Nat×Nat×Gh) (l:List Ov):Bk:=l.foldl qC (zg q)
def qne{q:Nat×Nat×Gh}{l:List Ov}{o:Ov}:pQ q (l++[o])=qC (pQ q l) o:=by unfold pQ;rw[foldl_append];rfl
def FQ{q:Nat×Nat×Gh}(E:q.2.1=1):∀k (l:List Ov),k<=l.length->(∀o∈l,sH o)->Bt q.1 k (pQ q (l.take k))
 | 0,l,_,_=>⟨zM _,.nil,rfl,by show q.2.1<=_;omega,λ_ h=>nomatch h⟩
 | k+1,l,h,u=>by rw[yG oJ,qne];exact (FQ E k l oJ u).step (u _ (zW _))
section
def putAt {α:Type} (p:α->Bool) (x:α) (l:List α):List α:=(l.reverse.dropWhile p).reverse++x::(l.reverse.takeWhile p).reverse
section
variable {α:Type} {p:α->Bool} {x:α} {l A B:List α} {lt:α->α->Prop}
def qyw(E:∀y∈B,p y=true)(I:∀h z,A=h++[z]->p z=false):putAt p x (A++B)=A++x::B:=by
 have G:(A++B).reverse.takeWhile p=B.reverse/\(A++B).reverse.dropWhile p=A.reverse:=by rw[reverse_append,takeWhile_append_of_pos λy u=>E y (mem_reverse.1 u),dropWhile_append_of_pos λy u=>E y (mem_reverse.1 u)];rcases eq_nil_or_concat A with rfl|⟨h,z,rfl⟩;simp;rw[concat_eq_append,reverse_append,reverse_singleton,singleton_append,takeWhile_cons,dropWhile_cons,I h z (by rw[concat_eq_append])];simp
 unfold putAt;rw[G.1,G.2,reverse_reverse,reverse_reverse]
def qmd(p:α->Bool)(x:α)(l:List α):∃A B,l=A++B/\putAt p x l=A++x::B/\(∀y∈B,p y=true)/\∀h z,A=h++[z]->p z=false:=by
 refine⟨(l.reverse.dropWhile p).reverse,(l.reverse.takeWhile p).reverse,?_,rfl,λy u=>?_,λh z e=>?_⟩;rw[<- reverse_append,takeWhile_append_dropWhile,reverse_reverse];have:=all_takeWhile (l:=l.reverse) (p:=p);exact all_eq_true.1 this y (mem_reverse.1 u);have E:l.reverse.dropWhile p=z::h.reverse:=by rw[<- reverse_reverse (l.reverse.dropWhile p),e,reverse_append];rfl
 have:=List.head?_dropWhile_not p l.reverse;rw[E] at this;simpa using this
def Dl:(putAt p x l).Perm (x::l):=by obtain⟨A,B,rfl,e,_⟩:=qmd p x l;rw[e];exact perm_middle
def qsi(U:l.Pairwise lt)(V:∀a b c,lt a b->lt b c->lt a c)(hp:∀y∈l,p y=true->lt x y)(G:∀y∈l,p y=false->lt y x):(putAt p x l).Pairwise lt:=by
 obtain⟨A,B,rfl,e,hB,I⟩:=qmd p x l;rw[e];obtain⟨u,h2,h3⟩:=pairwise_append.1 U;refine pairwise_append.2 ⟨u,yJ.2 ⟨λy J=>hp y (zI _ J) (hB y J),h2⟩,λa h b E=>?_⟩;have ax:lt a x:=by rcases eq_nil_or_concat A with rfl|⟨A',z,rfl⟩;cases h;rw[concat_eq_append] at h u I G;have R:=G z oL (I A' z rfl);rcases zD.1 h with h|h;exact V _ _ _ ((pairwise_append.1 u).2.2 a h z oL) R;rw[zE.1 h];exact R
 rcases zG.1 E with rfl|E;exact ax;exact h3 a h b E
end
def kB (r:HL ka):Int:=lV (jM r)
def ln (n:Int) (down:Bool) (y:HL ka):Bool:=decide (kB y>n) != down
def lF (i:jf) (frm to:Int) (x:Ln):Bool:=decide (x.1=i/\frm<=kB x.2/\kB x.2<=to)
def ji (l:List Ln) (i:jf) (frm to:Int) (down:Bool):List (HL ka):=(l.filter (lF i frm to)).foldl (λh x=>putAt (ln (kB x.2) down) x.2 h) []
def zk (x:Ln):Key×Key:=(gu x.1 (kB x.2),pG x.2)
def pi (down:Bool) (a b:HL ka):Prop:=if down then kB b<kB a else kB a<kB b
def qoh{down:Bool}:∀ {l:List Ln} {out:List (HL ka)},(out.map kB++l.map λx=>kB x.2).Nodup->out.Pairwise (pi down)-> (l.foldl (λout x=>putAt (ln (kB x.2) down) x.2 out) out).Pairwise (pi down)/\(l.foldl (λout x=>putAt (ln (kB x.2) down) x.2 out) out).Perm (out++l.map (·.2))
 | [],out,_,I=>⟨I,by rw[map_nil,xI];exact .refl _⟩
 | x::r,out,U,I=>by
  rw[foldl_cons];have u:(putAt (ln (kB x.2) down) x.2 out).Perm (x.2::out):=Dl;have E:∀y∈out,kB y≠kB x.2:=λy G=>(yM.1 U).2.2 _ (zY G) _ oL;have J:(putAt (ln (kB x.2) down) x.2 out).Pairwise (pi down):=by
   refine qsi I (λa b c V h2=>?_) (λy G h=>?_) λy G h=>?_;unfold pi at *
   cases down<;>simp at *<;>omega
   have:=E y G;unfold pi ln at *
   cases down<;>simp at *<;>omega
   have:=E y G;unfold pi ln at *
   cases down<;>simp at *<;>omega
  have R:((putAt (ln (kB x.2) down) x.2 out).map kB++r.map λx=>kB x.2).Nodup:=(by refine (List.Perm.nodup_iff ?_).2 U;rw[xP];exact ((u.map kB).append_right _).trans perm_middle.symm);obtain⟨V,h2⟩:=qoh (l:=r) R J;refine⟨V,h2.trans ?_⟩;rw[xP];exact (u.append_right _).trans perm_middle.symm
def qxk{l:List Ln}{to:Int}:(ji l i frm to down).length<=l.length:=by
 have:∀(k:List Ln) (h:List (HL ka)),(k.foldl (λh x=>putAt (ln (kB x.2) down) x.2 h) h).length=h.length+k.length:=by
  intro k;induction k with
  | nil=>intro h;rfl
  | cons x k ih=>intro h;rw[foldl_cons,ih,Dl.length_eq,yI,yI];omega
 unfold ji;rw[this,xL,xT];exact length_filter_le _ _
def qxl{l:List Ln}{to:Int}{r:HL ka}(h:r∈ji l i frm to down):∃x∈l,x.2=r:=by
 have:∀(k:List Ln) (u:List (HL ka)),r∈k.foldl (λu x=>putAt (ln (kB x.2) down) x.2 u) u->r∈u\/∃x∈k,x.2=r:=by
  intro k;induction k with
  | nil=>exact λu h=>.inl h
  | cons x k ih=>
   intro u h;rw[foldl_cons] at h;rcases ih _ h with h|⟨y,E,e⟩;rcases zG.1 (Dl.mem_iff.1 h) with rfl|h;exact .inr ⟨x,Is,rfl⟩;exact .inl h;exact .inr ⟨y,zN _ E,e⟩
 rcases this _ [] h with h|⟨x,G,e⟩;cases h;exact⟨x,(mem_filter.1 G).1,e⟩
def qzB{x y:Key}(u:¬fT x y)(h:¬fT y x):x=y:=DL (by unfold fT at u h;rw[ug x y] at h;omega)
def qzS{a:jf}{to n:Int}(hi:lN i)(I:lN a)(J:lQ frm)(R:lQ to)(G:lQ n){v:Key}:uZ (gu i frm) (gu i to) (gu a n,v)=decide (a=i/\frm<=n/\n<=to):=by rw[It,qAj,yN];unfold gu;dsimp only;rw[Dw G J (by rw[mV,mV]),Dw R G (by rw[mV,mV])];constructor;rintro⟨u,E⟩;have e:je a=je i:=qzB (λh=>u (.inl h)) λh=>E (.inl h);have:a=i:=lN.inj I hi e;exact⟨this,by have:¬n<frm:=λh=>u (.inr ⟨e,h⟩);omega,by have:¬to<n:=λh=>E (.inr ⟨e.symm,h⟩);omega⟩;rintro⟨rfl,u,E⟩;exact⟨λh=>h.elim (Hp _) λh=>oJ,λh=>h.elim (Hp _) λh=>oJ⟩
def qvE{L:gr}{l:List Ln}{to:Int}(h:mW sD L l)(hi:lN i)(hf:lQ frm)(ht:lQ to): gP down (gu i frm) (gu i to) L=(ji l i frm to down).map λr=>(gu i (kB r),pG r):=by
 have ok:∀x∈l,lN x.1/\lQ (kB x.2):=λx u=>⟨(h.2 x u).1,qm (sD.ES x (h.2 x u)).2⟩;have hL:(L.filter (uZ (gu i frm) (gu i to))).Perm ((l.filter (lF i frm to)).map zk):=by
  have:=h.1.perm.filter (uZ (gu i frm) (gu i to));refine this.trans ?_;rw[filter_map];have:l.filter (uZ (gu i frm) (gu i to)∘λa=>(sD.g (sD.key a),sD.val a))=l.filter (lF i frm to):=filter_congr λx u=>qzS hi (ok x u).1 hf ht (ok x u).2;rw[this];exact .refl _
 have hS:(L.filter (uZ (gu i frm) (gu i to))).Pairwise λx y=>fT x.1 y.1:=by
  have:=h.1.sort;unfold fD fY eh at this;exact (pairwise_map.1 this).sublist filter_sublist
 have E:∀x∈l.filter (lF i frm to),x.1=i/\lQ (kB x.2):=λx u=>⟨(zC (mem_filter.1 u).2).1,(ok x (mem_filter.1 u).1).2⟩;have ab:((l.filter (lF i frm to)).map λx=>kB x.2).Nodup:=(by have hk:(l.map qP).Nodup:=h.nodup;have G:((l.filter (lF i frm to)).map qP).Nodup:=hk.sublist (filter_sublist.map _);have e:(l.filter (lF i frm to)).map qP=((l.filter (lF i frm to)).map λx=>kB x.2).map λn=>(i,n):=(by rw[map_map];exact map_congr_left λx u=>Prod.ext (E x u).1 rfl);rw[e] at G;exact G.of_map _ λa b h e=>h (by rw[e]));obtain⟨q1,q2⟩:=qoh (down:=down) (l:=l.filter (lF i frm to)) (out:=[]) (oP ab) .nil;rw[xJ] at q2;have hR:((ji l i frm to down).map λr=>(gu i (kB r),pG r)).Perm ((l.filter (lF i frm to)).map zk):=(by refine (q2.map _).trans ?_;rw[map_map];refine List.Perm.of_eq (map_congr_left λx u=>?_);unfold zk;rw[(E x u).1];rfl);have V:∀r∈ji l i frm to down,lQ (kB r):=λr hr=>by obtain⟨x,u,rfl⟩:=mem_map.1 (q2.mem_iff.1 hr);exact (E x u).2
 have lt:∀a b,lQ (kB a)->lQ (kB b)->kB a<kB b->fT (gu i (kB a)) (gu i (kB b)):=λa b I J h=>(Dw I J rfl).2 (.inr ⟨rfl,h⟩);have R:∀a b:Key×Key,fT a.1 b.1->fT b.1 a.1->a=b:=λa b h1 h2=>absurd h2 (tj h1);unfold gP lD;cases down with
 | false=>
  rw[iN oM];refine List.Perm.eq_of_pairwise (le:=λx y=>fT x.1 y.1) (λa b _ _=>R a b) hS (pairwise_map.2 (List.Pairwise.imp_of_mem (λ{a b} I J U=>?_) q1)) (hL.trans hR.symm);exact lt a b (V a I) (V b J) (by unfold pi at U;simpa using U)
 | true=>
  rw[iP rfl];refine List.Perm.eq_of_pairwise (le:=λx y=>fT y.1 x.1) (λa b _ _ h1 h2=>R a b h2 h1) (pairwise_reverse.2 hS) (pairwise_map.2 (List.Pairwise.imp_of_mem (λ{a b} I J U=>?_) q1)) (((reverse_perm _).trans hL).trans hR.symm);exact lt b a (V b J) (V a I) (by unfold pi at U;simpa using U)
end
def mvN (m:Mv):Int:=m.2.1
def Cn (x:Mv):Key×Key:=(gu x.1 (mvN x),je x.2.2)
end
section
open Go Go.ChangeShapes Go.WideShapes Go.ChangeAt Go.RowKit Go.Pt
def Cs:List Cell->List IL->Prop
 | [],[]=>True
 | c::h,v::vs=>(∃x:c.El,v=c.mk x/\uf c x)/\Cs h vs
 | _,_=>False
def Cs.tZ:∀ {a b:List Cell} {u v:List IL},Cs a u->Cs b v->Cs (a++b) (u++v)
 | [],b,[],v,_,h=>h
 | c::a,b,x::u,v,h,g=>⟨h.1,Cs.tZ h.2 g⟩
 | [],_,_::_,_,h,_=>h.elim
 | _::_,_,[],_,h,_=>h.elim
def Cs.split:∀ {a b:List Cell} {vs:List IL},Cs (a++b) vs->∃u v,vs=u++v/\Cs a u/\Cs b v
 | [],b,vs,h=>⟨[],vs,rfl,trivial,h⟩
 | c::a,b,x::vs,h=>by obtain⟨u,v,e,E,G⟩:=Cs.split h.2;exact⟨x::u,v,by rw[e];rfl,⟨h.1,E⟩,G⟩
 | _::_,_,[],h=>h.elim
def Cs.hl:∀ {cs:List Cell} {vs:List IL},Cs cs vs->∃x:HL cs,vs=HL.mk cs x/\jX cs x
 | [],[],_=>⟨(),rfl,trivial⟩
 | [c],[v],h=>by obtain⟨x,u,E⟩:=h.1;exact⟨x,by rw[u];rfl,E⟩
 | c::G::cs,v::vs,h=>by obtain⟨x,u,E⟩:=h.1;obtain⟨y,I,J⟩:=Cs.hl (cs:=G::cs) h.2;exact⟨(x,y),by rw[u,I];rfl,E,J⟩
 | [],_::_,h=>h.elim
 | [_],[],h=>h.elim
 | [_],_::_::_,h=>h.2.elim
 | _::_::_,[],h=>h.elim
def tu (P:IN) (f:IM->Option (List Cell)):Nat->List Field->Option (List Cell)
 | _,[]=>some []
 | k,x::h=>bif Nat.beq x.offset k then match f x.type with
  | some a=>bif Nat.beq (P.cellsOf x.type) a.length then (tu P f (k+a.length) h).map (a++·) else none
  | none=>none else none
def uz (P:IN):Nat->IM->Option (List Cell)
 | 0,_=>none
 | d+1,t=>match P.underlying t with
  | some (.int k)=>some [.int k]
  | some .bool=>some [.bool]
  | some (.struct u)=>match tu P (uz P d) 0 u.toList with
   | some h=>bif Nat.beq (P.cellsOf t) h.length then some h else none
   | none=>none
  | _=>none
section
variable {H:Type} {enc:IM×IL->H} {P:IN} {W:IK} {base:Nat} {spare:Nat->Bool} {held:Bool}
def qrt{f:IM->Option (List Cell)}{cells:List IL}(J:∀t cs,f t=some cs->∀n vs y,DataW.trod enc P W base spare held n t vs=some y->Cs cs vs):∀ {u:List Field} {k:Nat} {cs:List Cell},tu P f k u=some cs-> (∀x∈u,∃n y,DataW.trod enc P W base spare held n x.type ((cells.drop x.offset).take (P.cellsOf x.type))=some y)->Cs cs ((cells.drop k).take cs.length)
 | [],k,cs,h,_=>by cases h;exact trivial
 | x::u,k,cs,h,R=>by
  unfold tu at h;cases E:Nat.beq x.offset k with
  | false=>rw[E] at h;cases h
  | true=>
   rw[E] at h;cases G:f x.type with
   | none=>rw[G] at h;cases h
   | some a=>
    rw[G] at h;dsimp only [_root_.cond_true] at h;cases I:Nat.beq (P.cellsOf x.type) a.length with
    | false=>rw[I] at h;cases h
    | true=>
     rw[I] at h;obtain⟨b,V,rfl⟩:=yT.1 h;have ih:=qrt (cells:=cells) J V λz hz=>R z (zN _ hz);obtain⟨n,y,U⟩:=R x Is;rw[yW E,yW I] at U;rw[zF,List.take_add,xE];exact (J _ _ G _ _ _ U).tZ ih
def qru:∀(d:Nat) (t:IM) (cs:List Cell),uz P d t=some cs->∀n vs y,DataW.trod enc P W base spare held n t vs=some y->Cs cs vs
 | 0,_,_,h,_,_,_,_=>nomatch h
 | d+1,t,cs,h,n,vs,y,u=>by
  unfold uz at h;split at h
  ·next k hu=>
   cases h;obtain⟨m,E,_,U⟩:=DataW.trod_int hu u;rw[E];exact⟨⟨m,rfl,qAK U⟩,trivial⟩
  ·next hu=>
   cases h;obtain⟨m,E,_⟩:=DataW.trod_bool hu u;rw[E];exact⟨⟨m,rfl,trivial⟩,trivial⟩
  ·next fs hu=>
   split at h
   ·next cs' hd=>
    cases G:Nat.beq (P.cellsOf t) cs'.length with
    | false=>rw[G] at h;cases h
    | true=>
     rw[G] at h;cases h;obtain⟨V,m,_,_,J,aa,hf⟩:=DataW.trod_struct hu u
     have:=qrt (cells:=vs) (qru d) hd λx hx=>by obtain⟨i,hi,rfl⟩:=List.getElem_of_mem hx;have I:i<fs.size:=(oP hi);have R:=hf i fs[i] (by simp[I]);rw[zA (show i<V.length by omega)] at R;exact⟨_,_,by simpa using R⟩
     rw[xG,zS (by have:=yW G;omega)] at this;exact this
   cases h
  cases h
def uR (o:Ov):List IL:=[.b (sY o)]++(HL.mk ll (A1 o)++(HL.mk qd (wD o).1++([.w (wD o).2.1,.w (wD o).2.2]++([.w (uq o).1,.w (uq o).2,.b (Ar o)]++(HL.mk jB (rz o)++(HL.mk ka (AH o)++[.w (vc o)]))))))
abbrev opC:List Cell:=[.b]++(ll++(qd++(dj++([.w,.w,.b]++(jB++(ka++[.w]))))))
def qub(o:Ov):(uR o).length=52:=rfl
def qAO{vs:List IL}(h:Cs opC vs):∃o:Ov,vs=uR o/\sH o:=by obtain⟨u1,v1,rfl,E,h⟩:=Cs.split (a:=[.b]) h;obtain⟨u2,v2,rfl,G,h⟩:=Cs.split (a:=ll) h;obtain⟨u3,v3,rfl,I,h⟩:=Cs.split (a:=qd) h;obtain⟨u4,v4,rfl,J,h⟩:=Cs.split (a:=dj) h;obtain⟨u5,v5,rfl,R,h⟩:=Cs.split (a:=[.w,.w,.b]) h;obtain⟨u6,v6,rfl,U,h⟩:=Cs.split (a:=jB) h;obtain⟨u7,v7,rfl,V,h8⟩:=Cs.split (a:=ka) h;obtain⟨d,rfl,fd⟩:=E.hl;obtain⟨a,rfl,fa⟩:=G.hl;obtain⟨t,rfl,ft⟩:=I.hl;obtain⟨⟨p0,p1⟩,rfl,fp⟩:=J.hl;obtain⟨⟨i0,i1,x⟩,rfl,u⟩:=R.hl;obtain⟨e,rfl,fe⟩:=U.hl;obtain⟨r,rfl,fr⟩:=V.hl;obtain⟨n,rfl,fn⟩:=h8.hl;exact⟨(d,a,(t,(p0,p1)),(i0,i1),x,e,r,n),rfl,⟨fd,fa,⟨ft,fp⟩,⟨u.1,u.2.1⟩,u.2.2,fe,fr,fn⟩⟩
end
section
section
variable {H:Type} {enc:IM×IL->H} {P:IN} {W:IK} {base:Nat} {spare:Nat->Bool} {held:Bool}
abbrev OPT:IM:=81
def qzm:∀n u y,DataW.trod enc prog W base spare held n OPT u=some y->∃o:Ov,u=uR o/\sH o:=λn u y h=>qAO (qru 5 OPT opC oK n u y h)
end
end
end
section
open Go Go.Pt List
open Go.IntKind (wrap)
open Classical
variable {K:Bool->Prop}
def qA9{P:IN}{t:IM}{x y:Operand}{cs ds:Array IL}{w:IK}(d:Nat)(I:d<=10000)(r:Bool)(h:tP P d t (.agg cs) (.agg ds)=some r)(E:P.eqGuardType P.depth t=false)(k:K (!r)): fG [iF.one Cell.bool] (λw'=>(do eqGuard .neq t x y (.agg cs) (.agg ds);binOp .neq t (.agg cs) (.agg ds):Sem IL).run P w') w K:=by have u:=Ex d t _ _ r h (10000-d) w;rw[show d+(10000-d)=10000 by omega] at u;have G:(binOp .neq t (.agg cs) (.agg ds)).run P w=.ok (.bool (!r)) w:=t6 (P:=P) true u oL oL oL oL;refine sh (ts:=[iF.one Cell.bool]) (!r) ?_ k;show ((do eqGuard .neq t x y (.agg cs) (.agg ds);binOp .neq t (.agg cs) (.agg ds):Sem IL).run P w)=Result.ok (Value.bool (!r)) w;simp[eqGuard,E,G]
attribute [local irreducible] ld dX jg oe jF fP st new idx jG jR fM jY jz mM iH nn call eJ inv run fG js join loop held ext kz eC nK nE nQ IntKind.wrap
def qBa{a b:jf}{x y:Operand}{w:IK}(k:K (!decide (a=b))): fG [iF.one Cell.bool] (λw'=>(do eqGuard .neq vh x y (di a.1 a.2) (di b.1 b.2);binOp .neq vh (di a.1 a.2) (di b.1 b.2):Sem IL).run prog w') w K:=by have e:tP prog 2 vh (di a.1 a.2) (di b.1 b.2)=some (bif a.1==b.1 then (bif a.2==b.2 then true else false) else false):=oK;have h:(bif a.1==b.1 then (bif a.2==b.2 then true else false) else false)=decide (a=b):=(by obtain⟨u,E⟩:=a;obtain⟨G,I⟩:=b;dsimp only;by_cases h0:u=G;by_cases h1:E=I;simp[h0,h1];simp[h0,h1];simp[h0]);rw[h] at e;exact qA9 2 oM _ e oK k
end
section
open Go Go.Pt List
open Go.IntKind (wrap)
open Classical
def GW{P:IN}{f:IM->IL->IL->Option Bool}{E:Array IL}(u:∀t x r,f t x x=some r->r=true):∀ {G:List Field} {r:Bool},qQ P f E E G=some r->r=true
 | [],r,h=>by simp[qQ] at h;exact h
 | x::G,r,h=>by simp only[qQ] at h;split at h;split at h;rename_i a b J I;rw[J] at I;cases I;split at h;rename_i V q R U;cases h;rw[u _ _ _ R,GW u U];rfl;cases h;cases h;exact GW u h
def qpK{P:IN}{f:IM->IL->IL->Option Bool}{e n:Nat}{u:Array IL}(E:∀t x r,f t x x=some r->r=true):∀ {is:IS} {r:Bool},rT P f e n u u is=some r->r=true
 | [],r,h=>by simp[rT] at h;exact h
 | i::is,r,h=>by simp only[rT] at h;split at h;rename_i a b I G;rw[I] at G;cases G;split at h;rename_i U q J R;cases h;rw[E _ _ _ J,qpK E R];rfl;cases h;cases h
def H7{P:IN}:∀(d:Nat) (t:IM) (x:IL) (r:Bool),tP P d t x x=some r->r=true
 | 0,_,_,_,h=>nomatch h
 | d+1,t,x,r,h=>by
  unfold tP at h;split at h
  ·next heq=>cases heq;cases h;exact beq_self_eq_true _
  ·next heq=>cases heq;simp at h;exact h
  ·next heq=>cases heq;cases h;exact beq_self_eq_true _
  ·next heq=>
   cases heq;cases u:P.stoodInHeld t with
   | true=>rw[u] at h;cases h
   | false=>rw[u] at h;exact GW (H7 d) h
  ·next heq=>
   cases heq;next _ e _ _=>
   cases u:nV P e with
   | false=>rw[u] at h;cases h
   | true=>rw[u] at h;exact qpK (H7 d) h
  cases h
def eqS{P:IN}{t:IM}{x y:Operand}{cs:Array IL}{w:IK}{K:Bool->Prop}(d:Nat)(E:d<=10000)(h:(tP P d t (.agg cs) (.agg cs)).isSome=true)(G:P.eqGuardType P.depth t=false)(k:K true): fG [iF.one Cell.bool] (λw'=>(do eqGuard .eql t x y (.agg cs) (.agg cs);binOp .eql t (.agg cs) (.agg cs):Sem IL).run P w') w K:=by
 obtain⟨r,u⟩:=Option.isSome_iff_exists.1 h;have:=H7 _ _ _ _ u;subst this;exact G6 d E true u G k
end
section
open Go Go.Pt List
open Go.IntKind (wrap)
open Classical
attribute [local irreducible] ld dX jg oe jF fP st new idx jG jR fM jY jz mM iH nn call eJ inv run fG js join loop held ext kz eC nK nE nQ IntKind.wrap
section
variable {w w' w1:IK} {Y F F':IS} {sb pb c:Nat} {b:Bk}
end
section
abbrev MVF:FuncId:=39
structure MvN (W:IK) (C:IS) (v:IL) (side:Int) (l:List Mv):Prop where
 ex:∃ (w0:IK) (cb r r3:Nat) (T T3:IM),v=.func (.func MVF) #[] #[dS r,dS r3]/\W.heap[r]?=some (.c #[dS cb] T)/\W.heap[r3]?=some (.c #[.b side] T3)/\Mov w0 W [] C cb (l.map Cn)/\r∉C/\r3∉C
 ok:∀ m∈l,lN m.1/\lQ (mvN m)/\lN m.2.2
section
variable {w0 W w w':IK} {Y F C:IS} {sb pb c:Nat} {b:Bk} {v:IL} {side:Int} {l:List Mv}
end
end
def qzi{α:Type}{enc:α->List IL}{k:Nat}{w:IK}{s:Sl}{l:List α}{B:IS}(u:∀x,(enc x).length=k)(h:fj enc k w s l B){hi:Int}(n:Nat){K:Sl->Prop}(G:hi=n)(I:n<=l.length)(R:∀U,fj enc k w U (l.take n) B->K U):fM s none (some hi) none k K:=by
 subst G;rcases h with ⟨rfl,rfl,rfl⟩|⟨b,o,cs,T,rfl,rfl,ha,hb,h5,h6,h7,h8⟩;have:n=0:=(oP I);subst this;exact wW ⟨Int.le_refl _,Int.le_refl _⟩ (R _ (.inl ⟨rfl,rfl,rfl⟩))
 ·refine wW ⟨oJ,oJ⟩ ?_;rw[zJ];have E:(l.take n).length=n:=(by rw[yL];exact xS I);refine R _ (.inr ⟨b,0,cs,T,rfl,rfl,ha,hb,E.symm,by dsimp only;omega,h7,?_⟩);have J:n*k<=l.length*k:=IB k I;have V:=IH (List.take (n*k)) h8;rw[take_take,xS J] at V;rw[E,V];conv=>lhs;rw[<- xF n l]
  rw[yQ,Ir (by rw[qI u,E];exact zM _)];exact zS (by rw[qI u,E];exact zM _)
abbrev mG:HL ka->List IL:=HL.mk ka
def vU(x:HL ka):(mG x).length=10:=rfl
def FG(x:HL ka):∀u∈mG x,u.oneCell'=true:=all_eq_true.1 rfl
def qAq:∃i,prog.info? zh=some i/\i.zero=some (.agg (mG vo).toArray)/\i.size=10/\i.bytes=80:=tB oK
def qxO{S:IS}{w:IK}{r:pg}{b:Bk}{i0 I frm to:Int}{down:Bool}{K:Sl->WP}(h:RB S w r b)(hl:b.size<=100000)(kk:∀s B w',fj mG 10 w' s (ji b.iq (i0,I) frm to down) B->Fr [] w w'->(∀x∈B,w.heap.size<=x)->K s w'): cW 14 [Il gE r,di i0 I,.w frm,.w to,.bool down] dl w K:=by
 refine qe8 ?_;have aW:b.iq.length<=100000:=(by unfold Bk.size at hl;omega);obtain⟨j,hj,hz,ag,ah⟩:=qAq;unfold ji at kk;refine oB (oE [] w) λr1 w1 _ f1 o=>oB o λr3 w2 _ f2 o=>oB (oE [] w2) λr5 w3 e3 f3 o2=>?_;have aC:=(h.q8 o.fr).iq;have ext:∀n (hn:n<b.iq.length),((b.iq.take (n+1)).filter (lF (i0,I) frm to)).foldl (λu x=>putAt (ln (kB x.2) down) x.2 u) []=if lF (i0,I) frm to b.iq[n] then putAt (ln (kB b.iq[n].2) down) b.iq[n].2 (((b.iq.take n).filter (lF (i0,I) frm to)).foldl (λu x=>putAt (ln (kB x.2) down) x.2 u) []) else ((b.iq.take n).filter (lF (i0,I) frm to)).foldl (λu x=>putAt (ln (kB x.2) down) x.2 u) []:=λn hn=>by rw[yG hn,xC,foldl_append];by_cases hc:lF (i0,I) frm to b.iq[n]=true;rw[iP hc,filter_cons,iP hc];rfl;rw[iN hc,filter_cons,iN hc];rfl
 have len:∀n,(((b.iq.take n).filter (lF (i0,I) frm to)).foldl (λu x=>putAt (ln (kB x.2) down) x.2 u) []).length<=n:=λn=>by
  have:∀(l:List Ln) (u:List (HL ka)),(l.foldl (λu x=>putAt (ln (kB x.2) down) x.2 u) u).length=u.length+l.length:=by
   intro l;induction l with
   | nil=>intro u;rfl
   | cons x l ih=>intro u;rw[foldl_cons,ih,Dl.length_eq,yI,yI];omega
  rw[this,xL,xT];exact zL (length_filter_le _ _) (by rw[yL];omega)
 refine jv (λt w'=>∃n:Nat,∃B,t.2=n/\n<=b.iq.length/\fj mG 10 w' t.1 (((b.iq.take n).filter (lF (i0,I) frm to)).foldl (λu x=>putAt (ln (kB x.2) down) x.2 u) []) B/\Fr [] w2 w'/\∀x∈B,w2.heap.size<=x) (λt _=>b.iq.length-t.2.toNat) ⟨0,[r5],rfl,yX _,fj.none (o2.at (i:=0) rfl),f3,λx E=>by rw[zE.1 E];omega⟩ ?_;rintro⟨s,q⟩ w5 ⟨n,B,hq,hn,G,f5,nB⟩ X hX;dsimp only at hq G⊢;subst hq;have o5:=o.q8 f5;have ao:eI mD 12 S w5 r.2.2.2.2.2.2.1 b.iq:=aC.q8 f5;have a1:r.2.2.2.2.2.2.1.len=b.iq.length:=ao.1;refine IQ o5 1 rfl r.2.2.2.2.2.2.1 (eB (λhc=>?_) λhc=>?_)
 ·have U:n<b.iq.length:=(by have:=zC hc;omega);have E:=zA U;have ac:=ext n U;have aG:=len n;generalize b.iq[n]=x at E ac;generalize ((b.iq.take n).filter (lF (i0,I) frm to)).foldl (λu x=>putAt (ln (kB x.2) down) x.2 u) []=u at G ac aG;refine iC (λs' w'=>∃B',fj mG 10 w' s' (((b.iq.take (n+1)).filter (lF (i0,I) frm to)).foldl (λu x=>putAt (ln (kB x.2) down) x.2 u) []) B'/\Fr [] w2 w'/\∀x∈B',w2.heap.size<=x) ?_ λs' w' ⟨B',b',f',n'⟩=>hX _ _ ⟨n+1,B',by dsimp only;rw[gG _ oJ];rfl,U,b',f',n'⟩ (by dsimp only;rw[gG _ oJ];omega);rw[ac];clear ac ext len;refine IQ o5 1 rfl r.2.2.2.2.2.2.1 (eI.rY (x:=x) (y:=(x.1.1,x.1.2,x.2)) ao n rfl E rfl rfl ?_);refine oB o5 λa3 w6 e6 f6 o6=>o6.st' 0 rfl _ (mR rfl) rfl (zM _) λw7 o7 f7=>?_;have V:Fr [] w5 w7:=f6.J0 f7 λx E=>.inr (by rw[zE.1 E];omega);refine IQ o7 0 rfl (kB x.2)<|uu (!lF (i0,I) frm to x) w7 (λM hM=>?_) ?_;refine IR o7 0 rfl x.1 (IR o7 1 rfl (i0,I) (qBa (a:=x.1) (b:=(i0,I)) ?_));unfold lF at hM;apply eB<;>intro G;rw[zU (λh=>by rw[zZ h.1] at G;cases G)] at hM;exact hM;have h1:x.1=(i0,I):=zC (oP G);apply eB<;>intro G
  have:=zC G;rw[zU λh=>oJ] at hM;exact hM;have:=zB G;rw[show decide (kB x.2>to) = !decide (x.1=(i0,I)/\frm<=kB x.2/\kB x.2<=to) by rw[<- decide_not,decide_eq_decide];exact⟨λh1 h=>oJ,λh=>by have:¬(kB x.2<=to):=λh2=>h ⟨h1,oJ,h2⟩;omega⟩];exact hM;apply eB<;>intro ad;rw[iN (by rw[zT,] at ad;rw[ad];decide)];exact⟨B,G.q8 V,f5.trans V,nB⟩;rw[iP (oP ad)];have b7:=G.q8 V;have af:s.len=u.length:=G.len;refine jv (λq w'=>∃a:Nat,q=a/\a<=u.length/\w'=w7/\∀y∈u.drop a,ln (kB x.2) down y=true) (λq _=>q.toNat) ⟨u.length,by rw[af],zM _,rfl,by rw[drop_length];exact λy h=>nomatch h⟩ ?_;rintro q w8 ⟨a,rfl,ha,rfl,hp⟩ Y hY;refine uu (if h:a=0 then false else ln (kB x.2) down (u[a-1]' oJ)) w8 (λM hM=>?_) ?_;apply eB<;>intro G;have h0:a≠0:=λe=>by have:=zC G;omega
  rw[dif_neg h0] at hM;rw[gG _ oJ];exact eI.xg (c:=.w) (j:=8) (b7.jQ vU (S:=[]) λ_ _ h=>nomatch h) (a-1) oJ (zA oJ) oM rfl<|hM;have h0:a=0:=(by have:=zB G;omega);rw[dif_pos h0] at hM;exact hM;apply eB<;>intro J
  ·split at J;cases J;next h0=>
   rw[gG _ oJ];refine hY _ _ ⟨a-1,oJ,oJ,rfl,λy hy=>?_⟩ oJ;rw[show u.drop (a-1)=u[a-1]' oJ::u.drop a by rw[zX oJ,show a-1+1=a by omega]] at hy;rcases zG.1 hy with rfl|hy;exact J;exact hp y hy
  have hA:putAt (ln (kB x.2) down) x.2 u=u.take a++x.2::u.drop a:=by
   conv=>lhs;rw[<- xF a u]
   refine qyw hp λA' z e=>?_;have hz:z=u[a-1]'(by
     have:=IH List.length e;rw[yL,zF,xN] at this;omega):=by
    have hl:=IH List.length e;rw[yL,zF,xN] at hl;have:=IH (·[a-1]?) e;simp only[xB,List.getElem?_append] at this;rw[iP,iN,show a-1-A'.length=0 by omega,zA oJ] at this;exact (yO this).symm
   have h0:a≠0:=λh=>by subst h;simp at e
   rw[dif_neg h0] at J;rw[hz];exact J
  rw[hA];have z7:=(f5.trans V).size;refine oB o7 λba w9 e9 f9 o9=>?_;have R9:eI mG 10 [] w9 s u:=(b7.q8 f9).jQ vU λ_ _ h=>nomatch h;refine eI.part R9 (lo:=some (a:Int)) (hi:=none) a u.length rfl (by rw[<- af];rfl) ha (zM _) λbg _ aq _=>?_;rw[vA] at aq;refine As (e:=zh) (o9.at (i:=0) rfl) aq vU FG oK hj hz ag rfl (by rw[ah];decide) (by rw[yB];omega) λaJ ar wa aK fa aL=>?_;have au:∀x∈ar,w8.heap.size<=x:=λx E=>(aL x E).elim (λe=>by rw[e,e9];exact zM _) (zL f9.size);have R:Fr [] w8 wa:=f9.J0 fa λx E=>.inr (by rw[zE.1 E];omega);refine qzi vU (b7.q8 R) a rfl ha λbi aM=>?_;have oa:=(o7.q8 R).drew;have ga:=(Fr.refl [] wa).drew;refine IR oa 0 rfl x.2 ?_;have lt:(u.take a).length=a:=(by rw[yL];exact xS ha);refine fj.push (e:=zh) (x:=x.2) (aM.q8 ga) vU (FG x.2) oK hj hz ag rfl rfl (by rw[ah,lt];omega) oJ λbk bl wb aN fb av=>?_;have lB:∀x∈B,x<w8.heap.size:=λx E=>b7.lt x E;have ab:fj mG 10 wb aJ (u.drop a) ar:=(aK.q8 ga).j1 fb λx E h=>by have:=au x E;have:=lB x h;omega
  have ai:=ab.len;rw[yB] at ai;refine fj.j4 aN vU (e:=zh) oK hj hz ag rfl (uU (e':=zh) (ab.jQ vU (S:=[]) λ_ _ h=>nomatch h) vU FG oK) ab.len ?_ ?_ λbo aO wc aw fc aP _=>⟨aO,?_,?_,?_⟩;rw[zF,lt,xN,ai,ah];omega;rw[zF,lt,xN,ai];omega;rw[zV] at aw;exact aw;exact (((f5.trans V).trans R).trans ga).J0 fb (λx E=>.inr (nB x E)) |>.J0 fc λx E=>.inr ((av x E).elim (nB x) λh=>by have:=(R.trans ga).size;omega);exact λx E=>(aP x E).elim (λh=>(av x h).elim (nB x) λh=>by have:=(R.trans ga).size;omega) λh=>by have:=(R.trans ga).size;have:=fb.size;omega
 have U:n=b.iq.length:=(by have:=zB hc;omega);subst U;rw[vA] at G;exact kk s B w5 G ((o.fr).trans f5) λx E=>zL o.fr.size (nB x E)
end
section
open Go Go.Pt List
open Go.IntKind (wrap)
open Classical
attribute [local irreducible] ld dX jg oe jF fP st new idx jG jR fM jY jz mM iH nn call eJ inv run fG js join loop held ext kz eC nK nE nQ IntKind.wrap
end
end Go.Proofs.YtpcmehldpoljfaaGreatDoor
namespace Go.Pt
section
open Go
def EZ{D:Nat}{w:IK}{K:WP}(h:w.heap[D]?=some (.deferred (some [])))(k:∀w',Fr [D] w w'->K w'):Pt.eC D w K:=⟨h,k _ (oQ (eO h) _)⟩
def qAR{h u E G I:WP}{w:IK}{K:Prop}(J:h w)(R:u w)(U:E w)(V:G w)(h5:I w)(k:K):held [h,u,E,G,I] w K:=⟨⟨J,R,U,V,h5⟩,k⟩
end
end Go.Pt
namespace Go.Proofs.YtpcmehldpoljfaaGreatDoor
open Go.Proofs.Tryz (prog)
section
open Go.Proofs.Tryz (prog)
open Go Go.Pt List
open Classical
attribute [local irreducible] ld dX jg oe jF fP st new idx jG jR fM jY jz mM iH nn call eJ inv run fG js join loop held ext kz eC nK nE nQ IntKind.wrap
abbrev DW:FuncId:=43
def pZ (w:IK) (v:IL) (sb:Nat) (i:jf) (frm to:Int) (down:Bool):Prop:=∃(h u E G I:Nat) (T1 J R U V:IM),v=.func (.func DW) #[] #[dS h,dS u,dS E,dS G,dS I]/\
 w.heap[h]?=some (.c #[dS sb] T1)/\w.heap[u]?=some (.c #[.w i.1,.w i.2] J)/\w.heap[E]?=some (.c #[.w frm] R)/\w.heap[G]?=some (.c #[.w to] U)/\w.heap[I]?=some (.c #[.bool down] V)
def pZ.q8{w w':IK}{v:IL}{sb:Nat}{i:jf}{frm to:Int}{down:Bool}(h:pZ w v sb i frm to down)(f:Fr [] w w'):pZ w' v sb i frm to down:=by
 obtain⟨E,G,I,J,R,T1,U,V,T7,T9,e,c1,c3,c5,c7,c9⟩:=h;have u:∀ {b:Nat} {o:Obj},w.heap[b]?=some o->w'.heap[b]?=some o:=λh=>by rw[f.block _ (eO h) λh=>nomatch h];exact h
 exact⟨E,G,I,J,R,T1,U,V,T7,T9,e,u c1,u c3,u c5,u c7,u c9⟩
def qxP{w:IK}{sb:Nat}{i:jf}{frm to:Int}{down:Bool}{K:IL->WP}(h:∀v w',pZ w' v sb i frm to down->Fr [] w w'->K v w'): cW 15 [dS sb,di i.1 i.2,.w frm,.w to,.bool down] dw w K:=by exact qjL<|oB (oE [] w) λu w1 _ _ o=>oB o λE w2 _ _ o=>oB o λG U _ _ o=>oB o λI V _ _ o=>oB o λJ R _ _ o=>h _ R ⟨u,E,G,I,J,_,_,_,_,_,rfl,o.at (i:=4) rfl,o.at (i:=3) rfl,o.at (i:=2) rfl,o.at (i:=1) rfl,o.at (i:=0) rfl⟩ o.fr
structure HR (yield:IL) (Yc:IS) (wb:IK) (L:List (HL ka)) (I:Nat->WP) (E:WP):Prop where
 stay:∀ i W W' Z,I i W->Fr Z W W'->(∀ b∈Z,wb.heap.size<=b)->I i W'
 uF:∀ W W' Z,E W->Fr Z W W'->(∀ b∈Z,wb.heap.size<=b)->E W'
 take:∀ i (hi:i<L.length) W (K:Bool->WP),I i W->wb.heap.size<=W.heap.size->(∀ W',Fr Yc W W'->I (i+1) W'->K true W')->(∀ W',Fr Yc W W'->E W'->K false W')->eJ prog yield [.agg (HL.mk ka L[i]).toArray] dp W K
def qv5{w:IK}{Y Yc F:IS}{sb c l0:Nat}{b:Bk}{i:jf}{frm to:Int}{down:Bool}{v0:IL}{lb:List IL}{I:Nat->WP}{E:WP}{K:Unit->WP}(hv:v0=.func (.func DW) #[] lb.toArray)(hR:pZ w v0 sb i frm to down)(hS:SB w Yc sb F c b)(hi:lN i)(hf:lQ frm)(ht:lQ to)(hl:b.size<=90000)(hY:HR (.func (.yield l0) #[] #[]) Yc w (ji b.iq i frm to down) I E)(h0:I 0 w)(k1:∀W',I (ji b.iq i frm to down).length W'->K () W')(k2:∀W',E W'->K () W'): cW DW (.func (.yield l0) #[] #[]::lb) [] w K:=by
 obtain⟨q1,q3,q5,q7,q9,T1,T3,T5,T7,T9,e,c1,c3,c5,c7,c9⟩:=hR;rw[e] at hv;have aZ:lb=[dS q1,dS q3,dS q5,dS q7,dS q9]:=by
  injection hv with _ _ h3;simpa using (IH Array.toList h3).symm
 subst aZ;obtain⟨pb,al⟩:=hS;refine qhv<|oB (oE [] w) λr1 w1 e1 f1 o=>?_;have o:=o.drew;have nh:∀ {x:Nat},x∉([]:IS):=λh=>nomatch h;refine iv (o.mT c1 nh) (pW sb) rfl (al.tG o.fr ?_);refine wL (o.mT c3 nh) i rfl (iv (o.mT c5 nh) frm rfl (wL (o.mT c3 nh) i rfl (iv (o.mT c7 nh) to rfl (iv (o.mT c9 nh) down rfl ?_))));refine AM λbS bT a0 a1=>?_;have o2:=o.q8 a1;have ac:∀ {w':IK} {b aF:Nat} {cs:Array IL} {T:IM} {v:IL},w'.heap[b]?=some (.c cs T)->cs[aF]?=some v->w'.cell? (dk b aF)=some v:=λh G=>by rw[jC h];exact G
 refine qAR (ac (o2.mT c9 nh) rfl) (ac (o2.mT c7 nh) rfl) (vI (o2.mT c3 nh) _ _ 0 rfl) (al.held o2.fr) (ac (o2.mT c1 nh) rfl)<|AM λbU bV a2 aG=>?_;have o3:=o2.q8 aG;refine nj (ac (o3.mT c9 nh) rfl) (al.held o3.fr) (ac (o3.mT c1 nh) rfl) ?_;have am:∀n,(gu i n).length=24:=λn=>wo _ _;refine qze (S:=[]) rfl (a0.rd.q8 aG) a2.rd (by rw[am];decide) (by rw[am];decide) λa3 bW WB hW nW a4=>?_;obtain⟨bX,ap⟩:∃lb:List IL,a3=.func (.func WF) #[] lb.toArray:=by obtain⟨r1,r3,r5,r7,r9,s1,s2,B1,B2,e,_⟩:=hW.val;exact⟨[_,_,_,_,_],e⟩
 have o4:=o3.q8 a4;refine ef.kz o4 ap oK λD l R B J X E0 w9 el eD f9 h hy=>?_;obtain⟨dbk,FD,Fp,Dm,M,Fo,rfl,av,b4,b5,hb,hc,hj⟩:=al;have ql:w9.heap[l]?=some R:=h.at (i:=0) rfl;have qD:w9.heap[D]?=some (.deferred (some [])):=h.at (i:=1) rfl;obtain⟨Ty,qy⟩:∃T,w9.heap[r1]?=some (.c #[.func (.yield l0) #[] #[]] T):=⟨_,h.at (i:=2) rfl⟩;have nl:w.heap.size<=l:=(h.own (l,R) oL).resolve_left λh=>nomatch h;have nD:w.heap.size<=D:=(h.own (D,.deferred (some [])) oL).resolve_left λh=>nomatch h;have n1:w.heap.size<=r1:=oJ;obtain⟨ai,aK,b8⟩:l≠D/\l≠r1/\D≠r1:=by have:=h.nodup;simp at this;exact⟨this.1.1,this.1.2,this.2⟩
 have gl:=eO ql;have gD:=eO qD;have g1:=eO qy;have sw:=h.fr.size;have f0:Fr [] w w9:=h.fr;have hT:TW dbk pb FD Dm (5000*b.cm.2.1) w9 (l::Yc) Fp M:=av.tw.yo (B:=[l]) (f0.mono λ_ h _=>nomatch h) λx G=>by rw[zE.1 G];exact⟨nl,gl⟩
 have hT:=hT.up (j':=900000) oJ;have a6:∀x∈Yc,x<w.heap.size:=av.tw.qZ;have cc:=hb.iq.len;have hz:b.iq.length<=b.size:=(by unfold Bk.size;omega);have aw:=qvE (down:=down) hb.iq hi hf ht;clear h o o2 o3 o4;have V:∀ {Z:IK} {u y:Nat} {o v:Obj},u<Z.heap.size->u≠y->Z.heap[y]?=some v->(Z.putObj u o).heap[y]?=some v:=λ{Z u y o v} hl hy hu=>((oQ hl o).block y (eO hu) λhm=>hy (zE.1 hm).symm).trans hu;have ax:∀ {Z:IK} {u:Nat} {o:Obj},u<Z.heap.size->(Z.putObj u o).heap[u]?=some o:=λ{Z u o} hl=>(pf Z u o u hl).trans (iP rfl);have aL:∀ {W W':IK},Fr [l] W W'->Fr (l::Yc) W W':=λf=>f.mono λx G _=>by rw[zE.1 G];simp
 have a7:∀ {W W':IK},Fr Yc W W'->Fr (l::Yc) W W':=λf=>f.mono λx G _=>zN _ G;have ad:∀ {x:Nat},x∈[l]->w.heap.size<=x:=λG=>by rw[zE.1 G];exact nl
 refine qxR (t:=6) (pb:=pb) (L:=(Fo 6).1) (P:=(Fo 6).2) (k:=24) (v:=65) (Yc:=l::Yc) (I:=λn Z=>I n Z/\Z.heap[l]?=some R/\Z.heap[r1]?=some (.c #[.func (.yield l0) #[] #[]] Ty)/\Z.heap[D]?=some (.deferred (some []))/\w9.heap.size<=Z.heap.size) (E:=λZ=>E Z/\Z.heap[l]?=some (J 0)/\Z.heap[D]?=some (.deferred (some [])))
  ap (hW.j1 f9 λ_ _ h=>nomatch h) hT rfl ⟨oM,av.st.J2.J4 6 oM⟩ oJ (by rw[am];decide) (by rw[am];decide) (Bb _ _) (Bb _ _) ⟨λn Z Z' U ⟨z1,z2,z3,z4,z5⟩ f hU=>?_,λn hn Z ks vs C1 C2 K' ⟨z1,z2,z3,z4,z5⟩ p1 p2 nC ci kT kE=>?_⟩ ⟨hY.stay 0 w w9 [] h0 f0 λb hb=>(nomatch hb),ql,qy,qD,zM _⟩ (λZ ⟨z1,z2,z3,z4,z5⟩=>.inl ⟨z2,?_⟩) λZ ⟨z1,z2,z4⟩=>.inr ⟨0,_,rfl,z2,?_⟩
 have nU:∀x,x<w9.heap.size->x∉U:=λx G hm=>by have:=hU x hm;omega
 exact⟨hY.stay n Z Z' U z1 f λx G=>zL sw (hU x G),by rw[f.block _ (eO z2) (nU _ gl)];exact z2,by rw[f.block _ (eO z3) (nU _ g1)];exact z3,by rw[f.block _ (eO z4) (nU _ gD)];exact z4,zL z5 f.size⟩;have gZ:=eO z2;have aN:n<(ji b.iq i frm to down).length:=by
  have:=hn;rw[aw,zK] at this;exact this
 have aO:(gP down (gu i frm) (gu i to) (Fo 6).1)[n]=(gu i (kB (ji b.iq i frm to down)[n]),pG (ji b.iq i frm to down)[n]):=(by simp only[aw,getElem_map]);rw[aO] at p1 p2;generalize hr:(ji b.iq i frm to down)[n]=r at p1 p2;have ba:jX ka r:=(by have hm:r∈ji b.iq i frm to down:=(by rw[<- hr];exact zW aN);obtain⟨x,G,e⟩:=qxl hm;rw[<- e];exact (hb.iq.2 x G).2);refine hy (ks,vs) Z K' z2 ⟨z2,?_⟩;have fu:Fr [l] Z (Z.putObj l B):=oQ gZ B;have yl:(Z.putObj l B).heap[l]?=some B:=ax gZ;have y1:=V (o:=B) gZ aK z3;have yD:=V (o:=B) gZ ai z4;have iB:I n (Z.putObj l B):=hY.stay n _ _ [l] z1 fu λx G=>ad G;generalize Z.putObj l B=Zb at fu yl y1 yD iB⊢;have aP:∀x∈C1++C2,x∉[l]:=λx G hm=>by
  have:=nC x G;rw[zE.1 hm] at this;omega
 have b1:=(gb.dH (p1.j1 fu λx G=>aP x (by simp[G])) λx _=>(by simp:x∉([]:IS)));have b2:=(gb.dH (p2.j1 fu λx G=>aP x (by simp[G])) λx _=>(by simp:x∉([]:IS)));refine quy (x:=i) (r:=r) b1 b2 hi ba λwa fa=>oB (oE [] wa) λcp wb _ fb o=>oB o λcq wc _ fc o=>o.st' 1 rfl _ (mR rfl) rfl (zM _) λwd o _=>o.st' 0 rfl _ (mR rfl) rfl (zM _) λwe o _=>?_;have fe:Fr [] Zb we:=fa.trans o.fr;have az:∀ {y:Nat} {v:Obj},Zb.heap[y]?=some v->we.heap[y]?=some v:=λhv=>by rw[fe.block _ (eO hv) λh=>nomatch h];exact hv
 have ie:I n we:=hY.stay n _ _ [] iB fe λx G=>nomatch G;have se:w9.heap.size<=we.heap.size:=zL z5 (zL fu.size fe.size);have bf:∀ {x:Nat},w.heap.size<=x->x∉Yc:=λG hm=>by have:=a6 _ hm;omega
 have bg:Fr (l::Yc) Z we:=(aL fu).trans (fe.mono λ_ h _=>nomatch h);refine iC (λq W'=>(q=false/\I (n+1) W'\/q=true/\E W')/\Fr Yc we W') ?_ ?_;refine Im rfl (iv (az y1) (.func (.yield l0) #[] #[]) rfl (IR o 0 rfl r ?_));rw[<- hr];exact hY.take n aN we _ ie (zL sw se) (λW' f i'=>⟨.inl ⟨rfl,i'⟩,f⟩) λW' f e'=>⟨.inr ⟨rfl,e'⟩,f⟩;rintro q W' ⟨hq,f'⟩;have ae:∀ {y:Nat} {v:Obj},w.heap.size<=y->Zb.heap[y]?=some v->W'.heap[y]?=some v:=λhy hv=>by rw[f'.block _ (eO (az hv)) (bf hy)];exact az hv
 have aA:=ae nl yl;have ab:=eO aA;have ff:∀o',Fr (l::Yc) Z (W'.putObj l o'):=λo'=>(bg.trans (a7 f')).trans (aL (oQ ab o'));have ss:∀o',w9.heap.size<=(W'.putObj l o').heap.size:=λo'=>zL se (zL f'.size (oQ ab o').size);rcases hq with ⟨rfl,i'⟩|⟨rfl,e'⟩;refine Io rfl ⟨aA,kT _ (ff R) ⟨hY.stay _ _ _ [l] i' (oQ ab R) λx G=>ad G,ax ab,V ab aK (ae n1 y1),V ab ai (ae nD yD),ss R⟩⟩;exact Im rfl ⟨aA,kE _ ⟨hY.uF _ _ [l] e' (oQ ab (J 0)) λx G=>ad G,ax ab,V ab ai (ae nD yD)⟩⟩;have gZ:=eO z2;rw[aw,zK] at z1;have f1:=oQ gZ E0;refine EZ (V gZ ai z4) λw' f2=>k1 w' (hY.stay _ _ _ [D] (hY.stay _ _ _ [l] z1 f1 λx G=>ad G) f2 λx G=>by rw[zE.1 G];exact nD);have gZ:=eO z2;have f1:=oQ gZ (X 0);refine EZ (V gZ ai z4) λw' f2=>k2 w' (hY.uF _ _ [D] (hY.uF _ _ [l] z1 f1 λx G=>ad G) f2 λx G=>by rw[zE.1 G];exact nD)
end
section
open Go Go.Pt List
open Go.IntKind (wrap)
open Classical
attribute [local irreducible] ld dX jg oe jF fP st new idx jG jR fM jY jz mM iH nn call eJ inv run fG js join loop held ext kz eC nK nE nQ IntKind.wrap
variable {K:Ja->WP}
def qp1{w:IK}{n:Nat}(Y:IS)(E:∀b∈Y,b<w.heap.size)(hY:HG∉Y)(G:Hv w)(I:8<=n)(J:n<=4096)(kk:∀sb pb dbk FD F D w',pu w' Y sb dbk pb FD F D (kO n) ((n-2)-eZ (n-2)) (n,1) (λ_=>([],[]))->Made D n->HG∉FD->sb∉FD->Fr [] w w'->(∀b∈sb::(FD++F),w.heap.size<=b)->K (pW sb,pW pb) w'): cW 32 [.i n] dL w K:=by exact qhE<|qwT (n:=n) Y E hY G I J λdbk pb FD F D w1 u R U V=>Io rfl<|qsC<|oB (oE [] w1) λr w2 e2 f2 o=>kk r pb dbk FD F D w2 ⟨u.q8 f2,pF.made I J u.wf R,o.at (i:=0) rfl,λh=>by have:=u.z9.lt r h;omega⟩ R (λh=>by have:=V HG (zH _ h);have:=G.lt;omega) (λh=>by have:=u.vV r (by simp[Zo,h]);omega) (U.trans f2) λb hb=>(zG.1 hb).elim (λe=>by rw[e,e2];exact U.size) (V b)
structure pL (w0 W:IK) (Y:IS) (L:IW) (sb:Nat) (F:IS) (c:Nat) (bs br:Bk) (ri:pg):Prop where
 own:ef (fH L) W W L
 sB:SB W (fH L++Y) sb F c bs
 rb:RB (fH L++F) W ri br
 fr:Fr [] w0 W
 nL:∀ x∈fH L,w0.heap.size<=x
 nF:∀ x∈F,w0.heap.size<=x
 ns:w0.heap.size<=sb/\sb∉fH L
section
variable {w0 W w':IK} {Y F F':IS} {L L':IW} {sb c:Nat} {bs br bs' br':Bk} {ri r':pg}
def pL.lt(h:pL w0 W Y L sb F c bs br ri):∀x∈fH L++F,x<W.heap.size:=λx u=>(zD.1 u).elim (ya h.own x) (h.sB.flt x)
def pL.J2(h:pL w0 W Y L sb F c bs br ri)(o:ef (fH L) W w' L'):pL w0 w' Y L' sb F c bs br ri where
 own:=o.lX
 sB:=h.sB.HH h.ns.2 o
 rb:=h.rb.j1 (o.fr.mono λx u _=>zH _ u) λx u=>(zD.1 u).elim (λu=>by obtain⟨p,E,rfl⟩:=mem_map.1 u;exact (o.own p E).imp (zH _) id) λu=>.inl (zI _ u)
 fr:=h.fr.J0 o.fr λx u=>.inr (h.nL x u)
 nL:=λx u=>by obtain⟨p,E,rfl⟩:=mem_map.1 u;exact (o.own p E).elim (h.nL _) (zL h.fr.size)
 nF:=h.nF
 ns:=⟨h.ns.1,λu=>by
  obtain⟨p,E,e⟩:=mem_map.1 u;rcases o.own p E with G|G;exact h.ns.2 (by rw[<- e];exact G);have:=h.sB.lt;omega⟩
def pL.sub(h:pL w0 W Y L sb F c bs br ri)(u:L'.Sublist L):pL w0 W Y L' sb F c bs br ri where
 own:=(h.own.sub u).lX
 sB:=h.sB.y8 λb E=>(zD.1 E).elim (λE=>zH _ ((u.map _).subset E)) (zI _)
 rb:=h.rb.j1 (.refl _ _) λx G=>.inl ((zD.1 G).elim (λE=>zH _ ((u.map _).subset E)) (zI _))
 fr:=h.fr
 nL:=λx G=>h.nL x ((u.map _).subset G)
 nF:=h.nF
 ns:=⟨h.ns.1,λG=>h.ns.2 ((u.map _).subset G)⟩
def pL.ou(h:pL w0 W Y L sb F c bs br ri)(f:Fr [] W w')(u:RB (fH L++F) w' r' br'):pL w0 w' Y L sb F c bs br' r':=
 ⟨(h.own.q8 f).lX,h.sB.q8 f,u,h.fr.trans f,h.nL,h.nF,h.ns⟩
def pL.q8(h:pL w0 W Y L sb F c bs br ri)(f:Fr [] W w'):pL w0 w' Y L sb F c bs br ri:=h.ou f (h.rb.q8 f)
def pL.nt(h:pL w0 W Y L sb F c bs br ri)(E:SB w' (fH L++Y) sb F' c bs')(s:pd F W F' w'):pL w0 w' Y L sb F' c bs' br ri where
 own:=h.sB.own h.own s
 sB:=E
 rb:=h.rb.j1 (s.fr.mono λx u _=>zI _ u) λx u=>(zD.1 u).elim (λu=>.inl (zH _ u)) λu=>(s.new x u).imp (zI _) id
 fr:=h.fr.J0 s.fr λx u=>.inr (h.nF x u)
 nL:=h.nL
 nF:=λx u=>(s.new x u).elim (h.nF x) (zL h.fr.size)
 ns:=h.ns
end
abbrev AC:pg:=(dT,dT,dT,dT,dT,dT,dT,0,false,dT)
def qAF(S:IS)(w:IK)(q:Nat×Nat×Gh):RB S w AC (zg q):=⟨.nil _ _ _ _,.nil _ _ _ _,.nil _ _ _ _,.nil _ _ _ _,.nil _ _ _ _,.nil _ _ _ _,.nil _ _ _ _,⟨rfl,rfl⟩,[],zM _,.nil _ _ _ _⟩
def pL.start{w0 w w':IK}{Y:IS}{L:IW}{sb dbk pb c:Nat}{FD F:IS}{D:dV}{M:eH}{q:I1}(o:ef [] w0 w L)(h:pu w' (fH L++Y) sb dbk pb FD F D M c q λ_=>([],[]))(G:c<=100000)(I:q.2<=150)(J:HG∉FD)(R:sb∉FD)(f:Fr [] w w')(u:∀b∈sb::(FD++F),w.heap.size<=b):pL w0 w' Y L sb (FD++F) c (zg (q.1,q.2,pb,D,m8 M)) (zg (q.1,q.2,pb,D,m8 M)) AC where
 own:=(o.q8 f).lX
 sB:=⟨pb,dbk,FD,F,D,M,_,rfl,h,J,R,qAi _,G,I,rfl⟩
 rb:=qAF _ _ _
 fr:=o.fr.trans f
 nL:=λx E=>by obtain⟨p,U,rfl⟩:=mem_map.1 E;exact (o.own p U).elim (λh=>nomatch h) id
 nF:=λx E=>zL o.fr.size (u x (zN _ E))
 ns:=⟨zL o.fr.size (u sb oL),λV=>by have:=ya o sb V;have:=u sb oL;omega⟩
end
section
open Go Go.Pt List
open Go.IntKind (wrap)
open Classical
section
variable {w w' w0 W:IK} {Y F F' S:IS} {L L':IW} {sb pb c i:Nat} {b b' br br':Bk} {r ri r':pg}
def SB.sbF(h:SB w Y sb F c b):sb∉F:=by obtain⟨pb,dbk,FD,J,D,M,Fo,rfl,E,G,u,R,U,V⟩:=h;exact λI=>(zD.1 I).elim u E.out
def SB.pw{o:Obj}(h:SB w Y sb F c b)(u:w.heap[sb]?=some o)(s:pd F w F' w'):w'.heap[sb]?=some o:=by rw[s.fr.block sb (eO u) h.sbF];exact u
def RB.yp(h:RB S w r b):RB S w r b.yp:=⟨h.acc,h.mg,h.lL,h.due,h.nY,h.oi,h.iq,h.told,h.gone⟩
def RB.kA(h:RB S w r b)(n:Int):RB S w (r.1,r.2.1,r.2.2.1,r.2.2.2.1,r.2.2.2.2.1,r.2.2.2.2.2.1,r.2.2.2.2.2.2.1,n,true,r.2.2.2.2.2.2.2.2.2) (b.kA n):=
 ⟨h.acc,h.mg,h.lL,h.due,h.nY,h.oi,h.iq,⟨rfl,rfl⟩,h.gone⟩
structure qo (w0 W:IK) (Y:IS) (L:IW) (sb pb:Nat) (F:IS) (b:Bk) (ri:pg):Prop where
 st:∃ g,pL w0 W Y L sb F 600 (b.gs g) b ri
 cell:W.heap[sb]?=some (.c #[pP pb] A0)
def qo.q8(h:qo w0 W Y L sb pb F b ri)(f:Fr [] W w'):qo w0 w' Y L sb pb F b ri:=⟨h.st.imp λg h=>h.q8 f,by rw[f.block sb (eO h.cell) λh=>nomatch h];exact h.cell⟩
def qo.J2(h:qo w0 W Y L sb pb F b ri)(o:ef (fH L) W w' L'):qo w0 w' Y L' sb pb F b ri:=⟨h.st.imp λg h=>h.J2 o,h.st.elim λg u=>o.mT h.cell u.ns.2⟩
def qo.sub(h:qo w0 W Y L sb pb F b ri)(u:L'.Sublist L):qo w0 W Y L' sb pb F b ri:=⟨h.st.imp λg h=>h.sub u,h.cell⟩
def qo.own(h:qo w0 W Y L sb pb F b ri):ef (fH L) W W L:=h.st.elim λg h=>h.own
def qo.fr(h:qo w0 W Y L sb pb F b ri):Fr [] w0 W:=h.st.elim λg h=>h.fr
def pu.less{dbk u:Nat}{FD:IS}{D:dV}{M:eH}{Q:I1}{Fo:kM}(h:pu w Y sb dbk pb FD F D M c Q Fo)(E:u<=c):pu w Y sb dbk pb FD F D M u Q Fo:=⟨h.tw,⟨h.st.J2,h.st.J3,zL E h.st.many⟩,h.cell,h.out⟩
def qo.start{dbk:Nat}{FD:IS}{D:dV}(o:ef [] w0 w L)(h:pu w' (fH L++Y) sb dbk pb FD F D (kO 900) ((900-2)-eZ (900-2)) (900,1) λ_=>([],[]))(u:HG∉FD)(E:sb∉FD)(f:Fr [] w w')(G:∀b∈sb::(FD++F),w.heap.size<=b): ∃g,qo w0 w' Y L sb pb (FD++F) (zg (900,1,g)) AC:=
 ⟨_,⟨_,pL.start o (h.less (by have e:eZ (900-2)=8:=rfl;omega)) oM oM u E f G⟩,h.cell⟩
def Bt.room{n:Nat}(h:Bt n i b)(hi:i<=60):3*(b.size+3)+1<=600/\3*b.size+1<=600/\b.cm.2.1<=100:=by
 have:=h.size;have:=h.yp;exact⟨oJ,oJ,oJ⟩
def Bt.Cg(h:Bt 900 i b)(hi:i<=60):600+eZ b.cm.1+b.size+2<=b.cm.1/\eZ b.cm.1+b.size<=600:=by
 have:=h.size;have e:eZ 900=8:=rfl;rw[h.blocks,e];exact⟨oJ,oJ⟩
end
end
section
open Go Go.Pt List
open Go.IntKind (wrap)
open Classical
attribute [local irreducible] ld dX jg oe jF fP st new idx jG jR fM jY jz mM iH nn call eJ inv run fG js join loop held ext kz eC nK nE nQ IntKind.wrap
abbrev BOT:IM:=34
def qpB{d:HL jB}{l:List (HL jB)}:((jE d l).length<l.length)↔∃x∈l,lM x=lM d:=by have h:=length_filter_lt_length_iff_exists (l:=l) (p:=λx=>decide (lM x≠lM d));unfold jE;rw[h];simp
section
variable {w0 w w':IK} {Y F:IS} {L:IW} {sb pb i:Nat} {b:Bk} {ri:pg} {o:Ov}
def qxr{K:pg×Bool->WP}(h:qo w0 w Y L sb pb F b ri)(ho:sH o)(ht:Bt 900 i b)(hi:i<=60)(I:∀F' r' w',qo w0 w' Y L sb pb F' (qC b o) r'->K (r',true) w'): cW 33 [dS sb,dS pb,Il gE ri,.agg (uR o).toArray] [.agg gE,.one .bool] w K:=by
 refine qhF ?_;obtain⟨q1,q2,q3⟩:=ht.room hi;have af:b.size<=100000:=oJ;have ap:=ht.Cg hi;refine oB h.own λr1 w1 _ _ o1=>oB o1 λr3 w2 _ _ o1=>oB o1 λr5 w3 _ _ o1=>?_;have h:=h.J2 o1;have hd:(0:Int)<=sY o/\sY o<=255:=ho.d;have hm:Int.tmod (sY o) 8=sY o%8:=Int.tmod_eq_emod_of_nonneg hd.1;refine IQ h.own 1 rfl (sY o) ?_;rw[hm];unfold qC at I;have g:=(Fr.refl [] w3).drew;obtain⟨⟨gh,h⟩,hp⟩:=h;have cf:∀ {w4 w5:IK},w4.heap[sb]?=some (.c #[pP pb] A0)->Fr [] w4 w5->w5.heap[sb]?=some (.c #[pP pb] A0):=λh f=>by rw[f.block sb (eO h) λh=>nomatch h];exact h
 have R:∀ {F':IS} {w4:IK} {r':pg} {bs br:Bk} {L2:IW} {cs:Array IL} {T5:IM},pL w0 w4 Y ((r5,.c cs T5)::L2) sb F' 600 bs br r'->w4.heap[sb]?=some (.c #[pP pb] A0)->(∃g,bs=br.gs g)->L.Sublist L2->cs.size=10->(∀F' r' w',qo w0 w' Y L sb pb F' br r'->K (r',true) w')->Pt.st (dk r5) (HL.mk gE r') w4 λw5=>dX gE (dk r5) w5 λt=>K (t,true) w5:=λ{F' w4 r' bs br L2 cs T5} h hp E hs hz I=>by obtain⟨g,rfl⟩:=E;exact h.own.st' 0 rfl _ (mR (by rw[hz];rfl)) rfl (by rw[hz];exact zM _) λw5 o5 f5=>IR o5 0 rfl r' (I F' r' w5 ⟨⟨g,(h.J2 o5).sub (hs.cons _)⟩,o5.mT hp h.ns.2⟩)
 have E:=h.q8 g;have ac:=cf hp g;have U:L.Sublist ([(r3,Obj.cells (uR o).toArray 81 (0,0)),(r1,Obj.cells (HL.mk gE ri).toArray BOT (0,0))]++L):=.cons _ (.cons _ (.refl _));refine eB (λG=>?_) λG=>?_;rw[iP (yP.1 G)] at I;refine IR E.own 2 rfl ri (IR E.own 1 rfl (A1 o) (IR E.own 1 rfl (A1 o) (quE E.rb af E.lt λr' w4 h4 V=>?_)));have h:=E.ou V h4;exact iS (h.own.cells 1) (quK h.sB q2 ho.a λF5 w5 h5 s5=>R (h.nt h5 s5) (h.sB.pw (cf ac V) s5) ⟨gh,rfl⟩ U rfl I);rw[iN (zR.1 G)] at I;refine eB (λG=>?_) λG=>?_;rw[iP (yP.1 G)] at I;refine IR E.own 2 rfl ri (rP (E.own.at (i:=1) rfl) (tg (wD o)) rfl rfl (rP (E.own.at (i:=1) rfl) (tg (wD o)) rfl rfl (quH E.rb af E.lt λr' w4 h4 V=>?_)));have h:=E.ou V h4;exact iS (h.own.cells 1) (quM h.sB q1 ho.k λF5 w5 h5 s5=>R (h.nt h5 s5) (h.sB.pw (cf ac V) s5) ⟨gh,rfl⟩ U rfl I);rw[iN (zR.1 G)] at I;refine eB (λG=>?_) λG=>?_;rw[iP (yP.1 G)] at I;refine IR E.own 2 rfl ri (IR E.own 1 rfl (uq o) (IQ E.own 1 rfl (Ar o) (IR E.own 1 rfl (uq o) (IQ E.own 1 rfl (Ar o) (quI E.rb af E.lt λr' w4 h4 V=>?_)))));have h:=E.ou V h4;exact kV (h.own.cell 1) (h.own.cells 1) (quN h.sB q2 ho.i ho.s λF5 w5 h5 s5=>R (h.nt h5 s5) (h.sB.pw (cf ac V) s5) ⟨gh,rfl⟩ U rfl I);rw[iN (zR.1 G)] at I;refine eB (λG=>?_) λG=>?_;rw[iP (yP.1 G)] at I;refine IR E.own 2 rfl ri (IR E.own 1 rfl (rz o) (IR E.own 1 rfl (rz o) (quF (d:=rz o) E.rb af E.lt λr' w4 h4 V=>?_)));have h:=E.ou V h4;exact iS (h.own.cells 1) (EI h.sB q2 ho.u λF5 w5 h5 s5=>R (h.nt h5 s5) (h.sB.pw (cf ac V) s5) ⟨gh,rfl⟩ U rfl I);rw[iN (zR.1 G)] at I;refine eB (λG=>?_) λG=>?_;rw[iP (yP.1 G)] at I;refine IR h.own 2 rfl ri (IR h.own 1 rfl (rz o) (qlH (d:=rz o) h.rb af h.lt λr' w4 h4 V=>?_));have h:=h.ou V h4;have hp:=cf hp V;refine oB h.own λaQ w5 _ _ o5=>o5.st' 0 rfl _ (mR rfl) rfl (zM _) λw6 o6 _=>?_;have h':=h.J2 o6;have hp:=o6.mT hp h.ns.2;refine uu (if ∃x∈b.due,lM x=lM (rz o) then 0 else 5:Int) w6 (λM hM=>?_) ?_;refine eB (λG=>?_) λG=>?_;rw[iP (qpB.1 (zC G))] at hM;exact hM;rw[iN λh=>zB G (qpB.2 h)] at hM;exact hM;have g6:=(Fr.refl [] w6).drew;have h:=h'.q8 g6;have hp:=cf hp g6;refine IR h.own 0 rfl r' (IR h.own 2 rfl (rz o) (qsT (d2:=(rz o).2.2.1) (d3:=(rz o).2.2.2) h.sB q2 ho.u (λan F7 w7 h7 s7=>?_) λak w7 f7=>?_));have an:∃x∈b.due,lM x=lM (rz o):=an;rw[iP an];have J:=h.nt h7 s7;exact iS (J.own.cells 0) (R (J.sub (.cons _ (.refl _))) (h.sB.pw hp s7) ⟨gh,rfl⟩ U rfl I);have ak:∀x∈b.due,lM x≠lM (rz o):=ak;rw[iN λ⟨x,hx,e⟩=>ak x hx e];have e:=qs1 (b:=b) (d:=rz o) ak;have J:=h.q8 f7;rw[e] at J I;exact iS (J.own.cells 0) (R (J.sub (.cons _ (.refl _))) (cf hp f7) ⟨gh,rfl⟩ U rfl I);rw[iN (zR.1 G)] at I;refine eB (λG=>?_) λG=>?_;rw[iP (yP.1 G)] at I;refine IR E.own 2 rfl ri (IR E.own 1 rfl (uq o) (IR E.own 1 rfl (AH o) (IR E.own 1 rfl (uq o) (IR E.own 1 rfl (AH o) (quG E.rb af E.lt λr' w4 h4 V=>?_)))));have h:=E.ou V h4;exact kV (h.own.cells 1) (h.own.cells 1) (quL h.sB q2 ho.i ho.r λF5 w5 h5 s5=>R (h.nt h5 s5) (h.sB.pw (cf ac V) s5) ⟨gh,rfl⟩ U rfl I);rw[iN (zR.1 G)] at I;refine eB (λG=>?_) λG=>?_;rw[iP (yP.1 G)] at I;refine IQ h.own 1 rfl (vc o) (h.own.st' 2 rfl (HL.mk gE (ri.1,ri.2.1,ri.2.2.1,ri.2.2.2.1,ri.2.2.2.2.1,ri.2.2.2.2.2.1,ri.2.2.2.2.2.2.1,vc o,ri.2.2.2.2.2.2.2.2.1,ri.2.2.2.2.2.2.2.2.2)).toArray rfl rfl (zO rfl) λw4 o4 _=>o4.st' 2 rfl (HL.mk gE (ri.1,ri.2.1,ri.2.2.1,ri.2.2.2.1,ri.2.2.2.2.1,ri.2.2.2.2.2.1,ri.2.2.2.2.2.2.1,vc o,true,ri.2.2.2.2.2.2.2.2.2)).toArray rfl rfl (zO rfl) λw5 o5 _=>?_);have g5:=(Fr.refl [] w5).drew;have hp:=cf (o5.mT hp h.ns.2) g5;have h:=(h.J2 o5).q8 g5;have h:=h.ou (.refl _ _) (h.rb.kA (vc o));refine IR h.own 2 rfl (ri.1,ri.2.1,ri.2.2.1,ri.2.2.2.1,ri.2.2.2.2.1,ri.2.2.2.2.2.1,ri.2.2.2.2.2.2.1,vc o,true,ri.2.2.2.2.2.2.2.2.2) (IQ h.own 1 rfl (vc o) (qsU h.sB q2 λF6 w6 h6 s6=>?_));have J:=h.nt h6 s6;exact iS (J.own.cells 2) (R J (h.sB.pw hp s6) ⟨gh,rfl⟩ (.cons _ (.cons _ (.refl _))) rfl I);rw[iN (zR.1 G)] at I;refine IR E.own 2 rfl ri (SB.oz E.sB ac q3 ap.1 ap.2 λF5 w5 g' h5 s5=>?_);have J:=E.nt h5 s5;exact iS (J.own.cells 2) (R (J.ou (.refl _ _) J.rb.yp) (E.sB.pw ac s5) ⟨g',rfl⟩ U rfl I)
end
end
section
open Go Go.Pt List
open Go.IntKind (wrap)
open Classical
variable {K:Option Addr×pg×Bool->WP}
def ovZ:Ov:=(0,BX,kpZ,(0,0),0,(0,0,0,0),vo,0)
def qAB:((prog.info? 81).bind (·.zero)).map (λz=>z.cells.toList)=some (uR ovZ):=by kernel_rfl
attribute [local irreducible] ld dX jg oe jF fP st new idx jG jR fM jY jz mM iH nn call eJ inv run fG js join loop held ext kz eC nK nE nQ IntKind.wrap
abbrev oBk (r:pg):Obj:=Ik gE r BOT
section
variable {w w':IK} {s:Sl} {l:List Ov}
def quW(G:Hv w)(I:eI uR 52 [] w s l)(J:∀o∈l,sH o)(hl:l.length<=60)(kk:∀sb pb F q ri w',q.1=900->q.2.1=1->qo w w' [] [] sb pb F (pQ q l) ri->K (pW sb,ri,true) w'): cW 9 [s.v] [.one .ptr,.agg gE,.one .bool] w K:=by refine qhh ?_;have R:=I.1;refine oB (oE [] w) λU w1 e1 f1 o=>?_;have l1:=eO (o.at (i:=0) rfl);refine qp1 (n:=900) [U] (λb hb=>by rw[zE.1 hb];exact l1) (λhm=>by have:=zE.1 hm;have:=G.lt;omega) (G.q8 o.fr) oM oM λsb pb dbk FD F D w3 V hM hg hd f3 n3=>Io rfl ?_;obtain⟨g,h⟩:=qo.start (Y:=[]) o V hg hd f3 n3;clear o V hM;refine oB h.own λr7 w4 _ _ o=>?_;have h:=h.J2 o;clear o;have hz:=qAB;refine jv (λx W=>∃i:Nat,∃F ri,x=i/\i<=l.length/\qo w W [] [(r7,oBk ri),(U,oBk AC)] sb pb F (pQ (900,1,g) (l.take i)) ri) (λx _=>l.length-x.toNat) ⟨0,_,AC,rfl,yX _,h⟩ ?_;clear h;rintro x W ⟨i,F,ri,rfl,hi,h⟩ X hX;have ht:=FQ (q:=(900,1,g)) rfl i l hi J;refine eB (λE=>?_) λE=>?_;have u:i<l.length:=(by have:=zC E;omega);have hx:=zA u;refine eI.iI (I.q8 h.fr) qub i rfl hx (oI h.own hz λaq w5 _ o=>qu (qub _) (o.st' 0 rfl _ (mR rfl) rfl (zM _) λw6 o _=>?_));have h:=h.J2 o;clear o;refine IR h.own 1 rfl ri (rP (h.own.at (i:=0) rfl) (uR l[i]) rfl rfl (qxr h (J _ (zW u)) ht oJ λF' r' w7 h=>?_));refine oB h.own λar w8 _ _ o=>o.st' 0 rfl _ (mR rfl) rfl (zM _) λw9 o _=>Io rfl (IR o 0 rfl r' (o.st' 2 rfl _ (mR rfl) rfl (zM _) λwa o _=>?_));have h:=h.J2 o;rw[gG _ oJ];refine hX _ _ ⟨i+1,F',r',rfl,u,?_⟩ oJ;rw[yG u,qne];exact h.sub (.cons _ (.cons _ (.refl _)));have u:i=l.length:=(by have:=zB E;omega);subst u;rw[vA] at h;have h:=h.q8 (Fr.refl [] W).drew;refine IR h.own 0 rfl ri (h.own.st' 1 rfl _ (mR rfl) rfl (zM _) λw5 o _=>IR o 1 rfl ri ?_);exact kk sb pb F (900,1,g) ri w5 rfl rfl ((h.J2 o).sub (nil_sublist _))
def qnw{K:Bool->WP}(J:Hv w)(R:∀w',Fr [] w w'->K true w'):cW 8 [] dp w K:=by refine qhi ?_;unfold qdE;refine qp1 (n:=40) [] (λ_ h=>nomatch h) (λh=>nomatch h) J oM oM λsb pb dbk FD F D w1 U hM V hd f1 n1=>?_;have hn:eZ (40-2)=1:=rfl;have h:=pL.start (Y:=[]) (oE [] w) U oJ oM V hd f1 n1;generalize ((40,1).1,(40,1).2,pb,D,m8 (kO 40))=q at h;have G:∀ {a b:Int},lQ a->lQ b->jX jB (a,b,0,0):=λha hb=>⟨Ep ha,Ep hb,qyV,qyV⟩;refine iC (λx w'=>x=false/\∃F br,pL w w' [] [] sb F ((40-2)-eZ (40-2)) (((zg q).jS (9,2,0,0)).jS (5,3,0,0)) br AC) ?_ ?_;refine Io rfl (EI h.sB (by show 3*0+1<=_;omega) (G ⟨oM,oM⟩ ⟨oM,oM⟩) λF2 w2 h2 s2=>Io rfl ?_);have u:=h.nt h2 s2;exact EI u.sB (by show 3*1+1<=_;omega) (G ⟨oM,oM⟩ ⟨oM,oM⟩) λI w3 h3 s3=>⟨rfl,I,_,u.nt h3 s3⟩;rintro x w3 ⟨rfl,I,br,h⟩;have e:pI (((zg q).jS (9,2,0,0)).jS (5,3,0,0)).due 9 1=[(5,3,0,0)]:=oK;refine Io rfl (qzc h.sB (Ep ⟨oM,oM⟩) (HV (HV .nil)) (by show 2<=_;omega) λs B w4 E f4 nB _=>?_);rw[e] at E;have hl:s.len=1:=E.len;refine Im (by rw[hl];rfl) (eI.rY (y:=(5,3,0,0)) (E.jQ D3 (S:=[]) λ_ _ h=>nomatch h) 0 rfl rfl rfl rfl ?_);exact eqS (t:=Et) 3 oM oK oK (R w4 (h.fr.trans f4))
end
end
section
open Go Go.Pt List
open Go.IntKind (wrap)
open Classical
attribute [local irreducible] ld dX jg oe jF fP st new idx jG jR fM jY jz mM iH nn call eJ inv run fG js join loop held ext kz eC nK nE nQ IntKind.wrap
abbrev sV:List Cell:=[.w,.w,.w,.w,.bool,.b,.b]
section
variable {w w':IK} {s:Sl} {l:List Ov}
end
section
section
variable {w w':IK} {s:Sl} {l:List Ov}
def qrh{a:HL sV}{K:Bool->WP}(hv:Hv w)(hr:eI uR 52 [] w s l)(ho:∀o∈l,sH o)(ha:jX sV a)(kk:∀w',Fr [] w w'->K true w'): cW 5 [s.v,Il sV a] dp w K:=by
 refine qe7 ?_;have b4:=hr.1;obtain⟨i0,i1,frm,to,down,side,aa⟩:=a;obtain⟨a1,a2,a3,a4,-,-,a7⟩:=ha;have a7:@LE.le Int _ 0 aa/\@LE.le Int _ aa 255:=a7;have ba:@Eq Int (wrap .i64 aa) aa:=gG _ oJ;refine oB (oE [] w) λr1 w2 e1 f2 o=>eB (λ_=>qnw (hv.q8 f2) λw' f=>kk w' (f2.trans f)) λhc=>?_;have hl:l.length<=60:=(by have:=zB hc;omega);refine quW (hv.q8 f2) (hr.q8 f2) ho hl λsb pb F q ri w3 q1 q2 h=>?_;have ht:=FQ q2 l.length l (zM _) ho;rw[vA] at ht;have bd:=ht.size;have o:=o.q8 h.fr;refine oB o λr7 w8 e7 f8 o=>o.st' 0 rfl _ (mR rfl) rfl (zM _) λw9 o f9=>Io rfl ?_;have h:=h.q8 (f8.J0 f9 λx hx=>.inr (by rw[zE.1 hx,e7];exact zM _));obtain⟨⟨g,h⟩,_⟩:=h;generalize pQ q l=b at h ht bd;refine IR o 0 rfl ri (IR o 1 rfl (i0,i1) (IQ o 1 rfl frm (IQ o 1 rfl to (IQ o 1 rfl down (qxO h.rb oJ λae bf ag an aR nB=>?_)))));have bg:=h.sB.q8 aR;have cy:r1<w9.heap.size:=eO (o.at (i:=1) rfl);have lB:∀x∈bf,x<ag.heap.size:=an.lt;have o:=o.q8 aR;refine oB (oE [] ag) λaz wa _ _ p=>p.st' 0 rfl _ (mR rfl) rfl (zM _) λwb p _=>oB p λV wc _ _ p=>oB p λG wd _ _ p=>p.st' 1 rfl _ (mR rfl) rfl (zM _) λwe p _=>p.st' 0 rfl _ (mR rfl) rfl (zM _) λcA p _=>?_;have o:=o.q8 p.fr;refine IR o 1 rfl (i0,i1) (IQ o 1 rfl frm (IQ o 1 rfl to (IQ o 1 rfl down (qxP λbO cB hV aT=>?_))));have o:=o.q8 aT;have an:=an.q8 p.fr;have p:=p.q8 aT;obtain⟨lb,bh⟩:∃lb:List IL,bO=.func (.func DW) #[] lb.toArray:=by obtain⟨r1,r3,r5,r7,r9,_,_,_,_,_,e,_⟩:=hV;exact⟨[_,_,_,_,_],e⟩
 refine ef.kz p bh oK λD lk R B J E E0 ac el eD aJ h' hy=>?_;have bP:SB ac [lk,V,G] sb F 600 (b.gs g):=(bg.J2 h').y8 λx hx=>zH _ (by simp only[zG,xY,or_false] at hx;rcases hx with rfl|rfl|rfl<;>simp[fH]);obtain⟨bj,aU⟩:∃T,ac.heap[az]?=some (.c #[ae.v] T):=⟨_,h'.at (i:=4) rfl⟩;obtain⟨aK,aV⟩:∃T,ac.heap[V]?=some (.c #[.i 0] T):=⟨_,h'.at (i:=3) rfl⟩;obtain⟨aA,aW⟩:∃T,ac.heap[G]?=some (.c #[.bool true] T):=⟨_,h'.at (i:=2) rfl⟩;obtain⟨T1,aX⟩:∃T,ac.heap[r1]?=some (Ik sV (i0,i1,frm,to,down,side,aa) T):=⟨_,(o.q8 aJ).at (i:=1) rfl⟩;have ql:ac.heap[lk]?=some R:=h'.at (i:=0) rfl;have qD:ac.heap[D]?=some (.deferred (some [])):=h'.at (i:=1) rfl;have cD:Fr [] ag ac:=h'.fr;have bk:[lk,D,G,V,az].Nodup:=h'.nodup;simp only[nodup_cons,zG,xY,or_false,not_or,not_false_eq_true,nodup_nil,and_true] at bk;obtain⟨⟨bQ,ak,al,bl⟩,⟨bm,bn,cd⟩,⟨aB,aY⟩,aZ⟩:=bk;have cE:w9.heap.size<=ag.heap.size:=aR.size;have zw:w.heap.size<=ag.heap.size:=(by have:=f2.size;have:=o.fr.size;have:=h.fr.size;have:=f8.size;have:=f9.size;omega);have cF:ag.heap.size<=lk:=(h'.own _ (yF (i:=0) rfl)).resolve_left λh=>nomatch h;have cG:ag.heap.size<=D:=(h'.own _ (yF (i:=1) rfl)).resolve_left λh=>nomatch h;have ce:ag.heap.size<=G:=(h'.own _ (yF (i:=2) rfl)).resolve_left λh=>nomatch h;have cf:ag.heap.size<=V:=(h'.own _ (yF (i:=3) rfl)).resolve_left λh=>nomatch h;have bR:Fr [] w ac:=o.fr.trans aJ;have l1:r1<ag.heap.size:=oJ;clear h' p o h bg;have gl:=eO ql;have gD:=eO qD;have bo:=eO aU;have g1:=eO aX;have an:fj mG 10 ac ae (ji (b.gs g).iq (i0,i1) frm to down) bf:=(an.q8 aT).q8 aJ;have aC:ae.len=(ji (b.gs g).iq (i0,i1) frm to down).length:=an.len;have bS:eI mG 10 [lk,V,G] ac ae (ji (b.gs g).iq (i0,i1) frm to down):=an.jQ vU λx hx hm=>by
  have:=lB x hx;simp only[zG,xY,or_false] at hm;omega
 have cI:(ji (b.gs g).iq (i0,i1) frm to down).length<=90000:=by
  have:=qxk (l:=b.iq) (i:=(i0,i1)) (frm:=frm) (to:=to) (down:=down);have:b.iq.length<=b.size:=(by unfold Bk.size;omega);show (ji b.iq (i0,i1) frm to down).length<=_;omega
 have ad:∀ {Z:IK} {u y:Nat} {o v:Obj},u<Z.heap.size->u≠y->Z.heap[y]?=some v->(Z.putObj u o).heap[y]?=some v:=λ{Z u y o v} hl hy hu=>((oQ hl o).block y (eO hu) λhm=>hy (zE.1 hm).symm).trans hu;have a0:∀ {Z:IK} {u:Nat} {o:Obj},u<Z.heap.size->(Z.putObj u o).heap[u]?=some o:=λ{Z u o} hl=>(pf Z u o u hl).trans (iP rfl);have av:∀ {Z Z':IK} {x:Nat},x∈[lk,V,G]->Fr [x] Z Z'->Fr [lk,V,G] Z Z':=λhx f=>f.mono λy hy _=>by rw[zE.1 hy];exact hx
 have ml:lk∈[lk,V,G]:=oL;have bT:V∈[lk,V,G]:=oL;have bU:G∈[lk,V,G]:=oL;have a5:∀ {x:Nat},x≠lk->x≠V->x≠G->x∉[lk,V,G]:=λh1 h2 h3 hm=>by simp only[zG,xY,or_false] at hm;rcases hm with h|h|h;exact h1 h;exact h2 h;exact h3 h
 have bp:=a5 (Ne.symm bl) (Ne.symm aZ) (Ne.symm aY);have nD:=a5 (Ne.symm bQ) bn bm;have n1:r1∉[lk,V,G]:=a5 oJ oJ oJ;have bq:∀ {Z:IK} {X:Obj} {n:Nat},Z.heap[lk]?=some X->Z.heap[V]?=some (.c #[.i n] aK)->Z.heap[G]?=some (.c #[.bool true] aA)->Fr [lk,V,G] ac Z->(n:Int)=(if aa<(ae.len:Int) then aa else (ae.len:Int))->∀E1:Obj,
   cW 8 [] dp (Z.putObj lk E1) λ(b:Bool) w4=>cond b (Pt.ld .bool (dk G) w4 λb=>cond b (Pt.ld .i (dk V) w4 λx=>Pt.ld .slice (dk az) w4 λs=>Pt.ld .b (dk r1 6) w4 λy=>Pt.eC D w4 λw5=>K (x==if wrap .i64 y<(s.len:Int) then wrap .i64 y else (s.len:Int)) w5) (Pt.eC D w4 λw5=>K false w5)) (Pt.eC D w4 λw5=>K false w5):=λ{Z X n} y1 y2 y3 y4 hn E1=>by
  have gZ:=eO y1;have fZ:Fr [lk,V,G] ac (Z.putObj lk E1):=y4.trans (av ml (oQ gZ E1));have ah:=ad (o:=E1) gZ al y2;have ao:=ad (o:=E1) gZ ak y3;have ay:(Z.putObj lk E1).heap[az]?=some (.c #[ae.v] bj):=(by rw[fZ.block _ bo bp];exact aU);have x1:(Z.putObj lk E1).heap[r1]?=some (Ik sV (i0,i1,frm,to,down,side,aa) T1):=(by rw[fZ.block _ g1 n1];exact aX);have xD:(Z.putObj lk E1).heap[D]?=some (.deferred (some [])):=(by rw[fZ.block _ gD nD];exact qD);have fw:Fr [] w (Z.putObj lk E1):=bR.J0 fZ λx hx=>.inr (by simp only[zG,xY,or_false] at hx;rcases hx with rfl|rfl|rfl<;>omega);generalize Z.putObj lk E1=Z1 at ah ao ay x1 xD fw;refine qnw (hv.q8 fw) λw4 f4=>Im rfl ?_;have ai:∀ {y:Nat} {v:Obj},Z1.heap[y]?=some v->w4.heap[y]?=some v:=λhv=>by rw[f4.block _ (eO hv) λh=>nomatch h];exact hv
  refine iv (ai ao) true rfl (Im rfl (iv (ai ah) (n:Int) rfl (iv (ai ay) ae rfl (iv (ai x1) aa rfl (EZ (ai xD) λw5 f5=>?_)))));rw[ba,<- hn,beq_self_eq_true];exact kk w5 ((fw.trans f4).J0 f5 λx hx=>.inr (by rw[zE.1 hx];omega))
 refine qv5 (Y:=[]) (Yc:=[lk,V,G]) (I:=λn Z=>Z.heap[lk]?=some R/\Z.heap[V]?=some (.c #[.i n] aK)/\Z.heap[G]?=some (.c #[.bool true] aA)/\Fr [lk,V,G] ac Z/\@LE.le Int _ n aa) (E:=λZ=>∃n:Nat,n<(ji (b.gs g).iq (i0,i1) frm to down).length/\@Eq Int n aa/\Z.heap[lk]?=some (J 0)/\Z.heap[V]?=some (.c #[.i n] aK)/\Z.heap[G]?=some (.c #[.bool true] aA)/\Fr [lk,V,G] ac Z) bh (hV.q8 aJ) bP ⟨a1,a2⟩ (qm a3) (qm a4) (by show b.size<=_;omega)
  ⟨λn Z Z' U ⟨y1,y2,y3,y4,y5⟩ f hU=>?_,λZ Z' U ⟨n,y0,y5,y1,y2,y3,y4⟩ f hU=>?_,λn hn Z K' ⟨y1,y2,y3,y4,y5⟩ bd kT kE=>?_⟩ ⟨ql,aV,aW,.refl _ _,a7.1⟩ (λZ ⟨y1,y2,y3,y4,y5⟩=>.inl ⟨y1,bq y1 y2 y3 y4 ?_ E0⟩) λZ ⟨n,y0,y5,y1,y2,y3,y4⟩=>.inr ⟨0,_,rfl,y1,bq y1 y2 y3 y4 ?_ _⟩
 have nU:∀x,x<ac.heap.size->x∉U:=λx hx hm=>by have:=hU x hm;omega
 exact⟨by rw[f.block _ (eO y1) (nU _ gl)];exact y1,by rw[f.block _ (eO y2) (nU _ (eO aV))];exact y2,by rw[f.block _ (eO y3) (nU _ (eO aW))];exact y3,y4.J0 f λx hx=>.inr (hU x hx),y5⟩;have nU:∀x,x<ac.heap.size->x∉U:=λx hx hm=>by have:=hU x hm;omega
 exact⟨n,y0,y5,by rw[f.block _ (eO y1) (nU _ gl)];exact y1,by rw[f.block _ (eO y2) (nU _ (eO aV))];exact y2,by rw[f.block _ (eO y3) (nU _ (eO aW))];exact y3,y4.J0 f λx hx=>.inr (hU x hx)⟩;generalize hr:(ji (b.gs g).iq (i0,i1) frm to down)[n]=r;have bv:=zA hn;rw[hr] at bv;refine hy r Z K' y1 (oB (oE [] Z) λbx za _ fa o=>o.st' 0 rfl _ (mR rfl) rfl (zM _) λzb o _=>?_);have bz:Fr [] Z zb:=o.fr;have ai:∀ {y:Nat} {v:Obj},Z.heap[y]?=some v->zb.heap[y]?=some v:=λhv=>by rw[bz.block _ (eO hv) λh=>nomatch h];exact hv
 have yl:=ai y1;have aE:=eO yl;have bZ:lk≠bx:=λe=>by
  have h1:=(o.own _ (yF (i:=0) rfl)).resolve_left λh=>nomatch h
  have:=eO y1;dsimp only at h1;omega
 have cP:G≠bx:=λe=>by
  have h1:=(o.own _ (yF (i:=0) rfl)).resolve_left λh=>nomatch h
  have:=eO y3;dsimp only at h1;omega
 refine⟨yl,?_⟩;have fz:Fr [lk,V,G] Z (zb.putObj lk B):=(bz.mono λ_ h _=>nomatch h).trans (av ml (oQ aE B));have xl:(zb.putObj lk B).heap[lk]?=some B:=a0 aE;have ah:=ad (o:=B) aE al (ai y2);have ao:=ad (o:=B) aE ak (ai y3);have bA:=ad (o:=B) aE bZ (o.at (i:=0) rfl);have aM:=y4.trans fz;have ay:(zb.putObj lk B).heap[az]?=some (.c #[ae.v] bj):=(by rw[aM.block _ bo bp];exact aU);have x1:(zb.putObj lk B).heap[r1]?=some (Ik sV (i0,i1,frm,to,down,side,aa) T1):=(by rw[aM.block _ g1 n1];exact aX);have bB:eI mG 10 [lk,V,G] (zb.putObj lk B) ae (ji (b.gs g).iq (i0,i1) frm to down):=bS.j1 aM λx hx=>.inl hx;generalize zb.putObj lk B=Zb at fz xl ah ao bA ay x1 bB aM⊢;refine iv ah (n:Int) rfl (iv x1 aa rfl ?_);rw[ba];have aN:=eO xl;refine eB (λhc=>?_) λhc=>?_;have fe:=fz.trans (av ml (oQ aN (J 0)));exact⟨xl,kE _ fe ⟨n,hn,yP.1 hc,a0 aN,ad aN al ah,ad aN ak ao,y4.trans fe⟩⟩;have cQ:@LT.lt Int _ n aa:=by
  have:=zR.1 hc;have h5:@LE.le Int _ n aa:=y5;omega
 have gd:=(Fr.refl [] Zb).drew;refine iC (λ_ Z1=>Z1.heap[G]?=some (.c #[.bool true] aA)/\Fr [G] Zb Z1) (iv (w:=Zb.drew) ao true rfl (Im rfl (iv (w:=Zb.drew) ah (n:Int) rfl (iv (w:=Zb.drew) ay ae rfl (Im (zZ oJ) ?_))))) ?_;refine wL (w:=Zb.drew) bA r rfl (iv (w:=Zb.drew) ay ae rfl (iv (w:=Zb.drew) ah (n:Int) rfl (eI.rY (w:=Zb.drew) (bB.q8 gd) n rfl bv rfl rfl ?_)));refine eqS (t:=zh) 4 oM oK oK (qH (w:=Zb.drew) ao #[.bool true] rfl rfl (zO rfl) λZ1 h1 f1=>⟨h1,(gd.mono λ_ h _=>nomatch h).trans f1⟩);rintro _ Z1 ⟨bD,a'⟩;have bE:Z1.heap[V]?=some (.c #[.i n] aK):=(by rw[a'.block _ (eO ah) λhm=>aB (zE.1 hm).symm];exact ah);have bF:Z1.heap[lk]?=some B:=(by rw[a'.block _ (eO xl) λhm=>ak (zE.1 hm)];exact xl);refine iv bE (n:Int) rfl (qH bE #[.i ((n+1:Nat):Int)] (by rw[gG _ oJ];rfl) rfl (zO rfl) λZ2 h2 f2=>?_);have cl:Z2.heap[lk]?=some B:=(by rw[f2.block _ (eO bF) λhm=>al (zE.1 hm)];exact bF);have b1:Z2.heap[G]?=some (.c #[.bool true] aA):=(by rw[f2.block _ (eO bD) λhm=>aB (zE.1 hm)];exact bD);have gc:=eO cl;have fe:Fr [lk,V,G] Z (Z2.putObj lk R):=((fz.trans (av bU a')).trans (av bT f2)).trans (av ml (oQ gc R));exact⟨cl,kT _ fe ⟨a0 gc,ad gc al h2,ad gc ak b1,y4.trans fe,by show ((n+1:Nat):Int)<=_;omega⟩⟩;rw[iN (by rw[aC];exact Int.not_lt.2 y5),aC];rw[iP (by rw[aC];exact Int.lt_of_le_of_lt (Int.le_of_eq y5.symm) (Int.ofNat_lt.2 y0))];exact y5
end
end
end
end Go.Proofs.YtpcmehldpoljfaaGreatDoor
