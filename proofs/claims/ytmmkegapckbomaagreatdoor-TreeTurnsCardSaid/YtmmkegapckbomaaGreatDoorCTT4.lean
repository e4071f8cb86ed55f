/- Texts PrI, NdA, PmC, PrJ, PrK, PrL, PrM, PmD, StA, PmE, PrN, PrQ, PmN, PmP, TrC, TrD, TrE, TrF, TrG, TrH, PrO, PmO, LwT, TrI, TrJ, TrL: contracts of the program's functions, one behind the other. Conditions: those that stand in each line. -/
import Derived.Test.YtmmkegapckbomaaGreatDoorCTT3
import Derived.Test.YtmmkegapckbomaaGreatDoorCTT2
import Derived.Test.YtmmkegapckbomaaGreatDoorCTT1
import Derived.Lib.Bytealg
import Derived.Lib.BytesEntry
import Derived.Laws.IdiomStrings
import Derived.Laws.BytesString
set_option linter.unusedVariables false
set_option linter.unusedSimpArgs false
section
namespace Go.Proofs.YtmmkegapckbomaaGreatDoor
open Go Go.Pt List
attribute [local irreducible] ld ldA ldV fld fldA newZ st new idx idxS idxA slc slcS slcP mkS chk nn call callV inv run runQ runU join loop held ext rng undefer s2a nxt ent IntKind.wrap
theorem qek{α:Type}{enc:α->List Value}{k:Nat}{P:Program}{S:List Nat}{w:World}{s:Sl}{l:List α}{tx e':TypeId}(h:Rds enc k S w s l)(y:∀x,(enc x).length=k)(z:∀x,∀u∈enc x,u.oneCell'=true)(C:P.underlying tx=some (.slice e')): Src P k tx s.v s.len (l.flatMap enc) w:=by
 obtain⟨a,len,cap⟩:=s;have A:=h.1;simp only at A;cases a with
 | none=>
  have:l=[]:=by rcases h.2.2 with h|⟨b,o,J,T,K,E,_⟩;exact h;cases E
  subst this;simp at A;subst A;exact .ofNil w C cap
 | some a=>
  refine .ofSlice w C a len cap _ (by rw[qbR y,A]) (h.cells y rfl) fun u G=>?_;obtain⟨x,_,I⟩:=yJ.1 G;exact z x u I
theorem qqf{S:List Nat}{w:World}{s src:Sl}{l ys:List Int}{B:List Nat}{K:Sl->WP}(h:BufU w s l B)(E:Rd S w src ys)(V:l.length+ys.length<=1000000)(I:∀z B' w',BufU w' z (l++ys) B'->Fr B w w'->(∀b∈B',b∈B\/w.heap.size<=b)->K z w'): Pt.run [Ty1.one Cell.slice] ((Builtin.append_ #[92,92] 92 #[s.v,src.v]).run Tryz.prog w) K:=by obtain⟨i,J,Q,A,C⟩:=qdG;have y:=E.1;refine Buf.appSrc (e:=37) h qaF (by kernel_rfl) J Q A rfl (qek (e':=37) E qaF (fun x u G=>by simp at G;subst G;rfl) (by kernel_rfl)) y (by rw[C];omega) (by omega) fun z B' w' R U n' _=>I z B' w' R U n'
theorem qbE{D:DiskM}(h:D.Ok)(n:Int):IsB (readV D n).1/\(readV D n).1.length<=512:=by
 have E:IsB (zs 512):=IsB.zs 512;unfold readV;split;exact⟨(fun x z=>by cases z),by simp⟩;split;exact⟨(fun x z=>by cases z),by simp⟩;split;rename_i b G;refine⟨?_,Nat.le_of_eq b.2⟩;have:∀l:List (Int×Blk),(∀x∈l,IsB x.2.1)->lastW n l=some b->IsB b.1:=by
  intro l;induction l with
  | nil=>intro _ h;cases h
  | cons x l ih=>
   intro C u;rw[lastW] at u;cases A:lastW n l with
   | some c=>rw[A] at u;exact ih (fun y I=>C y (zN _ I)) (by rw[A];exact u)
   | none=>
    rw[A] at u;dsimp only at u;split at u;cases u;exact C x (by simp);cases u
 exact this _ h.bytesW G;refine⟨?_,Nat.le_of_eq (D.safe.getD n.toNat .zero).2⟩;rw[yQ];cases J:D.safe[n.toNat]? with
 | none=>exact E
 | some b=>exact h.bytesS b (yE J)
theorem qmc{l:List Int}(h:IsB l)(n:Int):IsB (openV n l).2.1/\(openV n l).2.1.length<=l.length:=by
 have u:IsB ([]:List Int):=fun x y=>by cases y
 unfold openV;split;exact⟨u,by simp⟩;split;exact⟨u,by simp⟩;split;exact⟨u,by simp⟩;split;exact⟨u,by simp⟩;split;exact⟨u,by simp⟩;refine⟨(h.take _).drop _,?_⟩;rw[yB,yK];omega
abbrev MIT:TypeId:=200
theorem quO:Tryz.prog.underlying MIT=some (.map 37 3):=by kernel_rfl
theorem qvd:∀w,(zeroValue 3).run Tryz.prog w=.ok (.i 0) w:=fun w=>by kernel_rfl
def onesM (l:List Int):List (Int×Value):=l.map fun n=>(n,.i 1)
theorem qgx(n:Int):∀l:List Int,(n∈l->∃i,look n (onesM l)=some (i,.i 1))/\(n∉l->look n (onesM l)=none)
 | []=>⟨(fun h=>by cases h),fun _=>rfl⟩
 | a::l=>by
  obtain⟨A,C⟩:=qgx n l;simp only[onesM,xK,look];by_cases h:n=a;rw[if_pos h];exact⟨fun _=>⟨0,rfl⟩,fun E=>absurd (by rw[h];simp) E⟩;rw[if_neg h];refine⟨fun u=>?_,fun u=>?_⟩;rcases zG.1 u with e|u;exact absurd e h;obtain⟨i,z⟩:=A u;unfold onesM at z;exact⟨i+1,by rw[z];rfl⟩
  have:=C (fun y=>u (zN _ y))
  unfold onesM at this;rw[this];rfl
theorem qnn{w:World}{r:Nat}{lists:List Int}{n:Int}{K:Int->Prop}(h:MapS u32V w r (onesM lists))(k:∀x:Int,decide (x>0)=decide (n∈lists)->K x): runQ [Ty1.one .i] (fun w'=>(Instr.lookup MIT (.map (some r)) (.u n) false).run Tryz.prog w') w K:=by
 have:=qd7 (P:=Tryz.prog) quO qvd qb7 h.at n
 rw[qbL] at this;obtain⟨y,z⟩:=qgx n lists;by_cases hn:n∈lists;obtain⟨i,A⟩:=y hn;rw[A] at this;exact qaU (ts:=[Ty1.one .i]) (1:Int) this (k 1 (by simp[hn]));rw[z hn] at this;exact qaU (ts:=[Ty1.one .i]) (0:Int) this (k 0 (by simp[hn]))
theorem qmC{db:Option Addr}{sup:Sup}{sl u sn:Sl}{turn:Int}{over:Bool}{wk:List Value}(y:sup.2.length=27):splice (pgRaw db sup sl sn turn over wk) 29 [u.v]=pgRaw db sup u sn turn over wk:=by
 have h:=qa0 (db:=db) y
 have:=qa8 (A:=(Value.pointer db::supV sup.1 sup.2)) (X:=[sl.v]) (Y:=[u.v]) (Z:=sn.v::.i turn::.bool over::wk) rfl
 rw[h] at this;simpa[pgRaw] using this
theorem qmR{db:Option Addr}{sup:Sup}{sl sn u:Sl}{turn:Int}{over:Bool}{wk:List Value}(y:sup.2.length=27):splice (pgRaw db sup sl sn turn over wk) 30 [u.v]=pgRaw db sup sl u turn over wk:=by
 have h:((Value.pointer db::supV sup.1 sup.2)++([sl.v]:List Value)).length=30:=by rw[zF,qa0 y];rfl
 have:=qa8 (A:=(Value.pointer db::supV sup.1 sup.2)++([sl.v]:List Value)) (X:=[sn.v]) (Y:=[u.v]) (Z:=.i turn::.bool over::wk) rfl
 rw[h] at this;simpa[pgRaw] using this
theorem qh8{l:List Int}:U32 (first4 l):=by unfold first4 get4V;exact qb9 _ _ _
theorem qqx(l:List Int):U32 (parseV l).1:=by unfold parseV;split;constructor<;>decide;split;constructor<;>decide;split;exact qh8;constructor<;>decide
theorem qqJ(l:List Int):(parseV l).2.1.length<=123:=by unfold parseV;split;simp;split;simp;rename_i h;split;simp only[numsV,zK,length_range];omega;simp
structure Walk (w:World) (FD:List Nat) (pb r:Nat) (db:Option Addr) (sup:Sup) (turn:Int) (over:Bool) (wk:List Value) (a:Int) (lists named:List Int) (w':World) (sl sn:Sl) (B1 B2:List Nat):Prop where
 own:Own [pb] w w' [(pb,.cells (pgRaw db sup sl sn turn over wk) PGT (0,0))]
 b1:BufU w' sl lists B1
 b2:BufU w' sn named B2
 map:MapS u32V w' r (onesM lists)
 n1:∀ b∈B1,w.heap.size<=b/\b≠r/\b∉B2
 n2:∀ b∈B2,w.heap.size<=b/\b≠r
 nr:w.heap.size<=r
 at_:U32 a
 nodup:lists.Nodup
 range:∀ x∈lists,2<=x/\x<sup.2.getD 0 0
 len:named.length<=123*lists.length
theorem qtw{w:World}{pb dbk:Nat}{FD:List Nat}{D:DiskM}{sup:Sup}{turn:Int}{over:Bool}{wk:List Value}{K:Bool->WP}(hc:w.heap[pb]?=some (.cells (pgRaw (pW dbk) sup ⟨none,0,0⟩ ⟨none,0,0⟩ turn over wk) PGT (0,0)))(I:sup.2.length=27)(hw:wk.length=27)(hd:DiskAt w dbk FD D)(hD:D.Ok)(hv:Hv w)(a7:pb∉FD)(a8:pb≠HG)(bN:sup.2.getD 0 0<=4096)(a9:U32 (sup.2.getD 1 0))(bO:U32 (sup.2.getD 2 0))(Q:loadM D sup=none->∀w',Fr [pb] w w'->K false w')(hk:∀sl sn u named w',loadM D sup=some (u,named)->Own [pb] w w' [(pb,.cells (pgRaw (pW dbk) sup sl sn turn over wk) PGT (0,0))]->(∀G:List Nat,(∀b∈G,b<w.heap.size)->Rd G w' sl u/\Rd G w' sn named)->K true w'): cW 98 [.pointer (pW pb)] [.one .bool] w K:=by
 have bD:=qac hc;have ho:Own [pb] w w [(pb,.cells (pgRaw (pW dbk) sup ⟨none,0,0⟩ ⟨none,0,0⟩ turn over wk) PGT (0,0))]:=⟨by simpa using hc,by simp,.refl _ _,by simp⟩;refine qhu ?_;unfold qdU;refine Own.new' ho fun r w1 e1 f1 V=>?_;have al:MapS u32V w1 r (onesM []):=.empty (V.at (i:=0) rfl);have V:=V.sub (L':=[(pb,_)]) (List.Sublist.cons _ (List.Sublist.refl _));refine qae (Own.ld V 0 rfl (sup.2.getD 1 0) (qiu I 1 (by decide)) ?_);have aC:∀ {w':World},Fr [pb] w w'->DiskAt w' dbk FD D:=fun f=>hd.frame f fun b A=>by simp only[zE];rintro rfl;exact a7 A
 have half:∀ {w':World},Fr [pb] w w'->Hv w':=fun f=>hv.frame f (by simpa using fun e=>a8 e.symm);generalize a':(sup.2.getD 0 0).toNat+1=F0;have C:loadM D sup=match walkM D (sup.2.getD 0 0) F0 (sup.2.getD 1 0) [] [] with|none=>none|some x=>if namedB (sup.2.getD 0 0) x.1 0 x.2=true/\(x.2.length:Int)=sup.2.getD 2 0 then some x else none:=by rw[<- a'];rfl
 refine qah (fun a w'=>∃u named sl sn B1 B2 f,Walk w FD pb r (pW dbk) sup turn over wk a u named w' sl sn B1 B2/\f+u.length=F0/\walkM D (sup.2.getD 0 0) f a u named=walkM D (sup.2.getD 0 0) F0 (sup.2.getD 1 0) [] [])
  (fun a w'=>match w'.heap[r]? with|some (.map es _)=>F0-es.size|_=>0) ⟨[],[],⟨none,0,0⟩,⟨none,0,0⟩,[],[],F0,⟨V,.nil _ _ _,.nil _ _ _,al,by simp,by simp,by rw[e1];exact zM _,a9,.nil,by simp,by simp⟩,rfl,rfl⟩ ?_
 rintro a w2 ⟨u,named,sl,sn,B1,B2,f,H,hf,z⟩ X hX;have bE:u.length<F0:=by rcases qeg H.nodup H.range with h|h;omega;rw[h];simp;omega
 obtain⟨f,rfl⟩:∃g,f=g+1:=⟨f-1,by omega⟩;have aD:=H.own.fr;refine qaa (fun am=>?_) (fun am=>?_);have an:a≠0:=(by simpa using am);rw[walkM,if_neg an] at z;refine qaf (fun b w'=>b=decide (a<2\/a>=sup.2.getD 0 0\/a∈u)/\w'=w2) ?_ ?_;refine qaa (fun h=>⟨by rw[zZ (Or.inl (zC h))],rfl⟩) (fun h=>?_);have h1:=zB h;refine qae (Own.ld H.own 0 rfl (sup.2.getD 0 0) (qiu I 0 (by decide)) ?_);refine qaa (fun h=>⟨by rw[zZ (Or.inr (Or.inl (zC h)))],rfl⟩) (fun h=>?_);have R:=zB h;refine qnn H.map fun x hx=>⟨?_,rfl⟩;rw[hx];refine decide_eq_decide.2 ⟨fun h=>.inr (.inr h),fun h=>?_⟩;rcases h with h|h|h;exact absurd h h1;exact absurd h R;exact h;rintro b w3 ⟨rfl,rfl⟩;refine qaa (fun h=>?_) (fun h=>?_);have h:=zC h;rw[if_pos h] at z;exact Q (by rw[C,<- z]) w3 aD;have af:=zB h;rw[if_neg af] at z;have bd:2<=a:=(by omega);have bf:a<sup.2.getD 0 0:=(by omega);have aE:a∉u:=fun h=>af (.inr (.inr h));obtain⟨o,hr,hm⟩:=qgy (v:=.i 1) quO H.map a;refine qiw _ hr ?_;have ao:setL a (.i 1) (onesM u)=onesM (u++[a]):=by rw[setL,(qgx a u).2 aE];simp[onesM]
 rw[ao] at hm;have aF:=H.map.lt;have fm:Fr [r] w3 (upd w3 r o):=qeN aF o;have aG:r≠pb:=(by have:=H.nr;omega);have ab:=H.own.frame fm (fun b A=>by simp only[zE] at A;subst A;exact .inr H.nr) (fun p hp=>by simp at hp;subst hp;simpa using fun e=>aG e.symm);have ap:=H.b1.frame fm (fun b A=>by simpa using (H.n1 b A).2.1);have aH:=H.b2.frame fm (fun b A=>by simpa using (H.n2 b A).2);generalize upd w3 r o=w4 at hm fm ab ap aH;refine qae (Own.ld ab 0 rfl (pW dbk) qu7 ?_);rw[wi' a (by omega)];refine qgG (aC ab.fr) hD fun s5 B5 w5 b5 f5 n5=>?_;have aq:=ab.frame0 f5;refine qaa (fun h=>?_) (fun h=>?_);have h:(readV D a).2≠0:=(by simpa using h);rw[if_pos h] at z;exact Q (by rw[C,<- z]) w5 aq.fr;have h:¬(readV D a).2≠0:=(by simpa using h);rw[if_neg h] at z;refine qlw (b5.rds qas (S:=[]) (by simp)) (half aq.fr) (qbE hD a).1 (by have:=(qbE hD a).2;omega) fun s6 B6 w6 b6 f6 n6=>?_;have aJ:=aq.frame0 f6;refine qaf (fun b w'=>b=decide ((openV a (readV D a).1).2.2≠0\/(openV a (readV D a).1).1≠2)/\w'=w6) ?_ ?_;refine qaa (fun h=>?_) (fun h=>?_);have h:(openV a (readV D a).1).2.2≠0:=(by simpa using h);exact⟨by rw[zZ (Or.inl h)],rfl⟩;have h:(openV a (readV D a).1).2.2=0:=(by simpa using h);refine⟨?_,rfl⟩;by_cases R:(openV a (readV D a).1).1=2<;>simp[h,R];rintro b bi ⟨rfl,rfl⟩;refine qaa (fun h=>?_) (fun h=>?_);have h:=zC h;rw[if_pos h] at z;exact Q (by rw[C,<- z]) bi aJ.fr;have h:=zB h;rw[if_neg h] at z;have aK:=qmc (qbE hD a).1 a;refine qro (b6.rds qas (S:=[]) (by simp)) aK.1 (by have:=aK.2;have:=(qbE hD a).2;omega) fun s7 B7 w7 b7 f7 n7=>?_;have aL:=aJ.frame0 f7;refine qaa (fun h=>?_) (fun h=>?_);have h:(parseV (openV a (readV D a).1).2.1).2.2≠0:=(by simpa using h);rw[if_pos h] at z;exact Q (by rw[C,<- z]) w7 aL.fr;have h:¬(parseV (openV a (readV D a).1).2.1).2.2≠0:=(by simpa using h);rw[if_neg h] at z;have bj:=qqJ (openV a (readV D a).1).2.1;have aM:=qqx (openV a (readV D a).1).2.1;generalize parseV (openV a (readV D a).1).2.1=pv at z b7 bj aM;have bk:=(f5.trans f6).trans f7;have bl:=H.len;have bm:u.length<=4096:=(by omega);have E:=aL.drew;have ac:Fr [] w4 w7.drew:=bk.drew;have ar:=ap.frame0 ac;have au:=aH.frame0 ac;have aN:=hm.frame ac (by simp);have aO:=b7.frame0 ((Fr.refl [] w7).drew);have l7:∀b∈B7,w4.heap.size<=b:=fun b A=>zL (f5.trans f6).size (n7 b A);have b4:r<w4.heap.size:=hm.lt;generalize w7.drew=wd at E ac ar au aN aO;refine qae (Own.ld E 0 rfl sl (qdC I 0 (by decide)) ?_);refine qae (Own.ld E 0 rfl sn (qdC I 1 (by decide)) ?_);refine Own.new' E fun rn w8 e8 f8 ad=>?_;refine qam (ad.cell 1 rfl (qdC I 1 (by decide))) (ad.cell 1 rfl (qdC I 0 (by decide))) ?_;have aR:Rd [] w8 ⟨pW rn,1,1⟩ [a]:=by
  refine⟨rfl,zM _,.inr ⟨rn,0,_,_,_,rfl,ad.at (i:=0) rfl,by simp,fun i x hx=>?_⟩⟩;match i with
  | 0=>simp at hx;subst hx;rfl
  | i+1=>simp at hx
 refine qqf (s:=sl) (src:=⟨pW rn,1,1⟩) (ar.frame0 f8) aR (by simp;omega) fun s9 B9 w9 b9 f9 n9=>?_;have b8:∀b∈B1,b<wd.heap.size:=fun b A=>ar.lt b A;have br:∀b∈B2,b<wd.heap.size:=fun b A=>au.lt b A;have bs:wd.heap.size<=w8.heap.size:=f8.size;have b':w4.heap.size<=wd.heap.size:=ac.size;have ca:w.heap.size<=w4.heap.size:=ab.fr.size;have aT:=(ad.sub (L':=[(pb,_)]) (List.Sublist.cons _ (List.Sublist.refl _))).frame f9 (fun b A=>.inr (H.n1 b A).1) (fun p hp A=>by simp at hp;subst hp;have:=(H.n1 _ A).1;dsimp only at this;omega);refine qai (aT.cell 0 rfl (qdC I 1 (by decide))) ?_;have bt:=(au.frame0 f8).frame f9 (fun b A av=>(H.n1 b av).2.2 A);have bu:Rd [] w9 s7 pv.2.1:=((aO.frame0 f8).frame f9 (fun b A av=>by have:=l7 b A;have:=ap.lt b av;omega)).rds qaF (by simp);refine qqf bt bu (by omega) fun aU aw cb bv ax aV=>?_;have bJ:wd.heap.size<=w9.heap.size:=zL bs f9.size;have aW:=aT.frame ax (fun b A=>.inr (H.n2 b A).1) (fun p hp A=>by simp at hp;subst hp;have:=(H.n2 _ A).1;dsimp only at this;omega);have U:∀b∈B9,w.heap.size<=b/\b≠r/\b∉B2/\b<w9.heap.size:=fun b A=>by refine⟨?_,?_,?_,b9.lt b A⟩;rcases n9 b A with h|h;exact (H.n1 b h).1;omega;rcases n9 b A with h|h;exact (H.n1 b h).2.1;omega;rcases n9 b A with h|h;exact (H.n1 b h).2.2;intro R;have:=br b R;omega
 have ah:∀b∈aw,w.heap.size<=b/\b≠r:=fun b A=>by rcases aV b A with h|h;exact H.n2 b h;constructor<;>omega
 have aX:=b9.frame ax (fun b A R=>(U b A).2.2.1 R);have bw:∀b∈B9,b∉aw:=fun b A bx=>by
  rcases aV b bx with h|h;exact (U b A).2.2.1 h
  have:=(U b A).2.2.2;omega
 refine qae (Own.st' aW 0 rfl (pgRaw (pW dbk) sup s9 sn turn over wk) (qmC I) rfl (by rw[qbr I,hw];exact zO rfl) fun cc aY bz=>?_);refine qae (Own.st' aY 0 rfl (pgRaw (pW dbk) sup s9 aU turn over wk) (qmR I) rfl (by rw[qbr I,hw];exact zO rfl) fun cd aZ bA=>?_);have J:=bz.trans bA;have ay:∀b,w.heap.size<=b->b∉[pb]:=fun b A=>by simp;omega
 have ai:=(((aN.frame f8 (by simp)).frame f9 (fun h=>(H.n1 r h).2.1 rfl)).frame ax (fun h=>(H.n2 r h).2 rfl)).frame J (ay r H.nr);refine hX _ _ ⟨u++[a],named++pv.2.1,s9,aU,B9,aw,f,⟨aZ,aX.frame J (fun b A=>ay b (U b A).1),bv.frame J (fun b A=>ay b (ah b A).1),ai,fun b A=>⟨(U b A).1,(U b A).2.1,bw b A⟩,ah,H.nr,aM,?_,?_,?_⟩,?_,z⟩ ?_;rw[yL];exact⟨H.nodup,by simp,fun x hx y hy=>by simp at hy;subst hy;exact fun e=>aE (e▸hx)⟩;intro x hx;rcases zD.1 hx with h|h;exact H.range x h;simp at h;subst h;exact⟨bd,bf⟩;rw[zF,zF];have:[a].length=1:=rfl;omega;rw[zF];have:[a].length=1:=rfl;omega;have key:∀ {w':World} {l:List Int},MapS u32V w' r (onesM l)->(match w'.heap[r]? with|some (.map es _)=>F0-es.size|_=>0)=F0-l.length:=by
  rintro w' l ⟨es,c,h1,R,_⟩;rw[h1]
  have:=congrArg List.length R
  simp[onesM] at this;simp[this]
 rw[key ai,key H.map,zF];have:[a].length=1:=rfl;omega;have an:a=0:=(by simpa using am);subst an;rw[walkM,if_pos rfl] at z;rw[<- z] at C;dsimp only at C;refine qae (Own.ld H.own 0 rfl sn (qdC I 1 (by decide)) ?_);have rn:Rd [] w2 sn named:=H.b2.rds qaF (by simp);have ce:=rn.1;have bl:=H.len;have bm:u.length<=4096:=(by omega);refine qah (fun x w'=>w'=w2/\∃i:Nat,x.2=i/\i<=named.length/\namedB (sup.2.getD 0 0) u x.1 (named.drop i)=namedB (sup.2.getD 0 0) u 0 named) (fun x _=>((named.length:Int)-x.2).toNat) ⟨rfl,0,rfl,by omega,rfl⟩ ?_;rintro⟨a0,ii⟩ w' ⟨rfl,i,a1,hi,hn⟩ Z hZ;simp only at a1 hn;subst a1;refine qaa (fun hc=>?_) (fun hc=>?_);have a2:i<named.length:=(by have:=zC hc;dsimp only at this;omega);refine Rd.at rn i rfl (zA a2) ?_;rw[zX a2,namedB] at hn;refine qaf (fun b w3=>b=(decide (named[i]<=a0)||decide (named[i]>=sup.2.getD 0 0)||decide (named[i]∈u))/\w3=w') ?_ ?_;refine qaa (fun h=>⟨by rw[h];rfl,rfl⟩) (fun h=>?_);refine qae (Own.ld H.own 0 rfl (sup.2.getD 0 0) (qiu I 0 (by decide)) ?_);refine qaa (fun R=>⟨by rw[h,R];rfl,rfl⟩) (fun R=>?_);refine qnn H.map fun x hx=>⟨?_,rfl⟩;rw[hx,h,R];rfl;rintro b w3 ⟨rfl,rfl⟩;refine qaa (fun h=>?_) (fun h=>?_);rw[h] at hn;refine Q ?_ w3 aD;rw[C,if_neg];rw[<- hn];simp;rw[h] at hn;rw[wi' _ (by dsimp only;omega)];exact hZ _ _ ⟨rfl,i+1,by simp,by omega,by simpa using hn⟩ (by dsimp only;omega);have:i=named.length:=(by have:=zB hc;dsimp only at this;omega);subst this;rw[drop_length] at hn;have bB:namedB (sup.2.getD 0 0) u 0 named=true:=hn.symm;have E:=H.own.drew;refine qae (Own.ld E 0 rfl sn (qdC I 1 (by decide)) ?_);refine qae (Own.ld E 0 rfl (sup.2.getD 2 0) (qiu I 2 (by decide)) ?_);rw[wi' _ (by omega)];by_cases hfree:(named.length:Int)=sup.2.getD 2 0;rw[if_pos ⟨bB,hfree⟩] at C;have e:((sn.len:Int)==sup.2.getD 2 0)=true:=(by rw[yO];omega);rw[e];refine hk sl sn u named _ C E fun G hG=>?_;have ak:∀b,w.heap.size<=b->b∉G:=fun b A h=>by have:=hG b h;omega
 exact⟨(H.b1.frame0 ((Fr.refl [] w').drew)).rds qaF fun b A=>ak b (H.n1 b A).1,(H.b2.frame0 ((Fr.refl [] w').drew)).rds qaF fun b A=>ak b (H.n2 b A).1⟩;have e:((sn.len:Int)==sup.2.getD 2 0)=false:=(by rw[zR];omega);rw[e];exact Q (by rw[C,if_neg (fun h=>hfree h.2)]) _ E.fr
theorem qjm{S:List Nat}{w:World}{s:Sl}{l:List Int}(h:RdB S w s l):(Extern.Bytes.bytesOf (.slice s.a s.len s.cap)).run Tryz.prog w=.ok ⟨(Lib.bytesOf l).toArray⟩ w:=by
 have hlen:=h.1;cases ha:s.a with
 | none=>
  have hl0:l=[]:=by rcases h.2.2 with h3|⟨b,o,cs,T,fr,ha',_⟩;exact h3;rw[ha] at ha';cases ha'
  subst hl0;rfl
 | some a=>
  have hc:=h.cells qas ha
  have:=Lib.run_loadBytesX (P:=Tryz.prog) w l a .empty (fun j x hj=>hc j (.int .u8 x) (by rw[qaC,zQ,hj];rfl))
  rw[hlen];show (Extern.Bytes.loadBytes a l.length .empty).run Tryz.prog w=_;rw[this];have e:(#[]:Array UInt8)++(Lib.bytesOf l).toArray=(Lib.bytesOf l).toArray:=(by simp);exact congrArg (fun d=>Result.ok (ByteArray.mk d) w) e
theorem qfz:∀ {a b:List Int},IsB a->IsB b->Lib.compareBytes (Lib.bytesOf a) (Lib.bytesOf b)=cmpL a b
 | [],[],_,_=>rfl
 | [],y::b,_,_=>rfl
 | x::a,[],_,_=>rfl
 | x::a,y::b,G,I=>by
  have A:=G x (by simp);have C:=I y (by simp);have ih:=qfz (a:=a) (b:=b) (fun z E=>G z (zN _ E)) (fun z E=>I z (zN _ E));have e:∀ {u v:Int},(0<=u/\u<256)->(0<=v/\v<256)->(u.toNat.toUInt8<v.toNat.toUInt8↔u<v):=fun {u v} J K=>by rw[UInt8.lt_iff_toNat_lt];simp;omega
  show (if x.toNat.toUInt8<y.toNat.toUInt8 then (-1:Int) else if y.toNat.toUInt8<x.toNat.toUInt8 then 1 else Lib.compareBytes (Lib.bytesOf a) (Lib.bytesOf b))=cmpL (x::a) (y::b);rw[cmpL,ih];by_cases h1:x<y;rw[if_pos ((e A C).2 h1),if_pos h1];rw[if_neg (fun h=>h1 ((e A C).1 h)),if_neg h1];by_cases h2:y<x;rw[if_pos ((e C A).2 h2),if_pos h2];rw[if_neg (fun h=>h2 ((e C A).1 h)),if_neg h2]
theorem qo0{S S':List Nat}{w:World}{s u:Sl}{l l':List Int}(h:RdB S w s l)(z:RdB S' w u l')(A:IsB l)(y:IsB l'): (Extern.BytealgCompare.compare #[s.v,u.v]).run Tryz.prog w=.ok (.i (cmpL l l')) w:=by show Sem.run Tryz.prog (do pure (goInt (Extern.BytealgCompare.cmp (<- Extern.Bytes.bytesOf s.v) (<- Extern.Bytes.bytesOf u.v)))) w=_;have e:=qfz A y;simp only[Sem.run_bind,qjm h,Result.andThen_ok,qjm z,Lib.cmp_eq];rw[e];rfl
theorem qnm{S S':List Nat}{w:World}{s y:Sl}{l l':List Int}{K:Int->WP}(h:RdB S w s l)(z:RdB S' w y l')(A:IsB l)(u:IsB l')(C:K (cmpL l l') w): cW 111 [s.v,y.v] [.one .i] w K:=by refine qqI ?_;unfold qot;refine qkb ?_;unfold qf0;exact qkC (e:=Extern.BytealgCompare.compare) Tryz.func182 (by kernel_rfl) (by kernel_rfl) (by kernel_rfl) (by kernel_rfl) (cmpL l l') w (qo0 h z A u) C
def encSl (s:Sl):List Value:=[s.v]
theorem qcH(s:Sl):(encSl s).length=1:=rfl
theorem qsa(s:Sl):∀u∈encSl s,u.oneCell'=true:=fun u h=>by rw[zE.1 h];rfl
abbrev Kps:=List (Sl×Key)
abbrev slsP (ps:Kps):List Sl:=ps.map (·.1)
abbrev keyP (ps:Kps):List Key:=ps.map (·.2)
def RdK (S:List Nat) (w:World) (s:Sl) (ps:Kps):Prop:=Rds encSl 1 S w s (slsP ps)/\∀p∈ps,RdB S w p.1 p.2
theorem RdK.frame{S S':List Nat}{w w':World}{s:Sl}{ps:Kps}(h:RdK S w s ps)(f:Fr S w w')(u:∀b∈S',b∈S\/w.heap.size<=b):RdK S' w' s ps:=⟨h.1.frame f u,fun p y=>(h.2 p y).frame f u⟩
theorem RdK.frame0{S:List Nat}{w w':World}{s:Sl}{ps:Kps}(h:RdK S w s ps)(f:Fr [] w w'):RdK S w' s ps:=⟨h.1.frame0 f,fun p u=>(h.2 p u).frame0 f⟩
theorem RdK.len{S:List Nat}{w:World}{s:Sl}{ps:Kps}(h:RdK S w s ps):s.len=ps.length:=by rw[h.1.1,zK]
theorem RdK.nil(S:List Nat)(w:World):RdK S w ⟨none,0,0⟩ []:=⟨.nil _ _ _ _,fun p h=>nomatch h⟩
theorem RdK.get{S:List Nat}{w:World}{s:Sl}{ps:Kps}(h:RdK S w s ps)(n:Nat){i:Int}{K:Sl->Prop}(hi:i=n)(u:n<ps.length)(z:K ps[n].1):idx s i 1 fun a=>ld .slice a w K:=
 Rds.get h.1 n hi (x:=ps[n].1) (by rw[zQ,zA u];rfl) (y:=ps[n].1) rfl z
theorem andThen_ok{D:DiskM}{f:DiskM->DiskM×Int}:andThen (D,0) f=f D:=if_pos rfl
structure SupOk (s:Sup):Prop where
 seq:0<=s.1/\s.1<4611686018427387904
 len:s.2.length=27
 u32:∀ x∈s.2,U32 x
theorem SupOk.place{s:Sup}(h:SupOk s):Int.tmod s.1 2=s.1%2:=Int.tmod_eq_emod_of_nonneg h.seq.1
theorem SupOk.superP{s:Sup}(h:SupOk s):superP s=(s.1%2,sealV (s.1%2) 1 (superB s.1 s.2)):=by rw[Go.Proofs.YtmmkegapckbomaaGreatDoor.superP,h.place,qaZ _ (by omega)]
theorem SupOk.read{s:Sup}(h:SupOk s):readSV (s.1%2) (sealV (s.1%2) 1 (superB s.1 s.2))=(s,0):=by
 have:=h.seq
 exact qpl (by constructor<;>omega) h.len h.u32 h.place
theorem SupOk.sealLen{s:Sup}(h:SupOk s)(p:Int):(sealV p 1 (superB s.1 s.2)).length=512:=qb0 (by rw[qca h.len];decide)
theorem Quiet.sealOk{D:DiskM}{s:Sup}(h:Quiet D)(y:SupOk s)(U:8<=D.size): ∃D',sealM D s=(D',0)/\Quiet D'/\D'.size=D.size/\D'.waits=[]/\view D' (s.1%2)=sealV (s.1%2) 1 (superB s.1 s.2)/\∀m,0<=m->m≠s.1%2->view D' m=view D m:=by obtain⟨V,e1,C,E,z⟩:=h.write (n:=s.1%2) (l:=sealV (s.1%2) 1 (superB s.1 s.2)) (by omega) (y.sealLen _);obtain⟨G,I,J,K,Q,A⟩:=C.sync;refine⟨G,?_,J,K.trans E,Q,by rw[A _ (by omega),z,if_pos rfl],fun m R u=>by rw[A m R,z,if_neg u]⟩;rw[sealM,y.superP];show andThen (writeM D (s.1%2) _) syncM=_;rw[e1];exact I
theorem qoZ{p:Int}:(readSV p (zs 512)).2≠0:=by have u:(openV p (zs 512)).1=0:=(by unfold openV;split<;>(try rfl);split<;>(try rfl);split<;>(try rfl);split<;>(try rfl);split<;>rfl);unfold readSV;generalize openV p (zs 512)=o at u⊢;by_cases h:o.2.2≠0;rw[if_pos h];exact h;have y:o.1≠1\/o.2.1.length≠116:=.inl (by rw[u];decide);rw[if_neg h,if_pos y];exact (by decide:(2:Int)≠0)
theorem qpE{n i:Nat}(h:i<n-2):(allV n)[i]?=some ((i:Int)+2):=by rw[allV,zQ,List.getElem?_range h];rfl
theorem qdf(n:Nat):(allV n).length=n-2:=by simp[allV]
theorem qc8{n:Nat}{x:Int}:x∈allV n↔2<=x/\x<n:=by rw[allV,mem_map];constructor;rintro⟨i,h,rfl⟩;rw[mem_range] at h;omega;rintro⟨u,y⟩;exact⟨(x-2).toNat,by rw[mem_range];omega,by omega⟩
theorem qeb(n:Nat):(allV n).Pairwise (· < ·):=by rw[allV,pairwise_map];exact pairwise_lt_range.imp (fun h=>by omega)
theorem qgE{n:Nat}:n<=124*needP n:=by
 unfold needP;split;omega
 have:=Nat.div_add_mod (n-1) 124
 have:=Nat.mod_lt (n-1) (show 0<124 by decide)
 omega
theorem qka{n:Nat}:needP n<=n:=by
 unfold needP;split;omega
 have:=Nat.div_le_self (n-1) 124
 omega
theorem qkr{n:Nat}:ListOk n ((allV n).drop (needP (allV n).length)) ((allV n).take (needP (allV n).length)) where
 rises:=(qeb n).sublist (drop_sublist _ _)
 nums:=fun x u=>qc8.1 (yT u)
 pgs:=fun x u=>qc8.1 (yU u)
 nodup:=(qcq (qeb n)).sublist (take_sublist _ _)
 apart:=fun x u y=>by have h:=qcq (qeb n);rw[<- xC (needP (allV n).length) (allV n),yL] at h;exact h.2.2 x u x y rfl
 room:=by have A:=qgE (n:=(allV n).length);have z:=qka (n:=(allV n).length);rw[yB,yK,xN z];omega
theorem qhM{n:Nat}(u:8<=n)(y:n<=4096):SupOk (fmtSup n) where
 seq:=⟨(by decide:(0:Int)<=1),(by decide:(1:Int)<4611686018427387904)⟩
 len:=rfl
 u32:=fun x h=>by
  simp only[fmtSup,zD,zG,xU,or_false] at h;rcases h with (rfl|rfl|rfl)|h;exact qaP _;exact⟨by decide,by decide⟩;exact qaP _
  have:=eq_of_mem_replicate h
  subst this;exact⟨by decide,by decide⟩
theorem qnS{D:DiskM}{n:Nat}(h:Quiet D)(hn:D.size=n)(U:8<=n)(V:n<=4096): ∃D',formatM D=(D',0)/\Quiet D'/\D'.size=n/\D'.waits=[]/\Opens D' (fmtSup n) ((allV n).take (needP (allV n).length)) ((allV n).drop (needP (allV n).length))/\view D' 0=zs 512:=by
 have ah:D.safe.length=n:=(by have:(D.safe.length:Int)=n:=hn;omega);obtain⟨D1,e1,q1,s1,v1⟩:=h.write (n:=0) (l:=zs 512) (by omega) (qaJ _);obtain⟨D2,e2,q2,s2,v2⟩:=q1.write (n:=1) (l:=zs 512) (by omega) (qaJ _);obtain⟨E,e3,q3,s3,w3,v3⟩:=q2.sync;have y:E.size=n:=(by omega);have G:E.safe.length=n:=(by have:(E.safe.length:Int)=n:=y;omega);have u:=qkr (n:=n);rw[<- y] at u;obtain⟨I,e4,q4,s4,w4,l4,v4⟩:=q3.spread u;have J:I.size=n:=(by omega);have K:I.safe.length=n:=(by have:(I.safe.length:Int)=n:=J;omega);obtain⟨Q,e5,q5,s5,w5,p5,R⟩:=q4.sealOk (qhM U V) (by omega);have z:(fmtSup n).1%2=1:=rfl;rw[z] at p5 R;have A:=u.pgs;have z0:view Q 0=zs 512:=(by rw[R 0 (by decide) (by decide),v4 0 (by decide) (fun hm=>by have:=A 0 hm;omega),v3 0 (by decide),v2,if_neg (by decide),v1,if_pos rfl]);refine⟨Q,?_,q5,by omega,w5,?_,z0⟩;rw[formatM,e1,andThen_ok,e2,andThen_ok,e3,andThen_ok,G,e4,andThen_ok,K,e5];have az:1<=needP (allV n).length:=by
  have:=qgE (n:=(allV n).length)
  rw[qdf] at this⊢;omega
 refine { down:=q5.down,size:=by omega,newest:=?_,blocks:=?_,list:=?_,free:=?_,ok:=by rw[show Q.size=E.size by omega];exact u,listed:=fun i p hp=>?_ };have hr:=(qhM U V).read;rw[z] at hr;rw[z0,p5,newestV,hr,if_neg (by simp),if_pos (.inl qoZ)];show IntKind.wrap .u32 (n:Int)=_;rw[qaZ _ (by omega)];omega;have:(allV n).take (needP (allV n).length)=2::((allV n).take (needP (allV n).length)).drop 1:=by
  have C:(allV n)[0]?=some 2:=(by rw[qpE (by omega)];rfl);obtain⟨k,hk⟩:∃k,needP (allV n).length=k+1:=⟨needP (allV n).length-1,by omega⟩;rw[hk];cases hA:allV n with
  | nil=>rw[hA] at C;cases C
  | cons a r=>rw[hA] at C;simp at C;subst C;rfl
 rw[this];rfl;show IntKind.wrap .u32 _=_
 have:=qka (n:=(allV n).length)
 rw[yB,qaZ _ (by rw[qdf] at *;omega)];omega
 have:=A p (yE hp)
 rw[R p (by omega) (by omega)];exact l4 i p hp
theorem qq5(n:Nat):Quiet (newM n):=⟨rfl,rfl,fun x h=>by cases h⟩
theorem qrG(n:Nat):(newM n).size=n:=by show ((List.replicate n Blk.zero).length:Int)=n;simp
theorem qoz{w w':World}{s:Sl}{l:List Int}(h:Told w w' s l):∃B,BufU w' s l B/\∀b∈B,w.heap.size<=b:=by rcases h with ⟨rfl,rfl⟩|⟨b,d,T,cap,rfl,z,E,A,C,u,y⟩;exact⟨[],.nil _ _ _,by simp⟩;refine⟨[b],.inr ⟨b,0,u32s d,T,rfl,rfl,rfl,z,rfl,A,by rw[qcD];dsimp only;omega,?_⟩,by simpa using u⟩;rw[xD,xP,u32s,Array.toList_map,<- xL,C,qeO]
def newestM (D:DiskM):Sup×Int:=
 if (readV D 0).2≠0 then (supZero,(readV D 0).2) else if (readV D 1).2≠0 then (supZero,(readV D 1).2) else newestV (readV D 0).1 (readV D 1).1
theorem qoN(D:DiskM):(newestM D).1.2.length=27:=by unfold newestM;split;rfl;split;rfl;exact qjv _ _
theorem qq3{w:World}{dbk:Nat}{FD:List Nat}{D:DiskM}{K:List Value×Int->WP}(h:DiskAt w dbk FD D)(C:D.Ok)(J:Hv w)(G:∀w',Fr [] w w'->K (supV (newestM D).1.1 (newestM D).1.2,(newestM D).2) w'): cW 96 [.pointer (pW dbk)] [.raw,.one .i] w K:=by
 refine qlf ?_;unfold qhc;refine Own.newZ (Own.start [] w) qeL fun r w1 e1 y=>?_;refine qgG (h.frame0 y.fr) C fun s2 B2 w2 Q R n2=>?_;have y:=y.frame0 R;refine qaa (fun u=>?_) (fun u=>?_);have u:(readV D 0).2≠0:=(by simpa using u);refine qem ?_;refine qcj y 0 rfl rfl rfl fun E z=>?_
 have:=G E z
 rw[newestM,if_pos u] at this;exact this;have A:¬(readV D 0).2≠0:=(by simpa using u);refine qgG (h.frame0 y.fr) C fun s3 B3 E U z n3=>?_;have y:=y.frame0 z;refine qaa (fun u=>?_) (fun u=>?_);have u:(readV D 1).2≠0:=(by simpa using u);refine qem ?_;refine qcj y 0 rfl rfl rfl fun E z=>?_
 have:=G E z
 rw[newestM,if_neg A,if_pos u] at this;exact this;have I:¬(readV D 1).2≠0:=(by simpa using u);have V:=qbE C 0;have i1:=qbE C 1;refine qqc ((Q.frame0 z).rds qas (S:=[]) (by simp)) (U.rds qas (S:=[]) (by simp)) (J.frame0 y.fr) V.1 i1.1 (by omega) (by omega) fun w4 f4=>?_;refine qcj (y.frame0 f4) 0 rfl rfl (qjv _ _) fun w5 f5=>?_
 have:=G w5 f5
 rw[newestM,if_neg A,if_neg I] at this;exact this
theorem qoE(D:DiskM):openM D=if (newestM D).2≠0 then (none,(newestM D).2) else if (newestM D).1.2.getD 0 0≠D.safe.length then (none,2) else match loadM D (newestM D).1 with|none=>(none,2)|some x=>(some (begunM (newestM D).1 x.1 x.2 1 false x.2),0):=by unfold openM newestM;by_cases h0:(readV D 0).2≠0;rw[if_pos h0,if_pos h0];exact (if_pos h0).symm;rw[if_neg h0,if_neg h0];by_cases h1:(readV D 1).2≠0;rw[if_pos h1,if_pos h1];exact (if_pos h1).symm;rw[if_neg h1,if_neg h1]<;>rfl
theorem pgZ:(Tryz.prog.info? PGT).bind (·.zero)=some (.agg (pgRaw none supZero ⟨none,0,0⟩ ⟨none,0,0⟩ 0 false (workV none none none (zs 24)))):=by kernel_rfl
theorem qts{d:Option Addr}{q:Int}{t:List Int}(h:t.length=27)(w:World): (Instr.build PGT #[(0,.pointer d),(1,.agg (supV q t).toArray)]).run Tryz.prog w=.ok (.agg (pgRaw d (q,t) ⟨none,0,0⟩ ⟨none,0,0⟩ 0 false (workV none none none (zs 24)))) w:=by
 refine qdH (parts:=[(0,.pointer d),(1,.agg (supV q t).toArray)]) (offs:=#[(0,1),(1,28),(29,1),(30,1),(31,1),(32,1),(33,27)]) pgZ (by kernel_rfl) (fun w=>by kernel_rfl) ?_ w;have u:(Value.agg (supV q t).toArray).cells.size=28:=qfo h;rw[qaG (o:=0) (s:=1) rfl rfl (zO rfl),qaG (o:=1) (s:=28) rfl u (zO rfl)];show some _=_;congr 1;have y:splice (Value.agg (pgRaw none supZero ⟨none,0,0⟩ ⟨none,0,0⟩ 0 false (workV none none none (zs 24)))).cells 0 (Value.pointer d).cells.toList=pgRaw d supZero ⟨none,0,0⟩ ⟨none,0,0⟩ 0 false (workV none none none (zs 24)):=rfl;rw[y]
 have:=qa8 (A:=[Value.pointer d]) (X:=supV 0 (zs 27)) (Y:=supV q t) (Z:=[.slice none 0 0,.slice none 0 0,.i 0,.bool false]++workV none none none (zs 24)) (by rw[qaB h];rfl)
 refine Eq.trans ?_ (this.trans ?_);show splice (pgRaw d supZero ⟨none,0,0⟩ ⟨none,0,0⟩ 0 false (workV none none none (zs 24))) 1 (supV q t)=_;congr 1;simp[pgRaw]
theorem qkX(place:Int)(l:List Int):∀x∈(readSV place l).1.2,U32 x:=by
 have h:∀x∈supZero.2,U32 x:=fun x u=>by
  have:=eq_of_mem_replicate (show x∈List.replicate 27 (0:Int) from u)
  subst this;exact⟨by decide,by decide⟩
 unfold readSV;split;exact h;split;exact h;split;exact h;intro x u;obtain⟨i,_,rfl⟩:=mem_map.1 u;exact qh8
theorem qoO(D:DiskM):∀x∈(newestM D).1.2,U32 x:=by
 have h:∀x∈supZero.2,U32 x:=fun x u=>by
  have:=eq_of_mem_replicate (show x∈List.replicate 27 (0:Int) from u)
  subst this;exact⟨by decide,by decide⟩
 unfold newestM;split;exact h;split;exact h;unfold newestV;split;exact h;split;exact qkX _ _;exact qkX _ _
theorem qn1{l:List Int}(h:∀x∈l,U32 x)(n:Nat):U32 (l.getD n 0):=by
 rw[yQ];cases u:l[n]? with
 | none=>exact⟨by decide,by decide⟩
 | some x=>exact h x (yE u)
theorem qsC{w:World}{dbk:Nat}{FD:List Nat}{D:DiskM}{K:Option Addr×Int->WP}(X:List Nat)(ap:∀b∈X,b<w.heap.size)(h:DiskAt w dbk FD D)(hD:D.Ok)(hv:Hv w)(ai:(openM D).1=none->∀w',Fr [] w w'->K (none,(openM D).2) w')(hk:∀pb F M w',openM D=(some M,0)->PagerAt w' X pb (pW dbk) F M->Fr [] w w'->(∀b∈F,w.heap.size<=b)->K (pW pb,0) w'): cW 56 [.pointer (pW dbk)] [.one .ptr,.one .i] w K:=by
 refine qm7 ?_;unfold qjB;refine qq3 h hD hv fun w1 f1=>?_;have I:=qoN D;have hu:=qn1 (qoO D);have z:=qoE D;generalize hs:newestM D=sm at I hu z;obtain⟨sup,e⟩:=sm;simp only at I hu z;refine Own.newZ ((Own.start [] w).frame0 f1) qeL fun r w2 e2 ho=>?_;refine qf7 ho 0 rfl rfl I fun w3 ho=>?_;refine qaa (fun J=>?_) (fun J=>?_);have J:e≠0:=(by simpa using J);rw[if_pos J] at z
 have:=ai (by rw[z]) w3 ho.fr
 rw[z] at this;exact this;have au:¬e≠0:=(by simpa using J);rw[if_neg au] at z;refine qd8 (ho.at (i:=0) rfl) I ?_;refine qaU (ts:=[Ty1.raw]) (pgRaw (pW dbk) (sup.1,sup.2) ⟨none,0,0⟩ ⟨none,0,0⟩ 0 false (workV none none none (zs 24))).toList (qts I w3) ?_;refine Own.new' ho fun pb Q e4 f4 ag=>?_;have G:=ag.fr;have aj:=h.frame0 G;have ak:∀b∈FD,b<Q.heap.size/\b≠pb:=fun b A=>by
  have h1:=h.lt b A
  have:=G.size
  have:=ho.fr.size
  constructor<;>omega
 have ah:∀b∈X,b<Q.heap.size/\b≠pb:=fun b A=>by
  have h1:=ap b A
  have:=G.size
  have:=ho.fr.size
  constructor<;>omega
 have aw:=hD.safe;have R:Q.heap[pb]?=some (.cells (pgRaw (pW dbk) sup ⟨none,0,0⟩ ⟨none,0,0⟩ 0 false (workV none none none (zs 24))) PGT (0,0)):=ag.at (i:=0) rfl;have ae:Q.heap[r]?=some (.cells (supV sup.1 sup.2).toArray 121 (0,0)):=ag.at (i:=1) rfl;have aa:w.heap.size<=pb:=(by have:=ho.fr.size;omega);have ax:pb≠HG:=(by have:=hv.lt;omega);refine qaf (fun b w'=>(b=true/\(openM D).1=none/\(openM D).2=2/\Fr [] w w')\/(b=false/\∃sl sn C named,openM D=(some (begunM sup C named 1 false named),0)/\Own [pb] Q w' [(pb,.cells (pgRaw (pW dbk) sup sl sn 0 false (workV none none none (zs 24))) PGT (0,0))]/\Rd (X++[pb]) w' sl C/\Rd (X++[pb]) w' sn named/\named.Pairwise (· < ·)/\named.length<=100000)) ?_ ?_;refine qak (w:=Q.drew) (c:=.u) ae (sup.2.getD 0 0) (qgi 0 (by omega)) ?_;refine qhx (aj.frame0 (Fr.refl [] Q).drew) ?_;refine qai (by show _=_;rw[qag (w:=Q.drew) ae];exact qgi 0 (by omega)) ?_;rw[qaZ (D.safe.length:Int) (by omega)];refine qaa (fun J=>?_) (fun J=>?_);have J:sup.2.getD 0 0≠(D.safe.length:Int):=by intro h;rw[h] at J;simp at J
 rw[if_pos J] at z;exact .inl ⟨rfl,by rw[z],by rw[z],G.drew⟩;have J:sup.2.getD 0 0=(D.safe.length:Int):=by by_cases h:sup.2.getD 0 0=(D.safe.length:Int);exact h;rw[show ((sup.2.getD 0 0==(D.safe.length:Int))=false) by rw[zR];exact h] at J;cases J
 rw[if_neg (by rw[J];simp)] at z;have ab:Fr [] Q Q.drew:=(Fr.refl [] Q).drew;refine qtw (pb:=pb) (D:=D) (sup:=sup) (FD:=FD) (w:=Q.drew) R I (qb5 (by rfl)) (aj.frame0 ab) hD ((hv.frame0 G).frame0 ab) (fun A=>(ak pb A).2 rfl) ax (by omega) (hu 1) (hu 2) (fun hl w5 f5=>?_) (fun sl sn C named w5 hl E al=>?_);rw[hl] at z;refine .inl ⟨rfl,by rw[z],by rw[z],(G.trans ab).trans' f5 fun b A=>by simp at A;subst A;exact .inr aa⟩;rw[hl] at z;have U:namedB (sup.2.getD 0 0) C 0 named=true:=by unfold loadM at hl;split at hl;cases hl;rename_i x hx;split at hl;rename_i hh;cases hl;exact hh.1;cases hl
 have U:=(qgO _ _ _ _).1 U;have V:named.length<=100000:=by
  have:=qeg (n:=sup.2.getD 0 0+1) (l:=named.map (·+1)) (by
   rw[List.Nodup,pairwise_map];exact U.2.imp (fun h=>by omega)) (fun x hx=>by
   obtain⟨y,hy,rfl⟩:=mem_map.1 hx
   have:=U.1 y hy
   omega)
  rcases this with h|h;rw[zK] at h;omega
  have:=congrArg List.length h;simp at this;simp[this]
 have af:∀b∈X++[pb],b<Q.drew.heap.size:=fun b A=>by rcases zD.1 A with A|A;exact (ah b A).1;rw[zE.1 A];exact qac R
 refine .inr ⟨rfl,sl,sn,C,named,z,⟨E.blk,E.nodup,(ab.mono (fun b A=>by cases A)).trans E.fr,E.own⟩,(al _ af).1,(al _ af).2,U.2,V⟩;rintro b w5 (⟨rfl,h1,h2,f5⟩|⟨rfl,sl,sn,C,named,az,E,r1,r2,hp,V⟩);refine cond_true rfl ?_
 have:=ai h1 w5 f5
 rw[h2] at this;exact this;refine cond_false rfl ?_;have hX:∀b∈X,b<w5.heap.size/\b≠pb:=fun b A=>⟨yC (ah b A).1 E.fr.size,(ah b A).2⟩;refine qid (X:=X) (E.at (i:=0) rfl) I (qb5 (by rfl)) (by decide) hX r1 r2 V fun F w6 am f6 n6=>?_;rw[qlX hp] at am;refine hk pb F _ w6 az am ((G.trans' E.fr fun b A=>by simp at A;subst A;exact .inr aa).trans' f6 fun b A=>by simp at A;subst A;exact .inr aa) fun b A=>?_;rcases n6 b A with h|h;rw[h];exact aa;exact zL (zL G.size E.fr.size) h
structure Lim (D:DiskM) (k:Nat):Prop where
 ok:D.Ok
 waits:D.waits.length<=k
 writes:D.writes<=k
theorem qpK{D:DiskM}(h:D.Ok):(actM D).1.Ok/\(actM D).1.writes=D.writes:=by have u:=h.fuse;unfold actM;split;exact⟨⟨h.at_,u,h.safe,h.waits,h.writes,h.bytesS,h.bytesW⟩,rfl⟩;split;exact⟨⟨h.at_,⟨by show -1<=D.fuse-1;omega,by show D.fuse-1<=_;omega⟩,h.safe,h.waits,h.writes,h.bytesS,h.bytesW⟩,rfl⟩;exact⟨h,rfl⟩
theorem Lim.mono{D:DiskM}{k u:Nat}(h:Lim D k)(y:k<=u):Lim D u:=⟨h.ok,zL h.waits y,by have:=h.writes;omega⟩
theorem Lim.write{D:DiskM}{k:Nat}{n:Int}{l:List Int}(h:Lim D k)(G:k<1000000)(z:IsB l):Lim (writeM D n l).1 (k+1):=by
 unfold writeM;split;exact h.mono (by omega);split;exact h.mono (by omega);split;rename_i I J y;have A:(addW D n ⟨l,y⟩).Ok:={
  at_:=fun x u=>by rcases zD.1 u with u|u;exact h.ok.at_ x u;simp at u;subst u;show 0<=n/\n<(D.safe.length:Int);omega
  fuse:=h.ok.fuse
  safe:=h.ok.safe
  waits:=by show (D.waits++[_]).length<=_;have:=h.waits;simp;omega
  writes:=⟨by show 0<=D.writes+1;have:=h.ok.writes;omega,by show D.writes+1<=_;have:=h.writes;omega⟩
  bytesS:=h.ok.bytesS
  bytesW:=fun x u=>by rcases zD.1 u with u|u;exact h.ok.bytesW x u;simp at u;subst u;exact z }
 obtain⟨C,E⟩:=qpK A;refine⟨C,?_,?_⟩;show (actM (addW D n ⟨l,y⟩)).1.waits.length<=k+1;rw[(qcw _).2];show (D.waits++[_]).length<=_
 have:=h.waits
 simp;omega;show (actM (addW D n ⟨l,y⟩)).1.writes<=((k+1:Nat):Int);rw[E];show D.writes+1<=_
 have:=h.writes
 omega;exact h.mono (by omega)
theorem qpM:∀(l:List (Int×Blk)) (s:List Blk),(∀x∈l,IsB x.2.1)->(∀b∈s,IsB b.1)->∀b∈l.foldl laySafe s,IsB b.1
 | [],s,_,h=>h
 | x::l,s,z,h=>qpM l (laySafe s x) (fun y A=>z y (zN _ A)) fun b u=>by rcases mem_or_eq_of_mem_set u with u|rfl;exact h b u;exact z x (by simp)
theorem Lim.sync{D:DiskM}{k:Nat}(h:Lim D k):Lim (syncM D).1 k:=by obtain⟨u,z⟩:=qpK h.ok;unfold syncM;split;exact h;split;exact⟨u,by show (actM D).1.waits.length<=k;rw[(qcw D).2];exact h.waits,by show (actM D).1.writes<=_;rw[z];exact h.writes⟩;refine⟨⟨(fun x y=>by cases y),u.fuse,?_,by simp,u.writes,?_,(fun x y=>by cases y)⟩,by simp,by show (actM D).1.writes<=_;rw[z];exact h.writes⟩;show (D.waits.foldl laySafe D.safe).length<=4096;rw[qck];exact h.ok.safe;exact qpM _ _ h.ok.bytesW h.ok.bytesS
theorem Lim.then{r:DiskM×Int}{f:DiskM->DiskM×Int}{k u:Nat}(h:Lim r.1 k)(y:k<=u)(z:∀D,Lim D k->Lim (f D).1 u):Lim (andThen r f).1 u:=by unfold andThen;split;exact z _ h;exact h.mono y
theorem Lim.writes':∀ {l:List (Int×List Int)} {D:DiskM} {k:Nat},Lim D k->k+l.length<=1000000->(∀x∈l,IsB x.2)->Lim (writesM l D).1 (k+l.length)
 | [],D,k,h,_,_=>h
 | x::l,D,k,h,z,u=>by
  rw[yH] at z⊢;refine Lim.then (k:=k+1) (h.write (by omega) (u x (by simp))) (by omega) fun D' A=>?_
  have:=Lim.writes' (l:=l) A (by omega) (fun y C=>u y (zN _ C))
  rw[Nat.add_right_comm] at this;exact this
theorem qgU{D:DiskM}{n:Int}{l:List Int}:(writeM D n l).1.safe.length=D.safe.length:=by unfold writeM;split;rfl;split;rfl;split;show (actM _).1.safe.length=_;rw[(qcw _).1];rfl;rfl
theorem qmI{D:DiskM}:(syncM D).1.safe.length=D.safe.length:=by unfold syncM;split;rfl;split;show (actM _).1.safe.length=_;rw[(qcw _).1];show (D.waits.foldl laySafe D.safe).length=_;rw[qck]
theorem qmf{r:DiskM×Int}{f:DiskM->DiskM×Int}{n:Nat}(h:r.1.safe.length=n)(u:∀D:DiskM,D.safe.length=n->(f D).1.safe.length=n):(andThen r f).1.safe.length=n:=by unfold andThen;split;exact u _ h;exact h
theorem qja:∀ {l:List (Int×List Int)} {D:DiskM},(writesM l D).1.safe.length=D.safe.length
 | [],D=>rfl
 | x::l,D=>qmf qgU fun D' h=>by rw[qja,h]
theorem qpj{D:DiskM}{a b:List Int}:(spreadM D a b).1.safe.length=D.safe.length:=by unfold spreadM;split;rfl;exact qmf qja fun D' h=>by rw[qmI,h]
theorem qoV{numbers pages:List Int}:∀x∈(pages.zip (bodiesV numbers pages).1).map fun x=>(x.1,sealV x.1 2 x.2),IsB x.2:=by intro x u;obtain⟨y,h,rfl⟩:=mem_map.1 u;refine qfc (by decide) ?_;have h:=(of_mem_zip h).2;unfold bodiesV at h;split at h;cases h;split at h;cases h;obtain⟨i,_,z⟩:=mem_map.1 h;rw[<- z];exact qmB _ _
theorem qkJ{α β:Type}(a:List α)(b:List β):(a.zip b).length<=a.length:=by rw[length_zip];exact Nat.min_le_left _ _
theorem Lim.spread{D:DiskM}{k:Nat}{numbers pages:List Int}(h:Lim D k)(z:k+pages.length<=1000000):Lim (spreadM D numbers pages).1 (k+pages.length):=by
 unfold spreadM;split;exact h.mono (by omega);have u:=qkJ pages (bodiesV numbers pages).1;refine Lim.then (k:=k+pages.length) ?_ (zM _) fun D' y=>y.sync
 refine (Lim.writes' h (by rw[zK];omega) qoV).mono ?_;rw[zK];omega
theorem qq2(s:Sup):IsB (superP s).2:=qfc (by decide) (qqH _ _)
theorem qmX{numbers pages:List Int}{i:Nat}{h:List (List Int)}(u:i<pages.length)(y:i<h.length):(pages.zip h).drop i=(pages[i],h[i])::(pages.zip h).drop (i+1):=by rw[zX (by rw[length_zip];omega)];simp
theorem qqd{w:World}{dbk k:Nat}{FD:List Nat}{D:DiskM}{sn sp:Sl}{numbers pages:List Int}{K:Int->WP}(h:DiskAt w dbk FD D)(hD:Lim D k)(aR:k+pages.length<=1000000)(hv:Hv w)(hg:HG∉FD)(hn:Rd FD w sn numbers)(hp:Rd FD w sp pages)(aw:numbers.length<=100000)(ax:pages.length<=100000)(ay:∀x∈pages,U32 x)(hk:∀F' w',DiskAt w' dbk F' (spreadM D numbers pages).1->Fr FD w w'->(∀b∈F',b∈FD\/w.heap.size<=b)->K (spreadM D numbers pages).2 w'): cW 102 [.pointer (pW dbk),sn.v,sp.v] [.one .i] w K:=by
 refine qkM ?_;unfold qhh;refine qqN (G:=FD) hn hp aw ax h.lt fun s1 B1 w1 b1 f1 n1=>?_;refine qaa (fun z=>?_) (fun z=>?_);have z:(bodiesV numbers pages).2≠0:=by simpa using z
 have:=hk FD w1 (by rw[spreadM,if_pos z];exact h.frame0 f1) (f1.mono fun b u=>by cases u) (fun b u=>.inl u)
 rw[spreadM,if_pos z] at this;exact this;have C:¬(bodiesV numbers pages).2≠0:=(by simpa using z);rw[spreadM,if_neg C] at hk;have J:(bodiesV numbers pages).1.length=pages.length/\∀b∈(bodiesV numbers pages).1,b.length<=500/\IsB b:=by
  unfold bodiesV at C⊢;split;rename_i h1;rw[if_pos h1] at C;exact absurd (by decide) C;rename_i h1;rw[if_neg h1] at C;split;rename_i h1;rw[if_pos h1] at C;exact absurd (by decide) C;refine⟨qfK _ _ _,fun b u=>?_⟩;obtain⟨i,_,rfl⟩:=mem_map.1 u;rw[qe6]
  have:=qim numbers i
  unfold chunk at this;exact⟨by omega,qmB _ _⟩
 generalize (bodiesV numbers pages).1=A at hk J b1;obtain⟨I,q1,q2,q3⟩:=b1;have aX:=q1.len;have aN:=J.1;have aY:=hp.1;refine qah (fun x w'=>∃(i j:Nat) (F':List Nat) (D':DiskM),x=i/\i<=pages.length/\DiskAt w' dbk F' D'/\Lim D' (k+i)/\Fr FD w w'/\Fr FD w1 w'/\(∀b∈F',b∈FD\/w1.heap.size<=b)/\
   andThen (writesM ((pages.zip A).map fun x=>(x.1,sealV x.1 2 x.2)) D) syncM=andThen (writesM (((pages.zip A).drop i).map fun x=>(x.1,sealV x.1 2 x.2)) D') syncM) (fun x _=>((pages.length:Int)-x).toNat)
  ⟨0,0,FD,D,rfl,by omega,h.frame0 f1,hD,f1.mono (fun b u=>by cases u),.refl _ _,fun b u=>.inl u,rfl⟩ ?_
 rintro x w2 ⟨i,j,F',D',rfl,hi,ah,ac,f2,Q,n2,he⟩ X hX;have az:=hv.frame f2 hg;have a0:=f1.size;refine qaa (fun z=>?_) (fun z=>?_);have R:i<pages.length:=(by have:=zC z;dsimp only at this;omega);have U:i<A.length:=(by omega);have aj:i<I.length:=(by omega);have aA:Rds encS 1 FD w1 s1 I:=q1.rds qn9 (fun b u hm=>by have:=h.lt b hm;have:=n1 b u;omega);have ak:Rds encS 1 FD w2 s1 I:=aA.frame Q (fun b u=>.inl u);have al:Rd FD w2 sp pages:=hp.frame f2 (fun b u=>.inl u);refine Rds.get (y:=I[i]) ak i rfl (zA aj) rfl ?_;refine Rd.at al i rfl (zA R) ?_;have am:RdB FD w1 I[i] A[i]:=(q3 i _ _ (zA aj) (zA U)).weak fun b u=>.inl (zH _ u);have ad:RdB FD w2 I[i] A[i]:=am.frame Q (fun b u=>.inl u);have aB:=(J.2 _ (zW U)).1;have a2:=ay _ (zW R);refine qlv ad az (by omega) (fun h=>by omega) fun _ b3 T3 w3 c3 f3 n3=>?_;refine Rd.at (al.frame0 f3) i rfl (zA R) ?_;rw[wi' pages[i] (by omega)];have V:=qb0 (number:=pages[i]) (kind:=2) aB;refine qmt (S:=[]) (ah.frame0 f3) ac.ok (qge (o:=0) (n:=512) c3 (by rw[V];exact zM _) (zM _) (by simp)) fun F4 w4 d4 f4 n4=>?_;rw[xD,zS (by rw[V];exact zM _)] at d4⊢;have E:∀b∈F',b∈FD\/w.heap.size<=b:=fun b u=>by rcases n2 b u with h|h;exact .inl h;exact .inr (by omega)
 have a5:w2.heap.size<=w3.heap.size:=f3.size;have a6:=Q.size;have an:Fr FD w w4:=(f2.trans' f3 (by simp)).trans' f4 E;have aG:Fr FD w1 w4:=(Q.trans' f3 (by simp)).trans' f4 n2;have ao:∀b∈F4,b∈FD\/w1.heap.size<=b:=fun b u=>by rcases n4 b u with h|h;exact n2 b h;exact .inr (by omega)
 rw[qmX R U (numbers:=numbers),xK,writesM] at he;refine qaa (fun z=>?_) (fun z=>?_);have z:(writeM D' pages[i] (sealV pages[i] 2 A[i])).2≠0:=(by simpa using z);have aH:andThen (writesM ((pages.zip A).map fun x=>(x.1,sealV x.1 2 x.2)) D) syncM=writeM D' pages[i] (sealV pages[i] 2 A[i]):=by rw[he];show andThen (andThen (writeM D' pages[i] (sealV pages[i] 2 A[i])) _) syncM=_;rw[show ∀f,andThen (writeM D' pages[i] (sealV pages[i] 2 A[i])) f=writeM D' pages[i] (sealV pages[i] 2 A[i]) from fun f=>if_neg z];exact if_neg z
 rw[aH] at hk;exact hk F4 w4 d4 an (fun b u=>by rcases ao b u with h|h;exact .inl h;exact .inr (by omega));have z:(writeM D' pages[i] (sealV pages[i] 2 A[i])).2=0:=(by simpa using z);rw[wi' _ (by omega)];refine hX _ _ ⟨i+1,0,F4,(writeM D' pages[i] (sealV pages[i] 2 A[i])).1,by simp,by omega,d4,?_,an,aG,ao,?_⟩ (by omega)
 have:=ac.write (n:=pages[i]) (l:=sealV pages[i] 2 A[i]) (by omega) (qfc (by decide) (J.2 _ (zW U)).2)
 rw[Nat.add_assoc] at this;exact this;rw[he];show andThen (andThen (writeM D' pages[i] (sealV pages[i] 2 A[i])) _) syncM=_;rw[show ∀f,andThen (writeM D' pages[i] (sealV pages[i] 2 A[i])) f=f (writeM D' pages[i] (sealV pages[i] 2 A[i])).1 from fun f=>if_pos z];have:i=pages.length:=(by have:=zB z;dsimp only at this;omega);subst this;have aI:(pages.zip A).drop pages.length=[]:=xY (qkJ _ _);rw[aI] at he;have aJ:andThen (writesM ((pages.zip A).map fun x=>(x.1,sealV x.1 2 x.2)) D) syncM=syncM D':=he;rw[aJ] at hk;refine qog ah ac.ok fun F3 w3 d3 f3 n3=>?_;have E:∀b∈F',b∈FD\/w.heap.size<=b:=fun b u=>by rcases n2 b u with h|h;exact .inl h;exact .inr (by omega)
 exact hk F3 w3 d3 (f2.trans' f3 E) fun b u=>E b (n3 b u)
section
structure DS (dbk:Nat) (w:World) (FD:List Nat) (w':World) (F':List Nat) (D':DiskM) (k:Nat):Prop where
 at_:DiskAt w' dbk F' D'
 lim:Lim D' k
 fr:Fr FD w w'
 nw:∀ b∈F',b∈FD\/w.heap.size<=b
variable {dbk:Nat}
theorem DS.refl{w:World}{FD:List Nat}{D:DiskM}{k:Nat}(h:DiskAt w dbk FD D)(u:Lim D k):DS dbk w FD w FD D k:=⟨h,u,.refl _ _,fun b y=>.inl y⟩
theorem DS.trans{w y z:World}{FD F1 F2:List Nat}{C A:DiskM}{E k2:Nat}(h:DS dbk w FD y F1 C E)(g:DS dbk y F1 z F2 A k2):DS dbk w FD z F2 A k2:=
 ⟨g.at_,g.lim,h.fr.trans' g.fr h.nw,fun b G=>by rcases g.nw b G with u|u;exact h.nw b u;exact .inr (zL h.fr.size u)⟩
theorem DS.frame0{w u y:World}{FD F1:List Nat}{z:DiskM}{A:Nat}(h:DS dbk w FD u F1 z A)(f:Fr [] u y):DS dbk w FD y F1 z A:=
 ⟨h.at_.frame0 f,h.lim,h.fr.trans' f (by simp),h.nw⟩
theorem DS.hv{w u:World}{FD F1:List Nat}{C:DiskM}{E:Nat}(h:DS dbk w FD u F1 C E)(y:Hv w)(z:HG∉FD):Hv u/\HG∉F1:=
 ⟨y.frame h.fr z,fun G=>by
  rcases h.nw _ G with A|A;exact z A
  have:=y.lt;omega⟩
theorem DS.rd{w u:World}{FD F1:List Nat}{y:DiskM}{z:Nat}{s:Sl}{l:List Int}(h:DS dbk w FD u F1 y z)(A:Rd FD w s l):Rd F1 u s l:=A.frame h.fr h.nw
theorem DS.lims{w u:World}{FD F1:List Nat}{y:DiskM}{z k2:Nat}(h:DS dbk w FD u F1 y z)(A:z<=k2):DS dbk w FD u F1 y k2:=⟨h.at_,h.lim.mono A,h.fr,h.nw⟩
theorem qfq{w u:World}{FD F1:List Nat}{D:DiskM}{k:Nat}{n:Int}{s:Sl}{l:List Int}{S:List Nat}{K:Int->WP}(h:DS dbk w FD u F1 D k)(E:k<1000000)(G:RdB S u s l)(I:IsB l)(J:∀y z,DS dbk w FD y z (writeM D n l).1 (k+1)->Fr F1 u y->(∀b∈z,b∈F1\/u.heap.size<=b)->K (writeM D n l).2 y): cW 99 [.pointer (pW dbk),.i n,s.v] [.one .i] u K:=by refine qmt h.at_ h.lim.ok G fun z y Q A C=>?_;exact J y z (h.trans ⟨Q,h.lim.write E I,A,C⟩) A C
theorem qn3{w y:World}{FD F1:List Nat}{D:DiskM}{k:Nat}{K:Int->WP}(h:DS dbk w FD y F1 D k)(G:∀u z,DS dbk w FD u z (syncM D).1 k->Fr F1 y u->(∀b∈z,b∈F1\/y.heap.size<=b)->K (syncM D).2 u): cW 100 [.pointer (pW dbk)] [.one .i] y K:=by refine qog h.at_ h.lim.ok fun z u I C E=>?_;exact G u z (h.trans ⟨I,h.lim.sync,C,fun b A=>.inl (E b A)⟩) C (fun b A=>.inl (E b A))
theorem qn5{w z:World}{FD F1:List Nat}{D:DiskM}{k:Nat}{s:Sup}{K:Int->WP}(h:DS dbk w FD z F1 D k)(hk:k<1000000)(hv:Hv z)(Q:s.2.length=27)(hq:0<=s.1)(E:∀G V,DS dbk w FD G V (sealM D s).1 (k+1)->Fr F1 z G->(∀b∈V,b∈F1\/z.heap.size<=b)->K (sealM D s).2 G): cW 103 [.pointer (pW dbk),.agg (supV s.1 s.2).toArray] [.one .i] z K:=by
 refine qm3 ?_;unfold qjA;refine Own.new' (Own.start [] z) fun r G e2 f2 I=>?_;have c0:(supV s.1 s.2).toArray[0]?=some (.int .u64 s.1):=rfl;refine Own.ld I.drew 0 rfl s.1 c0 ?_;refine qd8 (I.drew.at (i:=0) rfl) Q ?_;refine qr1 (hv.frame0 I.drew.fr) Q fun b T w3 c3 f3 n3=>?_;have u:=I.drew.frame0 f3;refine qai (u.cell 0 rfl c0) ?_;have ht:=Int.tmod_eq_emod_of_nonneg (b:=2) hq;rw[wi' (Int.tmod s.1 2) (by omega)];have y:(sealV (IntKind.wrap .u32 (Int.tmod s.1 2)) 1 (superB s.1 s.2)).length=512:=qb0 (by rw[qca Q];decide);have R:RdB [] w3 ⟨pW b,512,512⟩ (superP s).2:=by
  have:=qge (S:=[]) (o:=0) (n:=512) (cap:=512) c3 (by rw[y];exact zM _) (zM _) (by simp)
  rw[xD,zS (Nat.le_of_eq y)] at this;exact this
 show cW 99 [.pointer (pW dbk),.i (superP s).1,_] _ _ _;refine qfq (h.frame0 u.fr) hk R (qq2 s) fun w4 F4 J f4 n4=>?_;have am:=u.fr.size;refine qaa (fun A=>?_) (fun A=>?_);have A:(writeM D (superP s).1 (superP s).2).2≠0:=(by simpa using A);have e:sealM D s=writeM D (superP s).1 (superP s).2:=if_neg A;rw[e] at E;exact E w4 F4 J ((u.fr.mono fun b C=>by cases C).trans f4) fun b C=>by rcases n4 b C with h|h;exact .inl h;exact .inr (by omega)
 have A:(writeM D (superP s).1 (superP s).2).2=0:=(by simpa using A);have e:sealM D s=syncM (writeM D (superP s).1 (superP s).2).1:=if_pos A;rw[e] at E;refine qn3 J fun w5 F5 U f5 n5=>?_;have g4:DS dbk z F1 w4 F4 (writeM D (superP s).1 (superP s).2).1 (k+1):=⟨J.at_,J.lim,(u.fr.mono (T:=F1) fun b C=>by cases C).trans f4,fun b C=>by rcases n4 b C with h|h;exact .inl h;exact .inr (by omega)⟩;have g5:=g4.trans ⟨U.at_,U.lim,f5,n5⟩;exact E w5 F5 U g5.fr g5.nw
theorem qlk{w u:World}{FD F1:List Nat}{D:DiskM}{k:Nat}{sn I:Sl}{numbers pages:List Int}{K:Int->WP}(h:DS dbk w FD u F1 D k)(y:k+pages.length<=1000000)(R:Hv u)(U:HG∉F1)(V:Rd F1 u sn numbers)(hp:Rd F1 u I pages)(C:numbers.length<=100000)(E:pages.length<=100000)(G:∀x∈pages,U32 x)(kk:∀z A,DS dbk w FD z A (spreadM D numbers pages).1 (k+pages.length)->Fr F1 u z->(∀b∈A,b∈F1\/u.heap.size<=b)->K (spreadM D numbers pages).2 z): cW 102 [.pointer (pW dbk),sn.v,I.v] [.one .i] u K:=by refine qqd h.at_ h.lim y R U V hp C E G fun A z d2 J Q=>?_;exact kk z A (h.trans ⟨d2,h.lim.spread y,J,Q⟩) J Q
theorem qhb(a:DiskM×Int)(f g:DiskM->DiskM×Int):andThen (andThen a f) g=andThen a fun D=>andThen (f D) g:=by unfold andThen;by_cases h:a.2=0;rw[if_pos h,if_pos h];rw[if_neg h,if_neg h,if_neg h]
theorem qbS{a:DiskM×Int}{f:DiskM->DiskM×Int}(h:a.2≠0):andThen a f=a:=if_neg h
theorem qb8{a:DiskM×Int}{f:DiskM->DiskM×Int}(h:a.2=0):andThen a f=f a.1:=if_pos h
theorem qqQ{a b c:Int}(w:World):(Instr.build 121 #[(0,.int .u64 1),(1,.u a),(2,.u b),(3,.u c)]).run Tryz.prog w=.ok (.agg (supV 1 ([a,b,c]++zs 24)).toArray) w:=by obtain⟨z,A,h⟩:=yS.1 qeL;have y:z.cells=(supV 0 (zs 27)).toArray:=(by rw[<- h]);refine qdH (parts:=[(0,.int .u64 1),(1,.u a),(2,.u b),(3,.u c)]) (offs:=#[(0,1),(1,1),(2,1),(3,1),(4,24)]) A (by kernel_rfl) (fun w=>by kernel_rfl) ?_ w;rw[y,qaG (o:=0) (s:=1) rfl rfl (zO rfl),qaG (o:=1) (s:=1) rfl rfl (zO rfl),qaG (o:=2) (s:=1) rfl rfl (zO rfl),qaG (o:=3) (s:=1) rfl rfl (zO rfl)];rfl
theorem qqp{w:World}{FD:List Nat}{D:DiskM}{k:Nat}{K:Int->WP}(h:DiskAt w dbk FD D)(hl:Lim D k)(hk:k<=900000)(h8:2<=D.safe.length)(hv:Hv w)(hg:HG∉FD)(y:∀w' F',DS dbk w FD w' F' (formatM D).1 (k+5000)->K (formatM D).2 w'): cW 58 [.pointer (pW dbk)] [.one .i] w K:=by
 refine qkQ ?_;unfold qha;have ah:=hl.ok.safe;have h0:=DS.refl h hl;have A:(zs 512).length=512:=qaJ _;have I:∀ {S0:List Nat} {w0 w':World} {L:List (Nat×Obj)} {b:Nat} {T:TypeId},Own S0 w0 w' ((b,.cells (List.replicate (512:Int).toNat (Value.int .u8 0)).toArray T (0,0))::L)->RdB [] w' ⟨pW b,(512:Int).toNat,(512:Int).toNat⟩ (zs 512):=fun ho=>by
  have z:=ho.at (i:=0) rfl;rw[qou] at z
  have:=qge (S:=[]) (o:=0) (n:=512) (cap:=512) z (by rw[show (512:Int).toNat=512 from rfl,A];exact zM _) (zM _) (by simp)
  rw[xD,zS (by rw[show (512:Int).toNat=512 from rfl,A];exact zM _)] at this;exact this
 refine qdE fun X hX=>?_;refine cond_true rfl ?_;refine Own.mk1 (Own.start [] w) (by decide) (by decide) (by decide) (by decide) fun b1 w1 e1 J=>?_;refine qfq (h0.frame0 J.fr) (by omega) (I J) (IsB.zs 512) fun w2 F2 d2 f2 n2=>?_;refine qaa (fun u=>?_) (fun u=>?_);have u:(writeM D 0 (zs 512)).2≠0:=(by simpa using u);have e:formatM D=writeM D 0 (zs 512):=qbS u;rw[e] at y;exact y w2 F2 (d2.lims (by omega));have aj:(writeM D 0 (zs 512)).2=0:=(by simpa using u);rw[formatM,qb8 aj] at y;have ak:=qgU (D:=D) (n:=0) (l:=zs 512);generalize (writeM D 0 (zs 512)).1=D2 at d2 y ak;rw[wi' (0+1) (by decide)];refine hX _ _ (qms 1 rfl fun X hX=>?_);refine cond_true rfl ?_;refine Own.mk1 (Own.start [] w2) (by decide) (by decide) (by decide) (by decide) fun b3 w3 e3 Q=>?_;refine qfq (d2.frame0 Q.fr) (by omega) (I Q) (IsB.zs 512) fun w4 F4 d4 f4 n4=>?_;refine qaa (fun u=>?_) (fun u=>?_);have u:(writeM D2 1 (zs 512)).2≠0:=(by simpa using u);rw[qbS u] at y;exact y w4 F4 (d4.lims (by omega));have an:(writeM D2 1 (zs 512)).2=0:=(by simpa using u);rw[qb8 an] at y;have ao:=qgU (D:=D2) (n:=1) (l:=zs 512);generalize (writeM D2 1 (zs 512)).1=D4 at d4 y ao;rw[wi' (1+1) (by decide)];refine hX _ _ (qms 2 rfl fun X hX=>?_);refine cond_false rfl ?_;refine qn3 d4 fun w5 F5 R f5 n5=>?_;refine qaa (fun u=>?_) (fun u=>?_);have u:(syncM D4).2≠0:=(by simpa using u);rw[qbS u] at y;exact y w5 F5 (R.lims (by omega));have ar:(syncM D4).2=0:=(by simpa using u);rw[qb8 ar] at y;have au:=qmI (D:=D4);generalize (syncM D4).1=U at R y au;have av:U.safe.length=D.safe.length:=(by omega);have al:=qdf D.safe.length;obtain⟨aw,ax⟩:=R.hv hv hg;refine qah (fun x w'=>∃(i:Nat) (B:List Nat),x.2=((i+2:Nat):Int)/\i<=D.safe.length-2/\BufU w' x.1 ((allV D.safe.length).take i) B/\Fr [] w5 w'/\∀b∈B,w5.heap.size<=b) (fun x _=>((D.safe.length:Int)-x.2).toNat)
  ⟨0,[],rfl,by omega,.nil _ _ _,.refl _ _,by simp⟩ ?_
 rintro⟨s,x⟩ w6 ⟨i,B,hx,hi,z,f6,n6⟩ Y hY;simp only at hx z;subst hx;have d6:=R.frame0 f6;refine qhx d6.at_ ?_;dsimp only;refine qaa (fun u=>?_) (fun u=>?_);have az:i<D.safe.length-2:=(by have:=zC u;omega);rw[qaZ ((i+2:Nat):Int) (by omega)];refine qqR z (by rw[yK];omega) fun s7 B7 w7 b7 f7 n7=>?_;rw[wi' _ (by omega)];refine hY _ _ ⟨i+1,B7,by simp;omega,by omega,?_,f6.trans' f7 (fun b z=>.inr (n6 b z)),fun b z=>?_⟩ (by dsimp only;omega);have e:(allV D.safe.length).take (i+1)=(allV D.safe.length).take i++[((i+2:Nat):Int)]:=by rw[yF (by omega)];congr 2;have h1:=qpE az;have h2:=zA (l:=allV D.safe.length) (i:=i) (by omega);rw[h2] at h1;rw[yN h1];simp
 rw[e];exact b7;rcases n7 b z with h|h;exact n6 b h;exact zL f6.size h;have aA:i=D.safe.length-2:=(by have:=zB u;omega);subst aA;rw[zS (by omega)] at z;have aB:=z.len;rw[aB];refine qnJ (by omega) ?_;have V:=qka (n:=(allV D.safe.length).length);have aa:∀b∈B,b∉F5:=fun b z hm=>by have:=n6 b z;have:=R.at_.lt b hm;omega
 have C:Rd F5 w6.drew s (allV D.safe.length):=(z.frame0 (Fr.refl [] w6).drew).rds qaF aa;refine Rds.part (k:=1) C (needP (allV D.safe.length).length) (allV D.safe.length).length rfl (by show (s.len:Int)=_;omega) V (zM _) fun sn a1 rn _=>?_;refine Rds.part (k:=1) C 0 (needP (allV D.safe.length).length) rfl rfl (by omega) V fun sp a2 rp _=>?_;rw[xW] at rn;rw[xD] at rp;have aC:=d6.frame0 (Fr.refl [] w6).drew;have aD:=(aw.frame0 f6).frame0 (Fr.refl [] w6).drew;rw[av] at y;refine qlk aC (by rw[yK];omega) aD ax rn rp (by rw[yB];omega) (by rw[yK];omega) (fun x hx=>by
  have:=qc8.1 (yU hx)
  constructor<;>omega) fun w7 F7 E f7 n7=>?_
 have E:=E.lims (k2:=k+2+4096) (by rw[yK];omega);refine qaa (fun u=>?_) (fun u=>?_);have u:(spreadM U ((allV D.safe.length).drop (needP (allV D.safe.length).length)) ((allV D.safe.length).take (needP (allV D.safe.length).length))).2≠0:=(by simpa using u);rw[qbS u] at y;exact y w7 F7 (E.lims (by omega));have aE:(spreadM U ((allV D.safe.length).drop (needP (allV D.safe.length).length)) ((allV D.safe.length).take (needP (allV D.safe.length).length))).2=0:=(by simpa using u);rw[qb8 aE] at y;have aF:=qpj (D:=U) (a:=(allV D.safe.length).drop (needP (allV D.safe.length).length)) (b:=(allV D.safe.length).take (needP (allV D.safe.length).length));generalize (spreadM U ((allV D.safe.length).drop (needP (allV D.safe.length).length)) ((allV D.safe.length).take (needP (allV D.safe.length).length))).1=D7 at E y aF;have aG:D7.safe.length=D.safe.length:=(by omega);refine qhx E.at_ ?_;rw[aG] at y⊢;have G:IntKind.wrap .i64 (((allV D.safe.length).length:Int)-(needP (allV D.safe.length).length:Int))=((allV D.safe.length).length:Int)-(needP (allV D.safe.length).length:Int):=wi' _ (by omega);rw[G];refine qaU (ts:=[Ty1.raw]) (supV (fmtSup D.safe.length).1 (fmtSup D.safe.length).2) (qqQ w7) ?_;refine qn5 (s:=fmtSup D.safe.length) E (by omega) (E.hv hv hg).1 rfl (by show (0:Int)<=1;decide) fun w8 F8 d8 f8 n8=>?_;exact y w8 F8 (d8.lims (by omega))
end
section
structure PgM.Wf (M:PgM):Prop where
 n4:M.sup.2.getD 0 0<=4096
 u32:∀ x∈M.sup.2,U32 x
 roots:∀ x∈M.roots,U32 x
 namedS:M.named.Pairwise (· < ·)
 named:∀ x∈M.named,2<=x/\x<M.sup.2.getD 0 0
 freeS:M.free.Pairwise (· < ·)
 defS:M.deferred.Pairwise (· < ·)
 nodup:(M.free++(M.deferred++(M.lists++M.fresh.map (·.1)))).Nodup
 range:∀ x∈M.free++(M.deferred++(M.lists++M.fresh.map (·.1))),2<=x/\x<M.sup.2.getD 0 0
 body:∀ e∈M.fresh,(0<=e.2.1/\e.2.1<256)/\e.2.2.length<=500/\IsB e.2.2
theorem qu4{l:List Int}{n:Int}(u:l.Nodup)(h:∀x∈l,2<=x/\x<n)(y:n<=4096):l.length<=4096:=by rcases qeg u h with h|h;omega;rw[h];simp
theorem PgM.Wf.all(M:PgM)(h:M.Wf):M.free.length+M.deferred.length+M.lists.length+M.fresh.length<=4096:=by
 have:=qu4 h.nodup h.range h.n4
 simp only[zF,zK] at this;omega
section
variable {w:World} {X:List Nat} {pb:Nat} {db:Option Addr} {F:List Nat} {M:PgM}
theorem Rds.part3{α:Type}{enc:α->List Value}{k:Nat}{S:List Nat}{w:World}{s:Sl}{l:List α}(h:Rds enc k S w s l){hi:Int}(b:Nat){K:Sl->Prop}(y:hi=b)(V:b<=l.length)(E:∀C,Rds enc k S w C (l.take b)->K C):slc s none (some hi) (some hi) k K:=by
 subst y;obtain⟨h1,h2,z⟩:=h;unfold slc;refine⟨by simp;omega,E _ ?_⟩;simp only[xS,xR,Int.toNat_zero,zJ,Nat.zero_mul,Nat.sub_zero];have e:(if b=0 then s.a else s.a.map (·.add 0))=s.a:=by
  split;rfl;cases s.a with
  | none=>rfl
  | some a=>simp[qhY]
 rw[e];refine⟨by rw[yK];dsimp only;omega,zM _,?_⟩;rcases z with z|⟨G,o,I,T,J,Q,A,R,U⟩;left;rw[z];simp;refine .inr ⟨G,o,I,T,J,Q,A,R,fun i x u=>?_⟩;rw[xA] at u;split at u;exact U i x u;cases u
theorem PagerAt.xlt{w:World}{X:List Nat}{pb:Nat}{db:Option Addr}{F:List Nat}{M:PgM}(h:PagerAt w X pb db F M):∀b∈X,b<w.heap.size:=by obtain⟨fb,defb,mb,sl,sn,y,z,A,rfl,u⟩:=h;exact u.xlt
theorem qsR{K:Sl×Sl×Bool->WP}(h:PagerAt w X pb db F M)(hW:M.Wf)(al:planM M=none->∀w',Fr [] w w'->K (⟨none,0,0⟩,⟨none,0,0⟩,false) w')(hk:∀sp sn pages named w',planM M=some (pages,named)->Fr [] w w'->(∀G:List Nat,(∀b∈G,b<w.heap.size)->Rd G w' sp pages/\Rd G w' sn named)->K (sp,sn,true) w'): cW 79 [.pointer (pW pb)] [.one .slice,.one .slice,.one .bool] w K:=by
 have aA:=PgM.Wf.all M hW;obtain⟨fb,defb,mb,sl,sn,F1,F2,fs,rfl,A⟩:=h;refine qhm ?_;unfold qd1;refine qae (qak A.cell (pW fb) (qel A.suplen) ?_);refine qpD A.free (by omega) fun C y t1 f1=>?_;obtain⟨B1,b1,n1⟩:=qoz t1;have ab:Fr [] w y.drew:=f1.drew;have E:=A.frame0 ab;refine qae (qak (w:=y.drew) (c:=.ptr) E.cell (pW defb) (qkB A.suplen) ?_);refine qae (qak (w:=y.drew) (c:=.slice) E.cell sl (qjT A.suplen) ?_);refine qpD E.deferred (by omega) fun s2 w2 t2 f2=>?_;obtain⟨B2,b2,n2⟩:=qoz t2;have ac:=ab.trans f2;have ad:=A.frame0 ac;refine qai (by show _=_;rw[qag ad.cell];exact qjT A.suplen) ?_;refine qqf b2 ad.rows.lists (by omega) fun s3 B3 w3 b3 f3 n3=>?_;have I:∀b∈B1,b<y.drew.heap.size:=fun b u=>(b1.frame0 (Fr.refl [] y).drew).lt b u;have ap:=(b1.frame0 (Fr.refl [] y).drew).frame0 f2;have J:BufU w3 C M.free B1:=ap.frame f3 (fun b u z=>by have:=I b u;have:=n2 b z;omega);have aR:w.heap.size<=y.heap.size:=f1.size;have aS:=f2.size;have aT:y.drew.heap.size=y.heap.size:=rfl;have Q:∀b∈B3,y.drew.heap.size<=b:=fun b u=>by rcases n3 b u with h|h;exact n2 b h;omega
 have ae:Fr [] w w3:=ac.trans' f3 fun b u=>.inr (by have:=n2 b u;omega);have l1:=J.len;have l3:=b3.len;rw[zF] at l3;rw[wi' _ (by omega)];have e:(C.len:Int)+(s3.len:Int)=((M.free.length+(M.deferred++M.lists).length:Nat):Int):=(by rw[zF];omega);rw[e];refine qnJ (by rw[zF];omega) ?_;generalize af:needP (M.free.length+(M.deferred++M.lists).length)=k;refine qaa (fun hc=>?_) (fun hc=>?_)
 have:=zC hc
 exact al (by rw[planM,af,if_pos (by omega)]) w3 ae;have ag:k<=M.free.length:=(by have:=zB hc;omega);have R:planM M=some (M.free.take k,insAll ((M.deferred++M.lists)++M.free.drop k)):=(by rw[planM,af,if_neg (by omega)]);have U:Rd [] w3 C M.free:=J.rds qaF (by simp);refine Rds.part (k:=1) U k M.free.length rfl (by show (C.len:Int)=_;omega) ag (zM _) fun s4 aV r4 _=>?_;rw[xW] at r4;refine qqf b3 r4 (by rw[zF,yB];omega) fun s5 B5 w5 b5 f5 n5=>?_;have V:∀b∈B5,y.drew.heap.size<=b/\b∉B1:=fun b u=>by
  have hh:y.drew.heap.size<=b:=by
   rcases n5 b u with h|h;exact Q b h
   have:=f3.size;omega
  exact⟨hh,fun z=>by have:=I b z;omega⟩
 have ar:BufU w5 C M.free B1:=J.frame f5 (fun b u z=>by have:=I b u;have:=Q b z;omega);refine qn8 b5 (by rw[zF,zF,yB];omega) fun l6 w6 b6 p6 o6 f6=>?_;have au:BufU w6 C M.free B1:=ar.frame f6 (fun b u z=>(V b z).2 u);have av:((M.deferred++M.lists)++M.free.drop k).Nodup:=by
  have h:=hW.nodup;have hp:(M.free++(M.deferred++(M.lists++M.fresh.map (·.1)))).Perm (((M.deferred++M.lists)++M.free)++M.fresh.map (·.1)):=by rw[<- zV M.deferred,<- zV M.free];exact perm_append_comm.append_right _
  have h2:=(hp.nodup_iff.1 h).sublist (sublist_append_left _ _);exact h2.sublist ((List.Sublist.refl _).append (drop_sublist _ _))
 have aw:l6=insAll ((M.deferred++M.lists)++M.free.drop k):=qc9 p6 o6 av;rw[aw] at b6;have ax:Fr [] w w6:=(ae.trans' f5 fun b u=>.inr (by have:=Q b u;omega)).trans' f6 fun b u=>.inr (by have:=(V b u).1;omega);have ai:∀G:List Nat,(∀b∈G,b<w.heap.size)->Rd G w6 C M.free/\Rd G w6 s5 (insAll ((M.deferred++M.lists)++M.free.drop k)):=fun G hG=>
  ⟨au.rds qaF fun b u z=>by have:=hG b z;have:=n1 b u;omega,b6.rds qaF fun b u z=>by have:=hG b z;have:=(V b u).1;omega⟩
 refine Rds.part3 (ai (List.range w.heap.size) (by simp)).1 k rfl ag fun s7 r7=>?_;exact hk s7 s5 _ _ w6 R ax fun G hG=>⟨r7.weak fun b u=>.inl (mem_range.2 (hG b u)),(ai G hG).2⟩
end
theorem qon{w:World}{mb:Nat}{y:List (Int×Leaf)}{n:Int}{K:Int×Sl->Prop}(h:MapAt u32V w mb (y.map fun e=>(e.1,leafV e.2)))(A:∀q,look n y=some q->K (q.2.1,q.2.2.1))(C:look n y≠none): runQ [Ty1.agg [Cell.int .u8,Cell.slice]] (fun w'=>(Instr.lookup MLT (.map (some mb)) (.u n) false).run Tryz.prog w') w K:=by
 have:=qd7 (P:=Tryz.prog) qlE quD qb7 h n
 rw[qbL,qb1] at this;cases z:look n y with
 | none=>exact absurd z C
 | some q=>
  rw[z] at this;exact qaU (ts:=[Ty1.agg [Cell.int .u8,Cell.slice]]) (q.2.1,q.2.2.1) this (A q z)
theorem qsu{dbk k:Nat}{w C:World}{FD F1:List Nat}{D:DiskM}{pb:Nat}{F:List Nat}{M:PgM}{sp sn:Sl}{pages named:List Int}{next:Sup}{K:Int->WP}(h:DS dbk w FD C F1 D k)(hp:PagerAt C F1 pb (pW dbk) F M)(ac:∀e∈M.fresh,(0<=e.2.1/\e.2.1<256)/\e.2.2.length<=500/\IsB e.2.2)(aD:(M.fresh.map (·.1)).Nodup)(aE:∀x∈M.fresh.map (·.1),U32 x)(aF:M.fresh.length<=100000)(bh:k+M.fresh.length+pages.length+1<=1000000)(hv:Hv C)(hg:HG∉F1)(hn:Rd F1 C sn named)(aH:Rd F1 C sp pages)(aI:named.length<=100000)(aJ:pages.length<=100000)(aK:∀x∈pages,U32 x)(hs:next.2.length=27)(hq:0<=next.1)(V:∀w2 F2,DS dbk w FD w2 F2 (flushM D M.fresh pages named next).1 (k+M.fresh.length+pages.length+1)->Fr F1 C w2->(∀b∈F2,b∈F1\/C.heap.size<=b)->K (flushM D M.fresh pages named next).2 w2): cW 80 [.pointer (pW pb),sp.v,sn.v,.agg (supV next.1 next.2).toArray] [.one .i] C K:=by
 refine qgv ?_;unfold qdJ;refine Own.new' (Own.start [] C) fun r w2 e2 f2 ho=>?_;refine qsx (hp.frame0 f2) aF fun s3 B3 y w3 b3 p3 o3 f3 n3=>?_;have aN:y=insAll (M.fresh.map (·.1)):=qc9 p3 o3 aD;have aO:y.length=M.fresh.length:=(by have:=p3.length_eq;rw[zK] at this;exact this);have ad:∀x∈y,x∈M.fresh.map (·.1):=fun x J=>p3.mem_iff.1 J;have z:Fr [] C w3:=f2.trans f3;have hW:freshW M.fresh=y.map fun n=>(n,sealV n (leafOf M.fresh n).1 (leafOf M.fresh n).2):=(by rw[freshW,<- aN]);have aP:=ho.frame0 f3;have bo:=b3.len;have a':=f2.size;have au:∀b∈F1,b<C.heap.size:=h.at_.lt;have r3:Rd F1 w3 s3 y:=b3.rds qaF fun b hb hm=>by have:=n3 b hb;have:=au b hm;omega
 have aa:w3.heap[r]?=some (.cells (supV next.1 next.2).toArray 121 (0,0)):=aP.at (i:=0) rfl;have hr:r∉F1:=fun hm=>by have:=au r hm;omega
 rw[flushM,hW] at V;refine qah (fun x w'=>∃(i:Nat) (F':List Nat) (D':DiskM),x=i/\i<=y.length/\DS dbk w3 F1 w' F' D' (k+i)/\
   andThen (writesM (y.map fun n=>(n,sealV n (leafOf M.fresh n).1 (leafOf M.fresh n).2)) D) (fun D=>andThen (spreadM D named pages) fun D=>sealM D next) =
    andThen (writesM ((y.drop i).map fun n=>(n,sealV n (leafOf M.fresh n).1 (leafOf M.fresh n).2)) D') (fun D=>andThen (spreadM D named pages) fun D=>sealM D next)) (fun x _=>((y.length:Int)-x).toNat)
  ⟨0,F1,D,rfl,by omega,DS.refl (h.at_.frame0 z) h.lim,rfl⟩ ?_
 rintro x w4 ⟨i,F',D',rfl,hi,Q,he⟩ Y hY;have ag:PagerAt w4 F' pb (pW dbk) F M:=(hp.frame0 z).frameX Q.fr Q.at_.lt Q.nw;have ah:=Q.hv (hv.frame0 z) hg;have E:∀ {A:World} {F5:List Nat} {D5:DiskM} {k5:Nat},DS dbk w3 F1 A F5 D5 k5->DS dbk w FD A F5 D5 k5/\Fr F1 C A/\∀b∈F5,b∈F1\/C.heap.size<=b:=fun d5=>by have g:DS dbk C F1 _ _ _ _:=(DS.refl h.at_ h.lim).frame0 z |>.trans d5;exact⟨h.trans g,g.fr,g.nw⟩
 refine qaa (fun u=>?_) (fun u=>?_);have aj:i<y.length:=(by have:=zC u;omega);refine Rd.at (Q.rd r3) i rfl (zA aj) ?_;have ak:=ad _ (zW aj);have aQ:=aE _ ak;have G:y.drop i=y[i]::y.drop (i+1):=zX aj;generalize y[i]=x at ak aQ G;obtain⟨fb,defb,mb,sl,sm,G1,G2,fs,rfl,J⟩:=ag;have I:=J.frame0 (Fr.refl [] w4).drew;have R:=J.fresh_look x;have av:look x fs≠none:=fun hn=>by rw[hn] at R;exact qa9.1 R ak
 refine qae (qak (w:=w4.drew) (c:=.map) I.cell (some mb) (qby J.suplen) ?_);refine qon I.map.at (fun q al=>?_) av;refine qae (qak (w:=w4.drew) (c:=.map) I.cell (some mb) (qby J.suplen) ?_);refine qon I.map.at (fun q' aw=>?_) av;rw[al] at aw;cases aw;rw[al] at R;have aS:leafOf M.fresh x=(q.2.1,q.2.2.2):=(by rw[leafOf,R];rfl);have hm:=(qa6 al).2;have ab:=I.rows.bodies _ hm;have U:=ac (x,q.2.1,q.2.2.2) (by rw[J.fresh];exact mem_map.2 ⟨_,hm,rfl⟩);dsimp only at ab U;refine qlv ab (ah.1.frame0 (Fr.refl [] w4).drew) (by omega) (fun h=>by omega) fun _ b5 T5 A c5 f5 n5=>?_;have ax:Fr [] w4 A:=(Fr.refl [] w4).drew.trans f5;have am:=J.frame0 ax;refine qae (qak am.cell (pW dbk) qqZ ?_);rw[wi' x (by omega)];have ay:=qb0 (number:=x) (kind:=q.2.1) U.2.1;have aU:RdB [] A ⟨pW b5,512,512⟩ (sealV x q.2.1 q.2.2.2):=by
  have:=qge (S:=[]) (o:=0) (n:=512) (cap:=512) c5 (by rw[ay];exact zM _) (zM _) (by simp)
  rw[xD,zS (Nat.le_of_eq ay)] at this;exact this
 rw[G,xK,aS] at he;refine qfq (Q.frame0 ax) (by omega) aU (qfc U.1 U.2.2) fun w6 F6 d6 f6 n6=>?_;refine qaa (fun u=>?_) (fun u=>?_);have u:(writeM D' x (sealV x q.2.1 q.2.2.2)).2≠0:=(by simpa using u);rw[writesM,qhb,qbS u] at he;rw[he] at V;have a6:=E d6;exact V w6 F6 (a6.1.lims (by omega)) a6.2.1 a6.2.2;have u:(writeM D' x (sealV x q.2.1 q.2.2.2)).2=0:=(by simpa using u);rw[writesM,qhb,qb8 u] at he;rw[wi' _ (by omega)];exact hY _ _ ⟨i+1,F6,_,by simp,by omega,d6,he⟩ (by omega)
 ·have:i=y.length:=(by have:=zB u;omega);subst this;rw[drop_length,map_nil,writesM,andThen_ok] at he;rw[he] at V;obtain⟨fb,defb,mb,sl,sm,G1,G2,fs,hF,J⟩:=id ag;refine qae (qak J.cell (pW dbk) qqZ ?_);have aW:=Q.rd (hn.frame0 z);have az:=Q.rd (aH.frame0 z);refine qlk Q (by omega) ah.1 ah.2 aW az aI aJ aK fun A F5 d5 f5 n5=>?_;refine qaa (fun u=>?_) (fun u=>?_);have u:(spreadM D' named pages).2≠0:=(by simpa using u);rw[qbS u] at V;have a5:=E d5;exact V A F5 (a5.1.lims (by omega)) a5.2.1 a5.2.2
  ·have u:(spreadM D' named pages).2=0:=(by simpa using u);rw[qb8 u] at V;have aY:PagerAt A F5 pb (pW dbk) F M:=ag.frameX f5 d5.at_.lt n5;obtain⟨fb,defb,mb,sl,sm,G1,G2,fs,hF,am⟩:=id aY;have aZ:=am.frame0 (Fr.refl [] A).drew;refine qae (qak (w:=A.drew) (c:=.ptr) aZ.cell (pW dbk) qqZ ?_);have ao:A.drew.heap[r]?=some (.cells (supV next.1 next.2).toArray 121 (0,0)):=(by show A.heap[r]?=_;rw[d5.fr.block r (qac aa) hr];exact aa);refine qd8 ao hs ?_;refine qn5 (d5.frame0 (Fr.refl [] A).drew) (by omega) ((d5.hv (hv.frame0 z) hg).1.frame0 (Fr.refl [] A).drew) hs hq fun w6 F6 d6 f6 n6=>?_;have a6:=E d6;exact V w6 F6 (a6.1.lims (by omega)) a6.2.1 a6.2.2
end
def Ats (D:DiskM):Prop:=∀x∈D.waits,0<=x.1/\x.1<D.safe.length
theorem ql7{D:DiskM}(h:(actM D).2=false)(u:D.down=false):(actM D).1.down=false:=by unfold actM at h⊢;split;rename_i y;rw[if_pos y] at h;cases h;split<;>exact u
theorem qjw{D:DiskM}{n:Int}{l:List Int}(I:Ats D)(h:(writeM D n l).2=0): (writeM D n l).1.down=false/\Ats (writeM D n l).1/\(0<=n/\n<D.size)/\∀m,view (writeM D n l).1 m=if m=n then l else view D m:=by
 unfold writeM at h⊢;split;rename_i A;rw[if_pos A] at h;cases h;rename_i A;rw[if_neg A] at h;split;rename_i E;rw[if_pos E] at h;cases h;rename_i E;rw[if_neg E] at h;split;rename_i u;rw[dif_pos u] at h;have z:(actM (addW D n ⟨l,u⟩)).2=false:=by
  cases J:(actM (addW D n ⟨l,u⟩)).2 with
  | false=>rfl
  | true=>simp only[J,if_true] at h;cases h
 have C:=qcw (addW D n ⟨l,u⟩);have G:0<=n/\n<(D.safe.length:Int):=(by omega);refine⟨ql7 z (show D.down=false by simpa using A),fun x y=>?_,G,fun m=>?_⟩;show 0<=x.1/\x.1<((actM (addW D n ⟨l,u⟩)).1.safe.length:Int);rw[C.1];have y:x∈(actM (addW D n ⟨l,u⟩)).1.waits:=y;rw[C.2] at y;rcases zD.1 y with y|y;exact I x y;simp at y;subst y;exact G;show view (actM (addW D n ⟨l,u⟩)).1 m=_;rw[view,C.1,C.2,addW];dsimp only;rw[qes];by_cases hm:m=n;rw[if_pos hm,if_pos hm.symm];rw[if_neg hm,if_neg (fun e=>hm e.symm),view];rename_i u;rw[dif_neg u] at h;cases h
theorem qkz{D:DiskM}(A:Ats D)(h:(syncM D).2=0):(syncM D).1.down=false/\(syncM D).1.waits=[]/\∀m,0<=m->view (syncM D).1 m=view D m:=by unfold syncM at h⊢;split;rename_i y;rw[if_pos y] at h;cases h;rename_i y;rw[if_neg y] at h;split;rename_i z;rw[if_pos z] at h;cases h;rename_i z;have u:(actM D).2=false:=(by simpa using z);refine⟨ql7 u (by simpa using y),rfl,fun m C=>?_⟩;obtain⟨k,rfl⟩:∃k:Nat,m=k:=⟨m.toNat,by omega⟩;show ((D.waits.foldl laySafe D.safe).getD (k:Int).toNat .zero).1=_;rw[zJ,qjR k _ _ A,view,zJ];cases lastW (k:Int) D.waits<;>rfl
theorem qpp{D:DiskM}(h:D.waits=[]):Ats D:=fun x u=>by rw[h] at u;cases u
theorem qgm{r:DiskM×Int}{f:DiskM->DiskM×Int}(h:(andThen r f).2=0):r.2=0/\(f r.1).2=0/\andThen r f=f r.1:=by unfold andThen at h⊢;by_cases h0:r.2=0;rw[if_pos h0] at h⊢;exact⟨h0,h,rfl⟩;rw[if_neg h0] at h;exact absurd h h0
theorem qeS:∀ {l:List (Int×List Int)} {D:DiskM},Ats D->D.down=false->(writesM l D).2=0->(l.map (·.1)).Nodup-> (writesM l D).1.down=false/\Ats (writesM l D).1/\(∀x∈l,view (writesM l D).1 x.1=x.2)/\∀m,m∉l.map (·.1)->view (writesM l D).1 m=view D m
 | [],D,z,E,_,_=>⟨E,z,(fun x u=>by cases u),fun m _=>rfl⟩
 | y::l,D,z,E,h,A=>by obtain⟨J,K,Q⟩:=qgm (show (andThen (writeM D y.1 y.2) (writesM l)).2=0 from h);obtain⟨R,U,_,G⟩:=qjw z J;rw[xK,nodup_cons] at A;obtain⟨V,a2,v2,I⟩:=qeS (l:=l) U R K A.2;rw[show writesM (y::l) D=writesM l (writeM D y.1 y.2).1 from Q];refine⟨V,a2,fun x u=>?_,fun m C=>?_⟩;rcases zG.1 u with rfl|u;rw[I _ A.1,G,if_pos rfl];exact v2 x u;rw[xK,zG,not_or] at C;rw[I m C.2,G,if_neg C.1]
theorem qnA{D:DiskM}{n:Int}{numbers pages:List Int}(I:Ats D)(J:D.down=false)(y:ListOk n numbers pages)(h:(spreadM D numbers pages).2=0): (spreadM D numbers pages).1.down=false/\(spreadM D numbers pages).1.waits=[]/\Listed (spreadM D numbers pages).1 numbers pages/\∀m,0<=m->m∉pages->view (spreadM D numbers pages).1 m=view D m:=by have C:((pages.zip (bodiesL numbers pages pages.length)).map fun x=>(x.1,sealV x.1 2 x.2)).map (·.1)=pages:=(by rw[map_map];exact qlC (by rw[qfK]));have e:spreadM D numbers pages=andThen (writesM ((pages.zip (bodiesL numbers pages pages.length)).map fun x=>(x.1,sealV x.1 2 x.2)) D) syncM:=(by rw[spreadM,y.bodies];exact if_neg (by simp));rw[e] at h;obtain⟨K,Q,R⟩:=qgm h;obtain⟨d1,U,V,E⟩:=qeS I J K (by rw[C];exact y.nodup);rw[C] at E;obtain⟨d2,w2,G⟩:=qkz U Q;rw[e,R];refine⟨d2,w2,fun i p z=>?_,fun m hm A=>by rw[G m hm,E m A]⟩;have hi:=(zP.1 z).1;have u:(p,sealV p 2 (bodyV (pages.getD (i+1) 0) (chunk numbers i)))∈(pages.zip (bodiesL numbers pages pages.length)).map fun x=>(x.1,sealV x.1 2 x.2):=(by refine mem_map.2 ⟨(p,bodyV (pages.getD (i+1) 0) (chunk numbers i)),?_,rfl⟩;refine yE (i:=i) ?_;rw[List.getElem?_zip_eq_some];exact⟨z,by rw[qgF,if_pos hi]⟩);have ae:=y.pgs _ (yE z);rw[G p (by omega)];exact V _ u
theorem qq8{D:DiskM}{s:Sup}(E:Ats D)(G:SupOk s)(h:(sealM D s).2=0): (sealM D s).1.down=false/\(sealM D s).1.waits=[]/\view (sealM D s).1 (s.1%2)=sealV (s.1%2) 1 (superB s.1 s.2)/\∀m,0<=m->m≠s.1%2->view (sealM D s).1 m=view D m:=by obtain⟨I,J,K⟩:=qgm (show (andThen (writeM D (superP s).1 (superP s).2) syncM).2=0 from h);obtain⟨U,Q,_,u⟩:=qjw E I;obtain⟨A,C,y⟩:=qkz Q J;rw[show sealM D s=syncM (writeM D (superP s).1 (superP s).2).1 from K];rw[G.superP] at u y A C⊢;refine⟨A,C,by rw[y _ (by omega),u,if_pos rfl],fun m R z=>by rw[y m R,u,if_neg z]⟩
theorem qec{M:PgM}{pages named:List Int}(h:planM M=some (pages,named)): ∃k,k=needP (M.free.length+(M.deferred++M.lists).length)/\k<=M.free.length/\pages=M.free.take k/\named=insAll ((M.deferred++M.lists)++M.free.drop k):=by unfold planM at h;split at h;cases h;rename_i y;have u:=yN h;exact⟨_,rfl,by omega,(congrArg Prod.fst u).symm,(congrArg Prod.snd u).symm⟩
theorem PgM.Wf.planNodup{M:PgM}(h:M.Wf)(k:Nat):(M.free.take k++((M.deferred++M.lists)++M.free.drop k)).Nodup:=by
 have u:(M.free++(M.deferred++(M.lists++M.fresh.map (·.1)))).Perm ((M.free.take k++((M.deferred++M.lists)++M.free.drop k))++M.fresh.map (·.1)):=by
  conv=>lhs;lhs;rw[<- xC k M.free]
  rw[<- zV M.deferred];have:(M.free.drop k++((M.deferred++M.lists)++M.fresh.map (·.1))).Perm (((M.deferred++M.lists)++M.free.drop k)++M.fresh.map (·.1)):=by rw[<- zV];exact perm_append_comm.append_right _
  rw[zV,zV (M.free.take k)];exact this.append_left _
 exact (u.nodup_iff.1 h.nodup).sublist (sublist_append_left _ _)
theorem qdl{M:PgM}{pages named:List Int}(z:M.Wf)(h:planM M=some (pages,named)):ListOk (M.sup.2.getD 0 0) named pages:=by obtain⟨k,C,A,rfl,rfl⟩:=qec h;have y:=z.planNodup k;rw[yL] at y;have E:∀x∈(M.deferred++M.lists)++M.free.drop k,2<=x/\x<M.sup.2.getD 0 0:=fun x u=>z.range x (by simp only[zD] at u⊢;rcases u with (u|u)|u;exact .inr (.inl u);exact .inr (.inr (.inl u));exact .inl (yT u));refine⟨qbP _,fun x u=>E x (qbG.1 u),fun x u=>z.range x (zH _ (yU u)),y.1,fun x u G=>y.2.2 x u x (qbG.1 G) rfl,?_⟩;have I:=(qfJ y.2.1).length_eq;have J:=qgE (n:=M.free.length+(M.deferred++M.lists).length);rw[<- C] at J;rw[I,zF,yB,yK,xN A];omega
theorem qkK{M:PgM}{pages named:List Int}(G:M.Wf)(h:planM M=some (pages,named)):∀x∈M.fresh.map (·.1),x∉pages/\x∉named:=by obtain⟨k,Q,I,rfl,rfl⟩:=qec h;intro x z;have y:=G.nodup;rw[yL] at y;have A:=y.2.1;rw[yL] at A;have C:=A.2.1;rw[yL] at C;have E:x∉M.free:=fun u=>y.2.2 x u x (zI _ (zI _ z)) rfl;have J:x∉M.deferred:=fun u=>A.2.2 x u x (zI _ z) rfl;have K:x∉M.lists:=fun u=>C.2.2 x u x z rfl;refine⟨fun u=>E (yU u),fun u=>?_⟩;have u:=qbG.1 u;simp only[zD] at u;rcases u with (u|u)|u;exact J u;exact K u;exact E (yT u)
theorem qgH(fresh:List (Int×Int×List Int)):(freshW fresh).map (·.1)=insAll (fresh.map (·.1)):=by rw[freshW,map_map];exact map_id _
theorem qdm{β:Type}:∀ {l:List (Int×β)} {e:Int×β},(l.map (·.1)).Nodup->e∈l->∃i,look e.1 l=some (i,e.2)
 | p::r,e,y,u=>by rw[xK,nodup_cons] at y;simp only[look];rcases zG.1 u with rfl|u;exact⟨0,by rw[if_pos rfl]⟩;have z:e.1≠p.1:=fun h=>y.1 (h▸zY u);obtain⟨i,A⟩:=qdm y.2 u;exact⟨i+1,by rw[if_neg z,A];rfl⟩
theorem qqK{fresh:List (Int×Int×List Int)}(u:(fresh.map (·.1)).Nodup){e:Int×Int×List Int}(h:e∈fresh):(e.1,sealV e.1 e.2.1 e.2.2)∈freshW fresh:=by refine mem_map.2 ⟨e.1,qbG.2 (zY h),?_⟩;obtain⟨i,y⟩:=qdm u h;rw[leafOf,y]
structure Flushed (D D':DiskM) (M:PgM) (pages named:List Int) (next:Sup):Prop where
 down:D'.down=false
 waits:D'.waits=[]
 listed:Listed D' named pages
 super:view D' (next.1%2)=sealV (next.1%2) 1 (superB next.1 next.2)
 fresh:∀ e∈M.fresh,view D' e.1=sealV e.1 e.2.1 e.2.2
 rest:∀ m,0<=m->m∉M.fresh.map (·.1)->m∉pages->m≠next.1%2->view D' m=view D m
theorem PgM.Wf.keysNodup{M:PgM}(h:M.Wf):(M.fresh.map (·.1)).Nodup:=h.nodup.sublist (((sublist_append_right _ _).trans (sublist_append_right _ _)).trans (sublist_append_right _ _))
theorem PgM.Wf.keys{M:PgM}(h:M.Wf):∀x∈M.fresh.map (·.1),2<=x/\x<M.sup.2.getD 0 0:=fun x u=>h.range x (zI _ (zI _ (zI _ u)))
theorem qpo{D:DiskM}{M:PgM}{pages named:List Int}{next:Sup}(Q:Ats D)(R:D.down=false)(A:M.Wf)(u:planM M=some (pages,named))(U:SupOk next)(h:(flushM D M.fresh pages named next).2=0): Flushed D (flushM D M.fresh pages named next).1 M pages named next:=by
 obtain⟨V,h2,h3⟩:=qgm (show (andThen (writesM (freshW M.fresh) D) fun D=>andThen (spreadM D named pages) fun D=>sealM D next).2=0 from h);obtain⟨h4,h5,h6⟩:=qgm h2;have C:((freshW M.fresh).map (·.1)).Nodup:=(by rw[qgH];exact qcq (qbP _));obtain⟨d1,a1,v1,u1⟩:=qeS Q R V C;have y:=qdl A u;obtain⟨d2,w2,l2,I⟩:=qnA a1 d1 y h4;obtain⟨d3,w3,p3,E⟩:=qq8 (qpp w2) U h5;have e:flushM D M.fresh pages named next=sealM (spreadM (writesM (freshW M.fresh) D).1 named pages).1 next:=h3.trans h6
 rw[e];have ao:next.1%2=0\/next.1%2=1:=by omega
 refine⟨d3,w3,fun i p J=>?_,p3,fun x G=>?_,fun m K h7 h8 h9=>?_⟩
 have:=y.pgs p (yE J)
 rw[E p (by omega) (by omega)];exact l2 i p J;have hk:=A.keys x.1 (zY G);have hf:=qkK A u x.1 (zY G);rw[E _ (by omega) (by omega),I _ (by omega) hf.1];exact v1 _ (qqK A.keysNodup G);rw[E m K h9,I m K h8];refine u1 m fun z=>h7 ?_;rw[qgH] at z;exact qbG.1 z
theorem Quiet.flushed{D:DiskM}{M:PgM}{pages named:List Int}{next:Sup}(h:Quiet D)(z:M.Wf)(I:M.sup.2.getD 0 0=D.size)(h8:8<=D.size)(u:planM M=some (pages,named))(J:SupOk next): (flushM D M.fresh pages named next).2=0/\Quiet (flushM D M.fresh pages named next).1/\(flushM D M.fresh pages named next).1.size=D.size:=by
 have C:((freshW M.fresh).map (·.1)).Nodup:=(by rw[qgH];exact qcq (qbP _));obtain⟨D1,e1,K,Q,_⟩:=h.writes (l:=freshW M.fresh) (fun x R=>by obtain⟨n,A,rfl⟩:=mem_map.1 R;have A:=qbG.1 A;have hk:=z.keys n A;refine⟨by dsimp only;omega,qb0 ?_⟩;obtain⟨e,E,rfl⟩:=mem_map.1 A;obtain⟨i,U⟩:=qdm z.keysNodup E;rw[leafOf,U];exact (z.body e E).2.1) C;have y:=qdl z u;rw[I,<- Q] at y;obtain⟨D2,V,q2,s2,_⟩:=K.spread y;obtain⟨G,e3,q3,s3,_⟩:=q2.sealOk J (by omega);have:flushM D M.fresh pages named next=(G,0):=by rw[flushM,e1,andThen_ok,V,andThen_ok,e3]
 rw[this];exact⟨rfl,q3,by show G.size=D.size;omega⟩
def strL (l:List Int):ByteArray:=⟨(Lib.bytesOf l).toArray⟩
theorem qaY(l:List Int):(strL l).size=l.length:=by simp[strL,ByteArray.size,Lib.bytesOf]
theorem qn6(a b:List Int):strL a++strL b=strL (a++b):=by apply ByteArray.ext;simp[strL,Lib.bytesOf]
theorem qnF(l:List Int)(i j:Nat)(h:i<=j)(u:j<=l.length):(strL l).extract i j=strL ((l.take j).drop i):=by apply ByteArray.ext;simp[strL,Lib.bytesOf,drop_take]
theorem quL{S:List Nat}{w:World}{s:Sl}{l:List Int}{src dst e:TypeId}(h:RdB S w s l)(hB:IsB l)(hs:Tryz.prog.underlying src=some (.slice e))(he:Tryz.prog.underlying e=some (.int .u8))(hd:Tryz.prog.underlying dst=some .string): (convert src dst (.slice s.a s.len s.cap)).run Tryz.prog w=.ok (.string (strL l)) w:=by
 cases ha:s.a with
 | none=>
  have hl0:l=[]:=by rcases h.2.2 with h3|⟨b,o,cs,T,fr,ha',_⟩;exact h3;rw[ha] at ha';cases ha'
  subst hl0;rw[run_convert_bytes_string w src dst e none s.len s.cap hs he hd,h.1];rfl
 | some a=>
  have hc:=h.cells qas ha;have hlen:s.len=(Lib.bytesOf l).length:=(by rw[h.1];simp[Lib.bytesOf]);rw[hlen];refine run_convert_bytes_back w src dst e a s.cap (Lib.bytesOf l) hs he hd fun j hj=>?_;have hj':j<l.length:=(by simpa[Lib.bytesOf] using hj);have hx:=hB l[j] (zW hj');rw[hc j (.int .u8 l[j]) (by rw[qaC,zQ,zA hj'];rfl)];simp[Lib.bytesOf];omega
theorem qoA{S:List Nat}{w:World}{s:Sl}{l:List Int}{src dst e:TypeId}{K:ByteArray->Prop}(h:RdB S w s l)(hB:IsB l)(hs:Tryz.prog.underlying src=some (.slice e))(he:Tryz.prog.underlying e=some (.int .u8))(hd:Tryz.prog.underlying dst=some .string)(k:K (strL l)): runQ [.one .str] (fun w'=>(convert src dst (.slice s.a s.len s.cap)).run Tryz.prog w') w K:=by unfold runQ;exact⟨strL l,quL h hB hs he hd,k⟩
theorem qsz{S:List Nat}{w:World}{s:Sl}{l:List Int}{K:ByteArray->Prop}(h:RdB S w s l)(hB:IsB l)(k:K (strL l)): runQ [.one .str] (fun w'=>(convert 23 9 (.slice s.a s.len s.cap)).run Tryz.prog w') w K:=qoA (e:=5) h hB (by kernel_rfl) (by kernel_rfl) (by kernel_rfl) k
theorem qrw{w:World}{l:List Int}{src dst e:TypeId}{K:Sl->World->Prop}(hB:IsB l)(hs:Tryz.prog.underlying src=some .string)(hd:Tryz.prog.underlying dst=some (.slice e))(he:Tryz.prog.underlying e=some (.int .u8))(k:∀s w',(∀G:List Nat,(∀b∈G,b<w.heap.size)->RdB G w' s l)->Fr [] w w'->K s w'): Pt.run [Ty1.one Cell.slice] ((convert src dst (.string (strL l))).run Tryz.prog w) K:=by
 have hrun:=run_bytes_of_string (P:=Tryz.prog) w src dst e (strL l) hs hd he;have hsz:=qaY l;have hge:(strL l).size<=grownCap w (strL l).size 0 e:=grownCap_ge w (strL l).size 0 e;generalize grownCap w (strL l).size 0 e=G at hrun hge;refine qcQ ⟨_,_,_⟩ _ hrun ?_;refine k _ _ (fun g hg=>⟨hsz,hge,?_⟩) ((Fr.refl [] w).drew.alloc _);by_cases hl:l=[];exact .inl hl;refine .inr ⟨w.heap.size,0,bytesRow (strL l) G,e,_,rfl,by rw[qbJ];exact if_pos rfl,fun hm=>absurd (hg _ hm) (Nat.lt_irrefl _),fun i x hx=>?_⟩;have hi:=(zP.1 hx).1;have hxB:=hB x (yE hx);have e1:(bytesRow (strL l) G).toList[i]?=some (.int .u8 x):=by unfold bytesRow;rw[Array.toList_append,yY (by simp[strL,Lib.bytesOf];exact hi)];simp[strL,Lib.bytesOf,hx];omega
 rw[xO,xP];apply List.ext_getElem?;intro j;rw[xA,yZ];cases j with
 | zero=>rw[if_pos (by decide),Nat.add_zero,e1];rfl
 | succ j=>rw[if_neg (by omega)];rfl
theorem qrv{l:List Int}{lo hi:Option Int}{K:ByteArray->Prop}(a b:Nat)(h:lo.getD 0=a)(u:hi.getD l.length=b)(y:a<=b)(z:b<=l.length)(k:K (strL ((l.take b).drop a))):slcS (strL l) lo hi K:=by unfold slcS;rw[qaY];refine⟨⟨by omega,by omega,by omega⟩,?_⟩;rw[h,u,zJ,zJ,qnF l a b y z];exact k
end Go.Proofs.YtmmkegapckbomaaGreatDoor
end
section
namespace Go.Proofs.YtmmkegapckbomaaGreatDoor
open Go Go.Pt List
open Go.IntKind (wrap)
attribute [local irreducible] ld ldA ldV fld fldA newZ st new idx idxS idxA slc slcS slcP mkS chk nn call callV inv run runQ runU join loop held ext rng undefer s2a nxt ent IntKind.wrap
def PgM.all (M:PgM):List Int:=M.free++(M.deferred++(M.lists++M.fresh.map (·.1)))
theorem qjQ{s:Sup}{pages numbers:List Int}{t:Int}{ov:Bool}(h:ListOk (s.2.getD 0 0) numbers pages)(A:s.2.getD 0 0<=4096)(z:∀x∈s.2,U32 x):(begunM s pages numbers t ov numbers).Wf where
 n4:=A
 u32:=z
 roots:=fun x u=>z x (yT u)
 namedS:=h.rises
 named:=h.nums
 freeS:=h.rises
 defS:=.nil
 nodup:=by show (numbers++([]++(pages++[]))).Nodup;rw[xG,xF,yL];exact⟨qcq h.rises,h.nodup,fun x u y C e=>h.apart y C (e▸u)⟩
 range:=fun x u=>by have u:x∈numbers++([]++(pages++[])):=u;rw[xG,xF,zD] at u;rcases u with u|u;exact h.nums x u;exact h.pgs x u
 body:=fun e E=>by cases E
theorem qtJ:overM.Wf:=by
 have u:∀x∈supZero.2,U32 x:=fun x h=>by
  have:=eq_of_mem_replicate (show x∈List.replicate 27 (0:Int) from h)
  subst this;exact⟨by decide,by decide⟩
 exact qjQ (s:=supZero) (pages:=[]) (numbers:=[]) ⟨.nil,(fun x h=>by cases h),(fun x h=>by cases h),.nil,(fun x h=>by cases h),by decide⟩ (by decide) u
theorem qoI{β:Type}{n:Int}{v:β}{l:List (Int×β)}(h:n∉l.map (·.1)):setL n v l=l++[(n,v)]:=by rw[setL,qa9.2 h]
theorem qmr{β:Type}{n:Int}{v:β}{l:List (Int×β)}(h:n∈l.map (·.1)):(setL n v l).map (·.1)=l.map (·.1):=by
 unfold setL;cases y:look n l with
 | none=>exact absurd h (qa9.1 y)
 | some q=>
  dsimp only;rw[map_set];apply ext_getElem?;intro j;rw[xT];by_cases hj:q.1=j;subst hj;have z:=(qa6 y).1;obtain⟨u,A⟩:=zP.1 z;simp[u,A];rw[if_neg hj]
theorem qlV{β:Type}{n:Int}{l:List (Int×β)}(h:n∈l.map (·.1)):(l.map (·.1)).Perm (n::(delL n l).map (·.1)):=by
 unfold delL;cases z:look n l with
 | none=>exact absurd h (qa9.1 z)
 | some q=>
  dsimp only;have A:=(qa6 z).1;obtain⟨u,C⟩:=zP.1 A;rw[qbn];have E:(l.map (·.1))[q.1]'(by simpa using u)=n:=(by simp[C]);have y:q.1<(l.map (·.1)).length:=(by simpa using u);have G:l.map (·.1)=(l.map (·.1)).take q.1++n::(l.map (·.1)).drop (q.1+1):=by rw[<- E,<- zX y,xC]
  rw[eraseIdx_eq_take_drop_succ];conv=>lhs;rw[G]
  exact perm_middle
theorem qco{M:PgM}{n:Int}:usedV M n=true↔(2<=n/\n<M.sup.2.getD 0 0)/\n∉M.all:=by unfold usedV PgM.all;simp only[yA,zT,Bool.or_eq_false_iff,decide_eq_false_iff_not,Option.isNone_iff_eq_none,qa9,zD,not_or];constructor;rintro⟨⟨⟨⟨⟨A,C⟩,h⟩,u⟩,y⟩,z⟩;exact⟨⟨by omega,by omega⟩,u,y,h,z⟩;rintro⟨⟨A,C⟩,h,u,y,z⟩;exact⟨⟨⟨⟨⟨by omega,by omega⟩,y⟩,h⟩,u⟩,z⟩
theorem qrF{M:PgM}{n:Int}{r:List Int}{v:Int×List Int}(u:M.free=n::r)(z:M.Wf):(r++(M.deferred++(M.lists++(setL n v M.fresh).map (·.1)))).Perm M.all:=by
 have h:n∉M.fresh.map (·.1):=fun A=>by have y:=z.nodup;rw[u,xH,nodup_cons] at y;exact y.1 (zI _ (zI _ (zI _ A)))
 rw[qoI h,xJ,PgM.all,u];show (r++(M.deferred++(M.lists++(M.fresh.map (·.1)++[n])))).Perm (n::(r++(M.deferred++(M.lists++M.fresh.map (·.1)))));rw[<- zV M.lists,<- zV M.deferred,<- zV r];exact perm_append_singleton n _
theorem qgM{M M':PgM}(h:M.Wf)(u:M'.sup=M.sup)(y:M'.named=M.named)(A:∀x∈M'.roots,U32 x)(z:M'.all.Perm M.all)(C:M'.free.Pairwise (· < ·))(E:M'.deferred.Pairwise (· < ·))(G:∀e∈M'.fresh,(0<=e.2.1/\e.2.1<256)/\e.2.2.length<=500/\IsB e.2.2):M'.Wf where
 n4:=by rw[u];exact h.n4
 u32:=by rw[u];exact h.u32
 roots:=A
 namedS:=by rw[y];exact h.namedS
 named:=by rw[y,u];exact h.named
 freeS:=C
 defS:=E
 nodup:=z.nodup_iff.2 h.nodup
 range:=fun x I=>by rw[u];exact h.range x (z.mem_iff.1 I)
 body:=G
theorem qpu{M:PgM}{kind:Int}{body:List Int}(u:M.Wf)(A:0<=kind/\kind<256)(C:IsB body):(makeV M kind body).2.Wf/\(makeV M kind body).2.all.Perm M.all:=by
 unfold makeV;split;exact⟨u,.refl _⟩;split;exact⟨u,.refl _⟩;rename_i G;split;exact⟨u,.refl _⟩;rename_i n r y;have z:=qrF (v:=(kind,body)) y u;refine⟨qgM u rfl rfl u.roots z ?_ u.defS fun e E=>?_,z⟩
 have:=u.freeS
 rw[y,yI] at this;exact this.2;rcases qgT E with h|h;exact u.body e h;rw[h];exact⟨A,by show body.length<=500;omega,C⟩
theorem qsc{M:PgM}{n kind:Int}{body:List Int}(u:M.Wf)(z:0<=kind/\kind<256)(A:IsB body):(putV M n kind body).2.Wf/\(putV M n kind body).2.all.Perm M.all:=by
 unfold putV;split;exact⟨u,.refl _⟩;split;exact⟨u,.refl _⟩;rename_i q C;split;exact⟨u,.refl _⟩;rename_i I;have E:n∈M.fresh.map (·.1):=mem_map.2 ⟨_,(qa6 C).2,rfl⟩;have y:({ M with fresh:=setL n (kind,body) M.fresh }:PgM).all=M.all:=by show M.free++(M.deferred++(M.lists++(setL n (kind,body) M.fresh).map (·.1)))=_;rw[qmr E];rfl
 refine⟨qgM u rfl rfl u.roots (by rw[y]) u.freeS u.defS fun e G=>?_,by rw[y]⟩;rcases qgT G with h|h;exact u.body e h;rw[h];exact⟨z,by show body.length<=500;omega,A⟩
theorem qpP{M:PgM}{n:Int}(u:M.Wf):(dropV M n).2.Wf:=by
 unfold dropV;split;exact u;split;rename_i q E;have G:n∈M.fresh.map (·.1):=mem_map.2 ⟨_,(qa6 E).2,rfl⟩;have I:=u.nodup;have A:n∉M.free:=fun h=>by rw[yL] at I;exact I.2.2 n h n (zI _ (zI _ G)) rfl
 have z:({ M with fresh:=delL n M.fresh,free:=ins n M.free }:PgM).all.Perm M.all:=by
  show (ins n M.free++(M.deferred++(M.lists++(delL n M.fresh).map (·.1)))).Perm (M.free++(M.deferred++(M.lists++M.fresh.map (·.1))));refine ((qdj A).append_right _).trans ?_;have J:=qlV G;have K:(M.deferred++(M.lists++M.fresh.map (·.1))).Perm (n::(M.deferred++(M.lists++(delL n M.fresh).map (·.1)))):=by refine ((J.append_left M.lists).append_left M.deferred).trans ?_;rw[<- zV,<- zV];exact perm_middle
  exact (perm_middle.symm.trans (K.symm.append_left M.free))
 exact qgM u rfl rfl u.roots z (qcN u.freeS) u.defS fun e Q=>u.body e (qoe Q);rename_i E;split;rename_i y;have y:=qco.1 y;have C:n∉M.deferred:=fun h=>y.2 (zI _ (zH _ h));have z:({ M with deferred:=ins n M.deferred }:PgM).all.Perm (n::M.all):=by show (M.free++(ins n M.deferred++(M.lists++M.fresh.map (·.1)))).Perm (n::(M.free++(M.deferred++(M.lists++M.fresh.map (·.1)))));exact (((qdj C).append_right _).append_left M.free).trans perm_middle
 refine { n4:=u.n4,u32:=u.u32,roots:=u.roots,namedS:=u.namedS,named:=u.named,freeS:=u.freeS,defS:=qcN u.defS,nodup:=z.nodup_iff.2 (nodup_cons.2 ⟨y.2,u.nodup⟩),range:=fun x R=>?_,body:=u.body };rcases zG.1 (z.mem_iff.1 R) with rfl|h;exact y.1;exact u.range x h;exact u
theorem qpF{M:PgM}{pages named:List Int}{s:Sup}{t:Int}{ov:Bool}(u:M.Wf)(h:planM M=some (pages,named))(y:s.2.getD 0 0=M.sup.2.getD 0 0)(z:∀x∈s.2,U32 x):(begunM s pages named t ov named).Wf:=
 qjQ (by rw[y];exact qdl u h) (by rw[y];exact u.n4) z
theorem qhK{M:PgM}{pages named:List Int}(u:M.Wf)(h:planM M=some (pages,named)):∀x∈(nextS M pages named).2,U32 x:=by
 have z:=qdl u h;have A:=u.n4;intro x y;simp only[nextS,zD,zG,xU,or_false] at y;rcases y with (rfl|rfl|rfl)|y;exact qn1 u.u32 0;cases pages with
 | nil=>exact⟨by decide,by decide⟩
 | cons a r=>
  have:=z.pgs a (by simp)
  show 0<=a/\a<4294967296;omega
 exact qaP _;exact u.roots x y
theorem qs5{M:PgM}{pages named:List Int}(u:M.Wf)(h:planM M=some (pages,named))(y:M.roots.length=24)(z:0<=M.sup.1/\M.sup.1<4611686018427387903):SupOk (nextS M pages named)/\(nextS M pages named).1=M.sup.1+1:=by have e:wrap .u64 (M.sup.1+1)=M.sup.1+1:=qne _ (by omega);refine⟨⟨?_,?_,qhK u h⟩,e⟩;show 0<=wrap .u64 (M.sup.1+1)/\wrap .u64 (M.sup.1+1)<_;rw[e];omega;show ([M.sup.2.getD 0 0,pages.headD 0,wrap .u32 (named.length:Int)]++M.roots).length=27;rw[zF,y];rfl
theorem qrq{D:DiskM}{M:PgM}(h:M.Wf):(commitM D M).1.2.Wf:=by unfold commitM;split;exact h;split;exact h;split;exact h;rename_i x u;obtain⟨pages,named⟩:=x;split;exact qtJ;exact qpF h u rfl (qhK h u)
section
def eq3:List Int->List Int->Bool
 | a::b::c::r,h::u::y::z=>bif (bif a==h then bif b==u then bif c==y then true else false else false else false) then eq3 r z else false
 | _,_=>true
theorem qpv:∀(n:Nat) (l l':List Int),l.length=3*n->l'.length=3*n->eq3 l l'=decide (l=l')
 | 0,l,l',h,u=>by have y:l=[]:=eq_nil_of_length_eq_zero (by omega);have z:l'=[]:=eq_nil_of_length_eq_zero (by omega);subst y z;simp[eq3]
 | n+1,l,l',h,u=>by
  match l,l',h,u with
  | a::b::c::r,C::E::G::A,h,u=>
   have:=qpv n r A (by simp at h;omega) (by simp at u;omega)
   rw[eq3,this];by_cases y:a=C<;>by_cases z:b=E<;>by_cases h3:c=G<;>by_cases h4:r=A<;>simp[y,z,h3,h4]
  | [],_,h,_=>simp at h
  | [_],_,h,_=>simp at h;omega
  | [_,_],_,h,_=>simp at h;omega
  | _::_::_::_,[],_,h=>simp at h
  | _::_::_::_,[_],_,h=>simp at h;omega
  | _::_::_::_,[_,_],_,h=>simp at h;omega
abbrev RAT:TypeId:=119
theorem qu3(a0 a1 a2 a3 a4 a5 a6 a7 a8 a9 h u y z A C E G I J K Q R U b0 b1 b2 b3 b4 b5 b6 b7 b8 b9 V aa ab ac ad ae af ag ah ai aj ak al am:Int): eqV Tryz.prog 3 RAT (.agg (([a0,a1,a2,a3,a4,a5,a6,a7,a8,a9,h,u,y,z,A,C,E,G,I,J,K,Q,R,U]:List Int).map (Value.int .u32)).toArray) (.agg (([b0,b1,b2,b3,b4,b5,b6,b7,b8,b9,V,aa,ab,ac,ad,ae,af,ag,ah,ai,aj,ak,al,am]:List Int).map (Value.int .u32)).toArray) = some (eq3 [a0,a1,a2,a3,a4,a5,a6,a7,a8,a9,h,u,y,z,A,C,E,G,I,J,K,Q,R,U] [b0,b1,b2,b3,b4,b5,b6,b7,b8,b9,V,aa,ab,ac,ad,ae,af,ag,ah,ai,aj,ak,al,am]):=by kernel_rfl
theorem qsj{l:List Int}(h:l.length=24):∃a0 a1 a2 a3 a4 a5 a6 a7 a8 a9 u y z A C E G I J K Q R U V,l=[a0,a1,a2,a3,a4,a5,a6,a7,a8,a9,u,y,z,A,C,E,G,I,J,K,Q,R,U,V]:=
 match l,h with
 | [a0,a1,a2,a3,a4,a5,a6,a7,a8,a9,u,y,z,A,C,E,G,I,J,K,Q,R,U,V],_=>⟨_,_,_,_,_,_,_,_,_,_,_,_,_,_,_,_,_,_,_,_,_,_,_,_,rfl⟩
theorem qqT{x y:Operand}{l l':List Int}{w:World}{K:Bool->Prop}(u:l.length=24)(h:l'.length=24)(k:K (decide (l=l'))): runQ [Ty1.one Cell.bool] (fun w'=>(do eqGuard .eql RAT x y (.agg (l.map (Value.int .u32)).toArray) (.agg (l'.map (Value.int .u32)).toArray);binOp .eql RAT (.agg (l.map (Value.int .u32)).toArray) (.agg (l'.map (Value.int .u32)).toArray):Sem Value).run Tryz.prog w') w K:=by refine quG 3 (by decide) (eq3 l l') ?_ (by kernel_rfl) (by rw[qpv 8 l l' u h];exact k);obtain⟨a0,a1,a2,a3,a4,a5,a6,a7,a8,a9,z,A,C,E,G,I,J,Q,R,U,V,aa,ab,ac,rfl⟩:=qsj u;obtain⟨b0,b1,b2,b3,b4,b5,b6,b7,b8,b9,ad,ae,af,ag,ah,ai,aj,ak,al,am,an,ao,ap,aq,rfl⟩:=qsj h;exact qu3 ..
theorem qrk{w:World}{mb:Nat}{f:List (Int×Value)}{K:Int->Prop}(h:MapS u32V w mb f)(k:K f.length): runQ [Ty1.one .i] (fun w'=>(Builtin.len_ #[MLT] 3 #[Value.map (some mb)]).run Tryz.prog w') w K:=by
 obtain⟨u,c,y,z,_⟩:=h;have A:(u.size:Int)=f.length:=by
  have:=congrArg List.length z
  simp at this;omega
 refine qaU (ts:=[Ty1.one .i]) (u.size:Int) ?_ (by rw[A];exact k)
 have:=run_len_map (P:=Tryz.prog) (w:=w) MLT 3 mb u c (by kernel_rfl) y
 exact this
section
variable {db:Option Addr} {sup:Sup} {sl sn:Sl} {turn:Int} {over:Bool} {fb defb mb:Nat} {roots:List Int} {wk:List Value}
theorem qgB(u:sup.2.length=27)(y:roots.length=24):((pgCells db sup sl sn turn over fb defb mb roots).toList.drop 36).take 24=roots.map (Value.int .u32):=by have h:((Value.pointer db::supV sup.1 sup.2)++pgRest sl sn turn over fb defb mb).length=36:=(by rw[zF,qa0 u];rfl);show (((Value.pointer db::supV sup.1 sup.2)++pgRest sl sn turn over fb defb mb++roots.map (Value.int .u32)).drop 36).take 24=_;rw[<- h,drop_append_of_le_length (zM _),drop_length,xG,zS (by rw[zK,y];exact zM _)]
theorem qrj(h:sup.2.length=27):((pgCells db sup sl sn turn over fb defb mb roots).toList.drop 5).take 24=(sup.2.drop 3).map (Value.int .u32):=by rw[<- qfG];exact qhP h
theorem qqr{h:Sup}(y:sup.2.length=27)(u:h.2.length=27):splice (pgRaw db sup sl sn turn over wk) 1 (supV h.1 h.2)=pgRaw db h sl sn turn over wk:=by
 have:=qa8 (A:=[Value.pointer db]) (X:=supV sup.1 sup.2) (Y:=supV h.1 h.2) (Z:=([sl.v,sn.v,.i turn,.bool over]:List Value)++wk) (by rw[qaB y,qaB u])
 simpa[pgRaw] using this
end
theorem qqD{q a c:Int}{roots:List Int}(C:roots.length=24)(w:World):(Instr.build 121 #[(0,.int .u64 q),(1,.u a),(3,.u c),(4,.agg (roots.map (Value.int .u32)).toArray)]).run Tryz.prog w=.ok (.agg (supV q ([a,0,c]++roots)).toArray) w:=by
 obtain⟨z,E,h⟩:=yS.1 qeL;have y:z.cells=(supV 0 (zs 27)).toArray:=(by rw[<- h]);refine qdH (parts:=[(0,.int .u64 q),(1,.u a),(3,.u c),(4,.agg (roots.map (Value.int .u32)).toArray)]) (offs:=#[(0,1),(1,1),(2,1),(3,1),(4,24)]) E (by kernel_rfl) (fun w=>by kernel_rfl) ?_ w;have G:(Value.agg (roots.map (Value.int .u32)).toArray).cells.size=24:=(by show (roots.map (Value.int .u32)).toArray.size=24;simp[C]);rw[y,qaG (o:=0) (s:=1) rfl rfl (zO rfl),qaG (o:=1) (s:=1) rfl rfl (zO rfl),qaG (o:=3) (s:=1) rfl rfl (zO rfl),qaG (o:=4) (s:=24) rfl G (zO rfl)];refine congrArg some ?_
 have:=qa8 (A:=[.int .u64 q,.u a,.u 0,.u c]) (X:=(zs 24).map (Value.int .u32)) (Z:=[]) (Y:=roots.map (Value.int .u32)) (by simp[C,qaJ])
 refine Eq.trans ?_ (this.trans ?_);rfl;simp[supV]
theorem qqn(w:World):(Instr.build PGT #[(5,.bool true)]).run Tryz.prog w=.ok (.agg (pgRaw none supZero ⟨none,0,0⟩ ⟨none,0,0⟩ 0 true (workV none none none (zs 24)))) w:=by refine qdH (parts:=[(5,.bool true)]) (offs:=#[(0,1),(1,28),(29,1),(30,1),(31,1),(32,1),(33,27)]) pgZ (by kernel_rfl) (fun w=>by kernel_rfl) ?_ w;rw[qaG (o:=32) (s:=1) rfl rfl (zO rfl)];rfl
def dbOf (dbk:Nat) (M:PgM):Option Addr:=if M.over then none else pW dbk
structure Both (w:World) (dbk pb:Nat) (FD F:List Nat) (D:DiskM) (M:PgM) (k:Nat):Prop where
 disk:DiskAt w dbk FD D
 lim:Lim D k
 pager:PagerAt w FD pb (dbOf dbk M) F M
def Turn (S:List Nat) (w w':World) (S':List Nat):Prop:=Fr S w w'/\∀b∈S',b∈S\/w.heap.size<=b
theorem quj{l:List Int}:((l.map (Value.int .u32)).all Value.oneCell')=true:=by rw[all_eq_true];intro v h;obtain⟨x,_,rfl⟩:=mem_map.1 h;rfl
theorem qsU{x y:Option Addr}{m:Option Nat}{roots:List Int}:((workV x y m roots).all Value.oneCell')=true:=by rw[workV,all_append,quj];rfl
theorem qut{db:Option Addr}{sup:Sup}{sl sn:Sl}{turn:Int}{over:Bool}{wk:List Value}(h:(wk.all Value.oneCell')=true):((pgRaw db sup sl sn turn over wk).toList.all Value.oneCell')=true:=by show ((((Value.pointer db::supV sup.1 sup.2)++([sl.v,sn.v,.i turn,.bool over]:List Value))++wk).all Value.oneCell')=true;rw[all_append,all_append,h,all_cons,qgA];rfl
theorem PagerAt.weakX{w:World}{X X':List Nat}{pb:Nat}{db:Option Addr}{F:List Nat}{M:PgM}(h:PagerAt w X pb db F M)(y:∀b∈X',b∈X):PagerAt w X' pb db F M:=
 h.frameX (.refl X w) (fun b u=>h.xlt b (y b u)) (fun b u=>.inl (y b u))
theorem qo1{w:World}{dbk pb:Nat}{X FD F:List Nat}{D:DiskM}{M:PgM}{k:Nat}{K:Int->WP}(hdisk:DiskAt w dbk FD D)(hlim:Lim D k)(hpag:PagerAt w X pb (dbOf dbk M) F M)(hsub:∀b∈FD,b∈X)(hW:M.Wf)(hk6:k+5000<=1000000)(ht:0<=M.turn/\M.turn<=1000000000)(hv:Hv w)(hg:HG∉FD)(kk:∀FD' F' w',DiskAt w' dbk FD' (commitM D M).1.1->Lim (commitM D M).1.1 (k+5000)->PagerAt w' (FD'++X) pb (dbOf dbk (commitM D M).1.2) F' (commitM D M).1.2->Turn (FD++F) w w' (FD'++F')->K (commitM D M).2 w'): cW 39 [.pointer (pW pb)] [.one .i] w K:=by
 have hall:=PgM.Wf.all M hW;have same:∀ {e:Int} {w':World},commitM D M=((D,M),e)->Fr [] w w'->K e w':=by
  intro e w' he hf
  have:=kk FD F w' (by rw[he];exact hdisk.frame0 hf) (by rw[he];exact hlim.mono (by omega)) (by rw[he];exact (hpag.frame0 hf).weakX fun b hb=>(zD.1 hb).elim (hsub b) id) ⟨hf.mono (fun b hb=>by cases hb),fun b hb=>.inl hb⟩
  rw[he] at this;exact this
 have hpag0:=hpag;obtain⟨fb,defb,mb,sl,sn,F1,F2,fs,rfl,hx⟩:=hpag;refine qf3 (p:=pW pb) ?_;unfold qc2;refine qae (qak (c:=.bool) hx.cell M.over (qeo hx.suplen) ?_);refine qaa (fun hc=>same (by rw[commitM,if_pos hc]) (.refl _ _)) (fun hc=>?_);have ho:¬M.over=true:=(by rw[hc];decide);have hof:M.over=false:=hc;have hdb:dbOf dbk M=pW dbk:=if_neg ho;rw[hdb] at hx hpag0;have hxd:=hx.frame0 (Fr.refl [] w).drew;have hfl:fs.length=M.fresh.length:=(by rw[hx.fresh];simp);have hsr:(M.sup.2.drop 3).length=24:=(by rw[yB,hx.suplen]);refine qaf (fun b w'=>b=decide (M.fresh=[]/\M.deferred=[]/\M.roots=M.sup.2.drop 3)/\w'=w.drew) ?_ ?_;refine qae (qak (w:=w.drew) (c:=.map) hxd.cell (some mb) (qby hx.suplen) ?_);refine qrk hxd.map ?_;rw[zK,hfl];refine qaa (fun hc1=>?_) (fun hc1=>?_);have h1:M.fresh=[]:=eq_nil_of_length_eq_zero (by have:(M.fresh.length:Int)=0:=(by simpa using hc1);omega);refine qae (qak (w:=w.drew) (c:=.ptr) hxd.cell (pW defb) (qkB hx.suplen) ?_);refine qpV hxd.deferred ?_;refine qaa (fun hc2=>?_) (fun hc2=>?_);have h2:M.deferred=[]:=eq_nil_of_length_eq_zero (by have:(M.deferred.length:Int)=0:=(by simpa using hc2);omega);refine qae (qbx (b:=pb) (off:=36) hxd.cell (M.roots.map (Value.int .u32)) (by rw[zK,hx.rootlen]) (qgB hx.suplen hx.rootlen) ?_);refine qae (qbx (b:=pb) (off:=5) hxd.cell ((M.sup.2.drop 3).map (Value.int .u32)) (by rw[zK,hsr]) (qrj hx.suplen) ?_);refine qqT hx.rootlen hsr ⟨?_,rfl⟩;simp[h1,h2];have h2:M.deferred≠[]:=fun e=>by rw[e] at hc2;simp at hc2
 exact⟨by simp[h2],rfl⟩;have h1:M.fresh≠[]:=fun e=>by rw[e] at hc1;simp at hc1
 exact⟨by simp[h1],rfl⟩;rintro b w1 ⟨rfl,rfl⟩;have f01:Fr [] w w.drew:=(Fr.refl [] w).drew;refine qaa (fun hc=>same (by rw[commitM,if_neg ho,if_pos (zC hc)]) f01) (fun hc=>?_);have hne:=zB hc;refine qsR (hpag0.frame0 f01) hW (fun hpl w2 f2=>?_) (fun sp sm pages named w2 hpl f2 hrd=>?_);refine cond_true rfl ?_;exact same (by rw[commitM,if_neg ho,if_neg hne,hpl]) (f01.trans f2);refine cond_false rfl ?_;have hcm:commitM D M=if (flushM D M.fresh pages named (nextS M pages named)).2≠0 then (((flushM D M.fresh pages named (nextS M pages named)).1,overM),(flushM D M.fresh pages named (nextS M pages named)).2)
  else (((flushM D M.fresh pages named (nextS M pages named)).1,begunM (nextS M pages named) pages named (M.turn+1) false named),0):=by rw[commitM,if_neg ho,if_neg hne,hpl]
 have hplan:=hpl;unfold planM at hplan;split at hplan;cases hplan;rename_i hroom;have hpn:=yN hplan;have hpg:pages=M.free.take (needP (M.free.length+(M.deferred++M.lists).length)):=(congrArg Prod.fst hpn).symm;have hnm:named=insAll ((M.deferred++M.lists)++M.free.drop (needP (M.free.length+(M.deferred++M.lists).length))):=(congrArg Prod.snd hpn).symm;have hplf:pages.length<=M.free.length:=(by rw[hpg,yK];omega);have hpl4:pages.length<=4096:=(by omega);have hnl4:named.length<=4096:=by
  have:=qkt ((M.deferred++M.lists)++M.free.drop (needP (M.free.length+(M.deferred++M.lists).length)))
  rw[<- hnm] at this;simp only[zF,yB] at this;omega
 have hpm:∀x∈pages,2<=x/\x<M.sup.2.getD 0 0:=fun x hx=>by rw[hpg] at hx;exact hW.range x (zH _ (yU hx))
 have hblk4:=hW.n4;have hpu:∀x∈pages,U32 x:=fun x hx=>by have:=hpm x hx;constructor<;>omega
 have hns:named.Pairwise (· < ·):=(by rw[hnm];exact qbP _);have f02:=f01.trans f2;have hx2:=hx.frame0 f02;have hx2d:=hx2.frame0 (Fr.refl [] w2).drew;refine qae (qak (w:=w2.drew) (c:=.int .u64) hx2d.cell M.sup.1 qrr ?_);refine qae (qak (w:=w2.drew) (c:=.u) hx2d.cell (M.sup.2.getD 0 0) (qnx hx.suplen 0 (by decide)) ?_);refine qae (qbx (b:=pb) (off:=36) hx2d.cell (M.roots.map (Value.int .u32)) (by rw[zK,hx.rootlen]) (qgB hx.suplen hx.rootlen) ?_);have hmlen:sm.len=named.length:=(hrd [] (by simp)).2.1;refine qaU (ts:=[Ty1.raw]) (supV (wrap .u64 (M.sup.1+1)) ([M.sup.2.getD 0 0,0,wrap .u32 (named.length:Int)]++M.roots)) (by rw[<- hmlen];exact qqD hx.rootlen _) ?_;have hplen:sp.len=pages.length:=(hrd [] (by simp)).1.1;refine Own.newZ (Own.start [] w2.drew) qeL fun r w3 e3 ho3=>?_;have hx3:=hx2d.frame0 ho3.fr;refine qap (qba hx3.cell _ 36 0 (by show _=_;rw[zK,hx.rootlen];exact qgB hx.suplen hx.rootlen)) (by show _=_;simp only[Addr.add_mk];rw[qag hx3.cell];exact qnx hx.suplen 0 (by decide)) (by show _=_;rw[qag hx3.cell];exact qrr) ?_;have l27:([M.sup.2.getD 0 0,0,wrap .u32 (named.length:Int)]++M.roots).length=27:=(by rw[zF,hx.rootlen];rfl);have n27:(nextS M pages named).2.length=27:=(by show ([M.sup.2.getD 0 0,pages.headD 0,wrap .u32 (named.length:Int)]++M.roots).length=27;rw[zF,hx.rootlen];rfl);have hG:∀b∈FD++pb::mb::(F1++F2),b<w.heap.size:=fun b hb=>by rcases zD.1 hb with h|h;exact hdisk.lt b h;exact hx.lt b h
 have hrdG:=hrd (FD++pb::mb::(F1++F2)) hG;refine qf7 ho3 0 rfl rfl l27 fun w4 ho4=>?_;refine qaf (fun _ w'=>Own [] w2.drew w' [(r,.cells (supV (nextS M pages named).1 (nextS M pages named).2).toArray 121 (0,0))]) ?_ ?_;refine qaa (fun hc=>?_) (fun hc=>?_);have hp0:0<pages.length:=(by have:=zC hc;dsimp only at this;omega);have f24:Fr [] w2 w4:=(Fr.refl [] w2).drew.trans ho4.fr;refine Rd.at ((hrd [] (by simp)).1.frame0 f24) 0 rfl (zA hp0) ?_;refine Own.st' ho4 0 rfl (supV (nextS M pages named).1 (nextS M pages named).2).toArray ?_ rfl (by rw[qfo l27];exact zO rfl) fun w5 ho5 f5=>ho5;have hh:pages.headD 0=pages[0]:=by
  cases pages with
  | nil=>simp at hp0
  | cons a r=>rfl
 show splice (supV _ ([M.sup.2.getD 0 0]++0::(wrap .u32 (named.length:Int)::M.roots))).toArray 2 [.u pages[0]]=_
 have:=qle (q:=wrap .u64 (M.sup.1+1)) (x:=0) (y:=pages[0]) (A:=[M.sup.2.getD 0 0]) (Z:=wrap .u32 (named.length:Int)::M.roots)
 refine this.trans ?_;rw[nextS,hh];rfl;have hp0:pages=[]:=eq_nil_of_length_eq_zero (by have:=zB hc;dsimp only at this;omega);have e:supV (nextS M pages named).1 (nextS M pages named).2=supV (wrap .u64 (M.sup.1+1)) ([M.sup.2.getD 0 0,0,wrap .u32 (named.length:Int)]++M.roots):=by rw[nextS,hp0];rfl
 rw[e];exact ho4;rintro _ w5 ho5;refine qd8 (ho5.at (i:=0) rfl) n27 ?_;have f25:Fr [] w2 w5:=(Fr.refl [] w2).drew.trans ho5.fr;have f05:=f02.trans f25;have hd5:=hdisk.frame0 f05;have hp5:=hpag0.frame0 f05;have hq0:0<=(nextS M pages named).1:=by show 0<=wrap .u64 (M.sup.1+1);unfold wrap;have:(IntKind.u64.signed)=false:=rfl;simp only[this,Bool.false_and,Bool.false_eq_true,if_false];exact Int.emod_nonneg _ (by decide)
 have hkeyU:∀x∈M.fresh.map (·.1),U32 x:=fun x hx=>by
  have:=hW.range x (zI _ (zI _ (zI _ hx)))
  constructor<;>omega
 have hkeyN:(M.fresh.map (·.1)).Nodup:=hW.nodup.sublist (((sublist_append_right _ _).trans (sublist_append_right _ _)).trans (sublist_append_right _ _));refine qsu (next:=nextS M pages named) (D:=D) (DS.refl hd5 hlim) (hp5.weakX hsub) hW.body hkeyN hkeyU (by omega) (by omega) (hv.frame0 f05) hg ((hrdG.2.frame0 f25).weak fun b hb=>.inl (zH _ hb)) ((hrdG.1.frame0 f25).weak fun b hb=>.inl (zH _ hb)) (by omega) (by omega) hpu n27 hq0 fun w6 FD6 d6 f6 n6=>?_;have hp6:=hp5.frameX (X':=FD6++X) (f6.mono fun b hb _=>hsub b hb) (fun b hb=>(zD.1 hb).elim (d6.at_.lt b) fun hb=>yC (hp5.xlt b hb) f6.size) fun b hb=>(zD.1 hb).elim (fun hb=>(n6 b hb).imp (hsub b) id) .inl;obtain⟨fb6,defb6,mb6,sl6,sn6,G1,G2,fs6,hF6,hx6⟩:=id hp6;have hpbn:pb∉FD6++X:=fun hm=>hx6.xsep pb hm (by simp);have hFD:∀b∈FD6,b∈FD++pb::mb::(F1++F2)\/w.heap.size<=b:=fun b hb=>by rcases n6 b hb with h|h;exact .inl (zH _ h);exact .inr (zL f05.size h)
 have hlt6:w.heap.size<=w6.heap.size:=zL f05.size f6.size;have f06:Fr (FD++pb::mb::(F1++F2)) w w6:=(f05.mono fun b hb=>by cases hb).trans (f6.mono fun b hb _=>zH _ hb);have hend:∀ {F':List Nat} {w8 w9:World},Fr [pb] w6 w8->Fr [pb] w8 w9->(∀b∈F',b=pb\/w8.heap.size<=b)->Turn (FD++pb::mb::(F1++F2)) w w9 (FD6++F')/\DiskAt w9 dbk FD6 (flushM D M.fresh pages named (nextS M pages named)).1:=by intro F' w8 w9 g8 g9 hF';have g69:=g8.trans g9;refine⟨⟨f06.trans (g69.mono fun b hb _=>by simp at hb;subst hb;simp),fun b hb=>?_⟩,d6.at_.frame g69 fun b hb=>by simp;rintro rfl;exact hpbn (zH _ hb)⟩;rcases zD.1 hb with hb|hb;exact hFD b hb;rcases hF' b hb with h|h;exact .inl (by rw[h];simp);exact .inr (zL (zL hlt6 g8.size) h)
 have hpX:∀ {w8:World},Fr [pb] w6 w8->∀b∈FD6++X,b<w8.heap.size/\b≠pb:=fun g8 b hb=>⟨yC (hp6.xlt b hb) g8.size,fun e=>hpbn (e▸hb)⟩;have hcell6:=hx6.cell;rw[<- qfG] at hcell6;have hwk:(workV (pW fb6) (pW defb6) (some mb6) M.roots).length=27:=qb5 hx.rootlen;have hlim6:Lim (flushM D M.fresh pages named (nextS M pages named)).1 (k+5000):=d6.lim.mono (by omega);refine qaa (fun hc=>?_) (fun hc=>?_);have hc:(flushM D M.fresh pages named (nextS M pages named)).2≠0:=(by simpa using hc);rw[if_pos hc] at hcm;rw[hcm] at kk;refine qaU (ts:=[Ty1.raw]) (pgRaw none supZero ⟨none,0,0⟩ ⟨none,0,0⟩ 0 true (workV none none none (zs 24))).toList (qqn w6) ?_;refine qae ?_;have hsz60:(pgRaw none supZero ⟨none,0,0⟩ ⟨none,0,0⟩ 0 true (workV none none none (zs 24))).toList.length=60:=(by rw[Array.length_toList,qbr rfl];rfl);refine qaW hsz60 ?_;refine qdn (b:=pb) (off:=0) hcell6 (pgRaw none supZero ⟨none,0,0⟩ ⟨none,0,0⟩ 0 true (workV none none none (zs 24))) (by rw[qcW (by rw[hsz60,qbr hx.suplen,hwk])]) (qut (qsU)) (by rw[hsz60,qbr hx.suplen,hwk];exact zO rfl) fun w7 c7 f7=>?_;refine qid (X:=FD6++X) (lists:=[]) (named:=[]) c7 rfl (qb5 (qaJ 24)) (by decide) (hpX f7) (.nil _ _ _ _) (.nil _ _ _ _) (by decide) fun F' w8 hp8 f8 n8=>?_;have he:=hend f7 f8 n8;exact kk FD6 F' w8 he.2 hlim6 hp8 he.1;have hc:¬(flushM D M.fresh pages named (nextS M pages named)).2≠0:=(by simpa using hc);rw[if_neg hc] at hcm;rw[hcm] at kk;have hsup6:w6.heap[r]?=some (.cells (supV (nextS M pages named).1 (nextS M pages named).2).toArray 121 (0,0)):=(by rw[f6.block r (qac (ho5.at (i:=0) rfl)) (fun hm=>by have:=hd5.lt r hm;have:=hdisk.lt r hm;have h1:w.heap.size<=w2.drew.heap.size:=f02.size;omega)];exact ho5.at (i:=0) rfl);refine qd8 hsup6 n27 ?_;refine qae ?_;refine qaW (qaB n27) ?_;refine qdn (b:=pb) (off:=1) hcell6 (pgRaw (pW dbk) (nextS M pages named) sl6 sn6 M.turn M.over (workV (pW fb6) (pW defb6) (some mb6) M.roots)) (qqr hx.suplen n27) (qgA _ _) (by rw[qaB n27,qbr hx.suplen,hwk];exact zO rfl) fun w7 c7 f7=>?_;refine qae ?_;refine qdn (b:=pb) (off:=29) c7 (pgRaw (pW dbk) (nextS M pages named) sp sn6 M.turn M.over (workV (pW fb6) (pW defb6) (some mb6) M.roots)) (qmC n27) rfl (by rw[qbr n27,hwk];exact zO rfl) fun w8 c8 f8=>?_;refine qae ?_;refine qdn (b:=pb) (off:=30) c8 (pgRaw (pW dbk) (nextS M pages named) sp sm M.turn M.over (workV (pW fb6) (pW defb6) (some mb6) M.roots)) (qmR n27) rfl (by rw[qbr n27,hwk];exact zO rfl) fun w9 c9 f9=>?_;have f69:=(f7.trans f8).trans f9;have hGX:∀b∈X++[pb],b<w.heap.size:=fun b hb=>by rcases zD.1 hb with h|h;exact hx.xlt b h;rw[zE.1 h];exact qac hx.cell
 have hrdX:=hrd (X++[pb]) hGX;have hst:∀ {s:Sl} {l:List Int},Rd (X++[pb]) w2 s l->Rd ((FD6++X)++[pb]) w9 s l:=fun hr=>by
  have h5:=hr.frame0 f25;have h6:Rd ((FD6++X)++[pb]) w6 _ _:=h5.frame (f6.mono fun b hb _=>zH _ (hsub b hb)) fun b hb=>by rcases zD.1 hb with hb|hb;rcases zD.1 hb with hb|hb;rcases n6 b hb with h|h;exact .inl (zH _ (hsub b h));exact .inr h;exact .inl (zH _ hb);exact .inl (zI _ hb)
  exact h6.frame (f69.mono fun b hb _=>zI _ hb) fun b hb=>.inl hb
 refine qid (X:=FD6++X) (lists:=pages) (named:=named) c9 n27 hwk ht (hpX f69) (hst hrdX.1) (hst hrdX.2) (by omega) fun F' w10 hp10 f10 n10=>?_;rw[qlX hns,hof] at hp10;have he:=hend f69 f10 n10;exact kk FD6 F' w10 he.2 hlim6 hp10 he.1
end
end Go.Proofs.YtmmkegapckbomaaGreatDoor
end
section
namespace Go.Proofs.YtmmkegapckbomaaGreatDoor
open Go Go.Pt List
attribute [local irreducible] ld ldA ldV fld fldA newZ st new idx idxS idxA slc slcS slcP mkS chk nn call callV inv run runQ runU join loop held ext rng undefer s2a nxt ent IntKind.wrap
def setRootM (M:PgM) (t h u y:Int):Int×PgM:=
 if M.over then (7,M) else if t<0\/t>7 then (4,M) else (0,{ M with roots:=M.roots.take (3*t.toNat)++[h,u,y]++M.roots.drop (3*t.toNat+3) })
def pagerReadM (D:DiskM) (M:PgM) (n:Int):Int×List Int×Int:=
 if M.over then (0,[],7) else match look n M.fresh with
 | some q=>(q.2.1,q.2.2,0)
 | none=>if usedV M n=false then (0,[],10) else if (readV D n).2≠0 then (0,[],(readV D n).2) else openV n (readV D n).1
theorem qlq{D:DiskM}{M:PgM}(u:D.Ok)(y:∀e∈M.fresh,IsB e.2.2)(n:Int):IsB (pagerReadM D M n).2.1:=by have h:IsB ([]:List Int):=fun x z=>nomatch z;unfold pagerReadM;split;exact h;split;rename_i q A;exact y _ (qa6 A).2;split;exact h;split;exact h;exact (qmc (qbE u n).1 n).1
def PgM.Named (M:PgM):Prop:=(M.free++M.fresh.map (·.1)).Perm M.named
theorem qjt(s:Sup)(pages numbers:List Int)(t:Int)(ov:Bool):(begunM s pages numbers t ov numbers).Named:=by show (numbers++[]).Perm numbers;rw[xF]
theorem qqy{M:PgM}{kd:Int}{l:List Int}(A:M.Wf)(h:M.Named):(makeV M kd l).2.Named:=by
 unfold makeV;split;exact h;split;exact h;split;exact h;rename_i n r y;have u:n∉M.fresh.map (·.1):=fun C=>by have z:=A.nodup;rw[y,xH,nodup_cons] at z;exact z.1 (zI _ (zI _ (zI _ C)))
 show (r++(setL n (kd,l) M.fresh).map (·.1)).Perm M.named;rw[qoI u,xJ,<- zV];refine (perm_append_singleton n _).trans ?_
 have:=h
 rw[PgM.Named,y] at this;exact this
theorem qrM{M:PgM}{n kd:Int}{l:List Int}(h:M.Named):(putV M n kd l).2.Named:=by unfold putV;split;exact h;split;exact h;rename_i q u;split;exact h;have y:n∈M.fresh.map (·.1):=mem_map.2 ⟨_,(qa6 u).2,rfl⟩;show (M.free++(setL n (kd,l) M.fresh).map (·.1)).Perm M.named;rw[qmr y];exact h
theorem qra{M:PgM}{n:Int}(A:M.Wf)(h:M.Named):(dropV M n).2.Named:=by
 unfold dropV;split;exact h;split;rename_i q C;have y:n∈M.fresh.map (·.1):=mem_map.2 ⟨_,(qa6 C).2,rfl⟩;have z:=A.nodup;have u:n∉M.free:=fun h=>by rw[yL] at z;exact z.2.2 n h n (zI _ (zI _ y)) rfl
 show (ins n M.free++(delL n M.fresh).map (·.1)).Perm M.named;refine (((qdj u).append_right _).trans ?_).trans h;exact perm_middle.symm.trans ((qlV y).symm.append_left M.free);split;exact h;exact h
theorem PgM.Named.mem{M:PgM}(h:M.Named)(x:Int):x∈M.named↔x∈M.free\/x∈M.fresh.map (·.1):=by rw[<- h.mem_iff,zD]
section
theorem qvg{M:PgM}(u:M.Named)(x:Int):x∈M.all↔x∈M.named\/x∈M.deferred\/x∈M.lists:=by rw[u.mem x];simp only[PgM.all,zD];constructor;rintro (h|h|h|h);exact .inl (.inl h);exact .inr (.inl h);exact .inr (.inr h);exact .inl (.inr h);rintro ((h|h)|h|h);exact .inl h;exact .inr (.inr (.inr h));exact .inr (.inl h);exact .inr (.inr (.inl h))
theorem qjK{M:PgM}{pages named:List Int}(u:planM M=some (pages,named))(x:Int):x∈pages\/x∈named↔x∈M.free\/x∈M.deferred\/x∈M.lists:=by
 obtain⟨k,z,y,rfl,rfl⟩:=qec u;rw[qbG];have e:x∈M.free↔x∈M.free.take k\/x∈M.free.drop k:=by
  conv=>lhs;rw[<- xC k M.free]
  exact zD
 simp only[zD,e];constructor;rintro (h|(h|h)|h);exact .inl (.inl h);exact .inr (.inl h);exact .inr (.inr h);exact .inl (.inr h);rintro ((h|h)|h|h);exact .inl h;exact .inr (.inr h);exact .inr (.inl (.inl h));exact .inr (.inl (.inr h))
section
variable {D D':DiskM} {M:PgM} {pages named:List Int} {t:Int} {ov:Bool}
theorem qph(h:M.Wf)(y:∀e∈M.fresh,view D' e.1=sealV e.1 e.2.1 e.2.2){e:Int×Int×List Int}(u:e∈M.fresh):openV e.1 (view D' e.1)=(e.2.1,e.2.2,0):=by have z:=h.keys e.1 (zY u);have A:=h.n4;rw[y e u];exact qfH ⟨by omega,by omega⟩ (h.body e u).2.1
theorem qmx{x:Int}(y:M.over=false)(z:D.down=false)(u:2<=x/\x<D.size)(A:M.sup.2.getD 0 0=D.size)(h:x∉M.all):pagerReadM D M x=openV x (view D x):=by have C:look x M.fresh=none:=qa9.2 fun E=>h (zI _ (zI _ (zI _ E)));have G:usedV M x=true:=qco.2 ⟨⟨u.1,by rw[A];exact u.2⟩,h⟩;have I:=qea z (n:=x) ⟨by omega,u.2⟩;unfold pagerReadM;rw[if_neg (by rw[y];decide),C];dsimp only;rw[if_neg (by rw[G];decide),I,if_neg (by simp)]
theorem qqh{e:Int×Int×List Int}(h:M.over=false)(u:M.Wf)(y:e∈M.fresh):pagerReadM D M e.1=(e.2.1,e.2.2,0):=by obtain⟨i,z⟩:=qdm u.keysNodup y;unfold pagerReadM;rw[if_neg (by rw[h];decide),z]
end
end
end Go.Proofs.YtmmkegapckbomaaGreatDoor
end
section
namespace Go.Proofs.YtmmkegapckbomaaGreatDoor
open Go Go.Pt List
open Classical
def lookv {β:Type} (n:Int) (l:List (Int×β)):Option β:=(look n l).map (·.2)
theorem qbj{β:Type}(n:Int)(p:Int×β)(r:List (Int×β)):lookv n (p::r)=if n=p.1 then some p.2 else lookv n r:=by unfold lookv;rw[look];split;rfl;cases look n r<;>rfl
theorem qr0{β:Type}(n:Int)(v:β)(p:Int×β)(r:List (Int×β)):setL n v (p::r)=if n=p.1 then (n,v)::r else p::setL n v r:=by by_cases h:n=p.1;rw[if_pos h];unfold setL;rw[look,if_pos h];rfl;rw[if_neg h];unfold setL;rw[look,if_neg h];cases look n r<;>rfl
theorem qrW{β:Type}(n:Int)(p:Int×β)(r:List (Int×β)):delL n (p::r)=if n=p.1 then r else p::delL n r:=by by_cases h:n=p.1;rw[if_pos h];unfold delL;rw[look,if_pos h];rfl;rw[if_neg h];unfold delL;rw[look,if_neg h];cases look n r<;>rfl
theorem qir{β:Type}(n q:Int)(v:β):∀l:List (Int×β),lookv q (setL n v l)=if q=n then some v else lookv q l
 | []=>by show lookv q [(n,v)]=_;rw[qbj]
 | p::r=>by rw[qr0];by_cases h:n=p.1;rw[if_pos h,qbj,qbj,<- h];by_cases h2:q=n;rw[if_pos h2,if_pos h2];rw[if_neg h2,if_neg h2,if_neg h2];rw[if_neg h,qbj,qir n q v r,qbj];by_cases h2:q=p.1;rw[if_pos h2,if_neg (fun e=>h (by rw[<- e,h2])),if_pos h2];rw[if_neg h2,if_neg h2]
theorem qgI{β:Type}{n:Int}{l:List (Int×β)}:lookv n l=none↔n∉l.map (·.1):=by unfold lookv;rw[Option.map_eq_none_iff,qa9]
theorem qmo{β:Type}(n q:Int):∀l:List (Int×β),(l.map (·.1)).Nodup->lookv q (delL n l)=if q=n then none else lookv q l
 | [],_=>by show lookv q []=_;split<;>rfl
 | p::r,y=>by have u:=nodup_cons.1 (show (p.1::r.map (·.1)).Nodup from y);rw[qrW];by_cases h:n=p.1;rw[if_pos h,qbj];by_cases h2:q=n;rw[if_pos h2,h2,h];exact qgI.2 u.1;rw[if_neg h2,if_neg (fun e=>h2 (by rw[e,h]))];rw[if_neg h,qbj,qmo n q r u.2,qbj];by_cases h2:q=p.1;rw[if_pos h2,if_neg (fun e=>h (by rw[<- e,h2])),if_pos h2];rw[if_neg h2,if_neg h2]
theorem qr8(n:Int):∀l:List Int,l.length<=(ins n l).length
 | []=>yW _
 | a::l=>by
  have:=qr8 n l
  simp only[ins];split;simp;split;exact zM _;simp only[yH];omega
theorem qaH{M:PgM}{n:Int}:usedV M n=true↔2<=n/\n<M.sup.2.getD 0 0/\n∉M.lists/\n∉M.free/\n∉M.deferred/\lookv n M.fresh=none:=by unfold usedV lookv;rw[Option.map_eq_none_iff];simp only[yA,zT,Bool.or_eq_false_iff,decide_eq_false_iff_not,Option.isNone_iff_eq_none];constructor;rintro⟨⟨⟨⟨⟨A,C⟩,h⟩,u⟩,y⟩,z⟩;exact⟨by omega,by omega,h,u,y,z⟩;rintro⟨A,C,h,u,y,z⟩;exact⟨⟨⟨⟨⟨by omega,by omega⟩,h⟩,u⟩,y⟩,z⟩
def InUse (M:PgM) (x:Int):Prop:=x∈M.fresh.map (·.1)\/usedV M x=true
theorem fresh_look{M:PgM}{x:Int}:x∈M.fresh.map (·.1)↔∃q,lookv x M.fresh=some q:=by
 constructor;intro h;cases e:lookv x M.fresh with
 | none=>exact absurd h (qgI.1 e)
 | some q=>exact⟨q,rfl⟩
 rintro⟨q,e⟩;exact Classical.byContradiction fun h=>by rw[qgI.2 h] at e;cases e
theorem qnc{D:DiskM}{M:PgM}(h:M.over=false)(n:Int):pagerReadM D M n=match lookv n M.fresh with
  | some q=>(q.1,q.2,0)
  | none=>if usedV M n=false then (0,[],10) else if (readV D n).2≠0 then (0,[],(readV D n).2) else openV n (readV D n).1:=by
 unfold pagerReadM lookv;rw[if_neg (by rw[h];decide)];cases look n M.fresh<;>rfl
theorem qnk{D:DiskM}{M:PgM}(u:M.over=false){n:Int}(h:(pagerReadM D M n).2.2=0):InUse M n:=by
 rw[qnc u] at h;cases e:lookv n M.fresh with
 | some q=>exact .inl (fresh_look.2 ⟨q,e⟩)
 | none=>
  rw[e] at h;dsimp only at h;split at h;cases h;rename_i y;exact .inr (by simpa using y)
theorem qr4{D:DiskM}(M:PgM)(u:M.over=false){n:Int}{q:Int×List Int}(h:lookv n M.fresh=some q):pagerReadM D M n=(q.1,q.2,0):=by rw[qnc u,h]
theorem qiF{D:DiskM}{M:PgM}(M':PgM)(u:M.over=false)(h:M'.over=false){n:Int}(y:lookv n M'.fresh=lookv n M.fresh)(z:usedV M' n=usedV M n):pagerReadM D M' n=pagerReadM D M n:=by rw[qnc u,qnc h,y,z]
theorem qgw{M:PgM}(M':PgM){n:Int}(h:lookv n M'.fresh=lookv n M.fresh)(u:usedV M' n=usedV M n):InUse M' n↔InUse M n:=by unfold InUse;rw[fresh_look,fresh_look,h,u]
theorem qgd{M:PgM}(u:M.Wf){x:Int}(h:InUse M x):2<=x/\x<M.sup.2.getD 0 0:=by rcases h with h|h;exact u.range x (by simp only[zD];exact .inr (.inr (.inr h)));exact⟨(qaH.1 h).1,(qaH.1 h).2.1⟩
structure Turned (D:DiskM) (M M':PgM) (q p:Int) (r:Option (Int×List Int)):Prop where
 wf:M'.Wf
 over:M'.over=false
 roots:M'.roots=M.roots
 sup:M'.sup=M.sup
 lists:M'.lists=M.lists
 named:M'.named=M.named
 Named:M.Named->M'.Named
 turn:M'.turn=M.turn
 rest:∀ x,x≠q->x≠p->pagerReadM D M' x=pagerReadM D M x
 use:∀ x,x≠q->x≠p->(InUse M' x↔InUse M x)
 old:∀ x,usedV M' x=true->usedV M x=true
 wrote:∀ y,r=some y->pagerReadM D M' q=(y.1,y.2,0)/\InUse M' q
 left:p≠q->¬ InUse M' p
section
variable {D:DiskM} {M:PgM}
theorem qpm{kd:Int}{b:List Int}{n:Int}{A:List Int}(I:M.Wf)(E:M.over=false)(hk:0<=kd/\kd<256)(hB:IsB b)(hl:b.length<=500)(G:M.free=n::A): ∃M',makeV M kd b=((n,0),M')/\Turned D M M' n n (some (kd,b))/\¬InUse M n/\M'.free=A/\M'.deferred=M.deferred:=by
 have e:makeV M kd b=((n,0),{ M with free:=A,fresh:=setL n (kd,b) M.fresh }):=(by rw[makeV,if_neg (by rw[E];decide),if_neg (by omega),G]);have hw:=(qpu (kind:=kd) (body:=b) I hk hB).1;rw[e] at hw;have J:(n::(A++(M.deferred++(M.lists++M.fresh.map (·.1))))).Nodup:=(by have:=I.nodup;rw[G] at this;exact this);have K:=nodup_cons.1 J;have Q:n∉M.fresh.map (·.1):=fun h=>K.1 (by simp only[zD];exact .inr (.inr (.inr h)));have R:¬InUse M n:=fun h=>by rcases h with h|h;exact Q h;exact (qaH.1 h).2.2.2.1 (by rw[G];simp)
 have u:∀x,lookv x (setL n (kd,b) M.fresh)=if x=n then some (kd,b) else lookv x M.fresh:=fun x=>qir n x _ _
 have C:∀x,x≠n->usedV { M with free:=A,fresh:=setL n (kd,b) M.fresh } x=usedV M x:=fun x z=>by rw[Bool.eq_iff_iff,qaH,qaH];dsimp only;rw[u,if_neg z,G,zG];constructor;rintro⟨U,V,h3,h4,h5⟩;exact⟨U,V,h3,fun h=>h.elim z h4,h5⟩;rintro⟨U,V,h3,h4,h5⟩;exact⟨U,V,h3,fun h=>h4 (.inr h),h5⟩
 refine⟨_,e,⟨hw,E,rfl,rfl,rfl,rfl,fun h=>?_,rfl,fun x z _=>qiF { M with free:=A,fresh:=setL n (kd,b) M.fresh } E E (by dsimp only;rw[u,if_neg z]) (C x z),fun x z _=>qgw { M with free:=A,fresh:=setL n (kd,b) M.fresh } (by dsimp only;rw[u,if_neg z]) (C x z),fun x z=>?_,fun y hy=>?_,fun h=>absurd rfl h⟩,R,rfl,rfl⟩
 have:=qqy (kd:=kd) (l:=b) I h
 rw[e] at this;exact this;by_cases hxn:x=n
 have:=(qaH.1 z).2.2.2.2.2
 dsimp only at this;rw[u,if_pos hxn] at this;cases this;rw[C x hxn] at z;exact z;cases hy;refine⟨?_,.inl (fresh_look.2 ⟨(kd,b),by dsimp only;rw[u,if_pos rfl]⟩)⟩;exact qr4 { M with free:=A,fresh:=setL n (kd,b) M.fresh } E (by dsimp only;rw[u,if_pos rfl])
theorem qq1{kd:Int}{b:List Int}{n:Int}(I:M.Wf)(C:M.over=false)(J:0<=kd/\kd<256)(K:IsB b)(V:b.length<=500)(Q:n∈M.fresh.map (·.1)): ∃M',putV M n kd b=(0,M')/\Turned D M M' n n (some (kd,b))/\M'.free=M.free/\M'.deferred=M.deferred:=by
 obtain⟨v,E⟩:=fresh_look.1 Q;have e:putV M n kd b=(0,{ M with fresh:=setL n (kd,b) M.fresh }):=by unfold lookv at E;obtain⟨q,R,_⟩:=yS.1 E;rw[putV,if_neg (by rw[C];decide),R];dsimp only;rw[if_neg (by omega)]
 have G:=(qsc (n:=n) (kind:=kd) (body:=b) I J K).1;rw[e] at G;have u:∀x,lookv x (setL n (kd,b) M.fresh)=if x=n then some (kd,b) else lookv x M.fresh:=fun x=>qir n x _ _
 have A:∀x,usedV { M with fresh:=setL n (kd,b) M.fresh } x=usedV M x:=fun x=>by rw[Bool.eq_iff_iff,qaH,qaH];dsimp only;rw[u];by_cases z:x=n;rw[if_pos z,z,E];simp;rw[if_neg z]
 refine⟨_,e,⟨G,C,rfl,rfl,rfl,rfl,fun h=>?_,rfl,fun x z _=>qiF { M with fresh:=setL n (kd,b) M.fresh } C C (by dsimp only;rw[u,if_neg z]) (A x),fun x z _=>qgw { M with fresh:=setL n (kd,b) M.fresh } (by dsimp only;rw[u,if_neg z]) (A x),fun x z=>by rw[A x] at z;exact z,fun y U=>?_,fun h=>absurd rfl h⟩,rfl,rfl⟩
 have:=qrM (n:=n) (kd:=kd) (l:=b) h
 rw[e] at this;exact this;cases U;refine⟨?_,.inl (fresh_look.2 ⟨(kd,b),by dsimp only;rw[u,if_pos rfl]⟩)⟩;exact qr4 { M with fresh:=setL n (kd,b) M.fresh } C (by dsimp only;rw[u,if_pos rfl])
theorem qrV{kd:Int}{b:List Int}{n:Int}(h:M.over=false)(u:n∉M.fresh.map (·.1)):putV M n kd b=(10,M):=by rw[putV,if_neg (by rw[h];decide),qa9.2 u]
theorem qjj{n q:Int}(hW:M.Wf)(K:M.over=false)(hu:InUse M n)(G:n≠q): ∃M',dropV M n=(0,M')/\Turned D M M' q n none/\(pagerReadM D M' q=pagerReadM D M q)/\(InUse M' q↔InUse M q)/\M.free.length<=M'.free.length:=by
 have hw:=qpP (n:=n) hW;by_cases hf:n∈M.fresh.map (·.1);obtain⟨v,hv⟩:=fresh_look.1 hf;have ae:(M.fresh.map (·.1)).Nodup:=hW.keysNodup;have e:dropV M n=(0,{ M with fresh:=delL n M.fresh,free:=ins n M.free }):=by unfold lookv at hv;obtain⟨y,I,_⟩:=yS.1 hv;rw[dropV,if_neg (by rw[K];decide),I]
 rw[e] at hw;have J:∀x,lookv x (delL n M.fresh)=if x=n then none else lookv x M.fresh:=fun x=>qmo n x _ ae
 have A:∀x,x≠n->usedV { M with fresh:=delL n M.fresh,free:=ins n M.free } x=usedV M x:=fun x u=>by rw[Bool.eq_iff_iff,qaH,qaH];dsimp only;rw[J,if_neg u,qei];constructor;rintro⟨Q,R,U,V,h5⟩;exact⟨Q,R,U,fun h=>V (.inr h),h5⟩;rintro⟨Q,R,U,V,h5⟩;exact⟨Q,R,U,fun h=>h.elim u V,h5⟩
 have C:¬InUse { M with fresh:=delL n M.fresh,free:=ins n M.free } n:=fun h=>by rcases h with h|h;obtain⟨y,I⟩:=fresh_look.1 h;dsimp only at I;rw[J,if_pos rfl] at I;cases I;exact (qaH.1 h).2.2.2.1 (qei.2 (.inl rfl))
 have E:∀x,x≠n->pagerReadM D { M with fresh:=delL n M.fresh,free:=ins n M.free } x=pagerReadM D M x:=fun x u=>qiF { M with fresh:=delL n M.fresh,free:=ins n M.free } K K (by dsimp only;rw[J,if_neg u]) (A x u);have z:∀x,x≠n->(InUse { M with fresh:=delL n M.fresh,free:=ins n M.free } x↔InUse M x):=fun x u=>qgw { M with fresh:=delL n M.fresh,free:=ins n M.free } (by dsimp only;rw[J,if_neg u]) (A x u);refine⟨_,e,⟨hw,K,rfl,rfl,rfl,rfl,fun h=>?_,rfl,fun x _ u=>E x u,fun x _ u=>z x u,fun x u=>?_,fun y I=>(nomatch I),fun _=>C⟩,E q fun e=>G e.symm,z q fun e=>G e.symm,?_⟩
 have:=qra (n:=n) hW h
 rw[e] at this;exact this;by_cases hxn:x=n;subst hxn;exact absurd (.inr u) C;rw[A x hxn] at u;exact u;exact qr8 n M.free;have ab:usedV M n=true:=hu.resolve_left hf;have e:dropV M n=(0,{ M with deferred:=ins n M.deferred }):=by rw[dropV,if_neg (by rw[K];decide),qa9.2 hf];dsimp only;rw[if_pos ab]
 rw[e] at hw;have A:∀x,x≠n->usedV { M with deferred:=ins n M.deferred } x=usedV M x:=fun x u=>by rw[Bool.eq_iff_iff,qaH,qaH];dsimp only;rw[qei];constructor;rintro⟨Q,R,U,V,h5,h6⟩;exact⟨Q,R,U,V,fun h=>h5 (.inr h),h6⟩;rintro⟨Q,R,U,V,h5,h6⟩;exact⟨Q,R,U,V,fun h=>h.elim u h5,h6⟩
 have C:¬InUse { M with deferred:=ins n M.deferred } n:=fun h=>by rcases h with h|h;exact hf h;exact (qaH.1 h).2.2.2.2.1 (qei.2 (.inl rfl))
 have E:∀x,x≠n->pagerReadM D { M with deferred:=ins n M.deferred } x=pagerReadM D M x:=fun x u=>qiF { M with deferred:=ins n M.deferred } K K rfl (A x u);have z:∀x,x≠n->(InUse { M with deferred:=ins n M.deferred } x↔InUse M x):=fun x u=>qgw { M with deferred:=ins n M.deferred } rfl (A x u);refine⟨_,e,⟨hw,K,rfl,rfl,rfl,rfl,fun h=>?_,rfl,fun x _ u=>E x u,fun x _ u=>z x u,fun x u=>?_,fun y I=>(nomatch I),fun _=>C⟩,E q fun e=>G e.symm,z q fun e=>G e.symm,zM _⟩;exact h;by_cases hxn:x=n;subst hxn;exact absurd (.inr u) C;rw[A x hxn] at u;exact u
end
noncomputable def loadN (D:DiskM) (M:PgM) (k v:Nat) (p:Int):NodeM×Int:=
 if (pagerReadM D M p).2.2≠0 then (zeroN,(pagerReadM D M p).2.2) else readNV (pagerReadM D M p).1 (pagerReadM D M p).2.1 k v
noncomputable def storeN (k v:Nat) (M:PgM) (p:Int) (n:NodeM):(Int×Int)×PgM:=
 if (writeNV n k v).2.2≠0 then ((0,2),M)
 else if p≠0/\(putV M p (writeNV n k v).1 (writeNV n k v).2.1).1≠10 then ((p,(putV M p (writeNV n k v).1 (writeNV n k v).2.1).1),(putV M p (writeNV n k v).1 (writeNV n k v).2.1).2)
 else if (makeV M (writeNV n k v).1 (writeNV n k v).2.1).1.2=0/\p≠0 then (((makeV M (writeNV n k v).1 (writeNV n k v).2.1).1.1,(dropV (makeV M (writeNV n k v).1 (writeNV n k v).2.1).2 p).1),(dropV (makeV M (writeNV n k v).1 (writeNV n k v).2.1).2 p).2)
 else makeV M (writeNV n k v).1 (writeNV n k v).2.1
structure NodeOk (n:NodeM) (k v:Nat):Prop where
 right:rightV n k v
 keys:∀ a∈n.keys,IsB a
 vals:∀ a∈n.vals,IsB a
 kids:∀ x∈n.kids,x<4294967296
theorem NodeOk.load{D:DiskM}{M:PgM}{k v:Nat}{p:Int}{n:NodeM}(h:NodeOk n k v)(u:pagerReadM D M p=(kindN n,bodyN n,0)):loadN D M k v p=(n,0):=by unfold loadN;rw[u];exact (if_neg (fun h=>h rfl)).trans (qqu h.right h.kids)
theorem qop{D:DiskM}{M:PgM}{k v:Nat}{p:Int}{n:NodeM}(U:M.Wf)(ho:M.over=false)(V:NodeOk n k v)(Q:p=0\/InUse M p)(hf:M.free≠[]): ∃q M',storeN k v M p n=((q,0),M')/\Turned D M M' q (if p=0 then q else p) (some (kindN n,bodyN n))/\(q=p\/¬InUse M q)/\M.free.length<=M'.free.length+1/\(p∈M.fresh.map (·.1)->q=p/\M'.free=M.free):=by
 have hw:writeNV n k v=(kindN n,bodyN n,0):=(by unfold writeNV;rw[if_pos V.right]);have hB:=qmH V.keys V.vals;have hl:=(qfj V.right).2;have hk:0<=kindN n/\kindN n<256:=(by unfold kindN;split<;>exact⟨by decide,by decide⟩);unfold storeN;rw[hw];dsimp only;rw[if_neg (fun h=>h rfl)];obtain⟨q,fr,E⟩:∃q fr,M.free=q::fr:=by
  cases e:M.free with
  | nil=>exact absurd e hf
  | cons q fr=>exact⟨q,fr,rfl⟩
 obtain⟨M1,e1,u,G,R,_⟩:=qpm (D:=D) U ho hk hB hl E;rcases Q with rfl|Q;rw[if_neg (fun h=>h.1 rfl),if_neg (fun h=>h.2 rfl),e1];refine⟨q,M1,rfl,by rw[if_pos rfl];exact u,.inr G,by rw[E,R];exact zM _,fun h=>?_⟩
 have:=(qgd U (.inl h)).1
 omega;have A:p≠0:=(by have:=(qgd U Q).1;omega);by_cases hfp:p∈M.fresh.map (·.1);obtain⟨M2,e2,z,I,_⟩:=qq1 (D:=D) U ho hk hB hl hfp;rw[e2,if_pos ⟨A,(show (0:Int)≠10 by decide)⟩];exact⟨p,M2,rfl,by rw[if_neg A];exact z,.inl rfl,by rw[I];omega,fun _=>⟨rfl,I⟩⟩;rw[qrV ho hfp,if_neg (fun h=>h.2 rfl),e1,if_pos ⟨rfl,A⟩];have J:p≠q:=fun e=>G (e▸Q);have ae:InUse M1 p:=(u.use p J J).2 Q;obtain⟨M2,e2,z,af,ag,I⟩:=qjj (D:=D) u.wf u.over ae J;dsimp only;rw[e2];refine⟨q,M2,rfl,?_,.inr G,by rw[E,yH,<- R];omega,fun h=>absurd h hfp⟩;rw[if_neg A];exact⟨z.wf,z.over,z.roots.trans u.roots,z.sup.trans u.sup,z.lists.trans u.lists,z.named.trans u.named,fun h=>z.Named (u.Named h),z.turn.trans u.turn,fun x C K=>(z.rest x C K).trans (u.rest x C C),fun x C K=>(z.use x C K).trans (u.use x C C),fun x C=>u.old x (z.old x C),fun y hy=>by
  have:=u.wrote y hy
  exact⟨af.trans this.1,ag.2 this.2⟩,fun h=>z.left h⟩
section
structure Grown where
 page:Int
 fresh:Bool
 key:Key
 other:Int
def zeroG:Grown:=⟨0,false,[],0⟩
def insAt {α:Type} (l:List α) (i:Nat) (x:α):List α:=l.take i++[x]++l.drop i
def sizeN (n:NodeM) (k v:Nat):Nat×Nat:=if n.leaf then (n.keys.length,(capsV k v).1) else (n.kids.length,(capsV k v).2)
def halvesN (n:NodeM) (mid:Nat):NodeM×NodeM×Key:=
 if n.leaf then ({ n with keys:=n.keys.take mid,vals:=n.vals.take mid },{ n with keys:=n.keys.drop mid,vals:=n.vals.drop mid },n.keys.getD mid [])
 else ({ n with kids:=n.kids.take mid,keys:=n.keys.take (mid-1) },{ n with kids:=n.kids.drop mid,keys:=n.keys.drop mid },n.keys.getD (mid-1) [])
noncomputable def splitN (k v:Nat) (M:PgM) (p:Int) (n:NodeM) (fresh:Bool):(Grown×Int)×PgM:=
 if (sizeN n k v).1>(sizeN n k v).2 then
  if (storeN k v M 0 (halvesN n ((sizeN n k v).1 / 2)).2.1).1.2≠0 then ((zeroG,(storeN k v M 0 (halvesN n ((sizeN n k v).1 / 2)).2.1).1.2),(storeN k v M 0 (halvesN n ((sizeN n k v).1 / 2)).2.1).2)
  else ((⟨(storeN k v (storeN k v M 0 (halvesN n ((sizeN n k v).1 / 2)).2.1).2 p (halvesN n ((sizeN n k v).1 / 2)).1).1.1,fresh,(halvesN n ((sizeN n k v).1 / 2)).2.2,(storeN k v M 0 (halvesN n ((sizeN n k v).1 / 2)).2.1).1.1⟩,
    (storeN k v (storeN k v M 0 (halvesN n ((sizeN n k v).1 / 2)).2.1).2 p (halvesN n ((sizeN n k v).1 / 2)).1).1.2),
    (storeN k v (storeN k v M 0 (halvesN n ((sizeN n k v).1 / 2)).2.1).2 p (halvesN n ((sizeN n k v).1 / 2)).1).2)
 else ((⟨(storeN k v M p n).1.1,fresh,[],0⟩,(storeN k v M p n).1.2),(storeN k v M p n).2)
def grownN (n:NodeM) (c:Nat) (g:Grown):NodeM:=
 if g.other≠0 then { n with kids:=insAt (n.kids.set c g.page) (c+1) g.other,keys:=insAt n.keys c g.key } else { n with kids:=n.kids.set c g.page }
noncomputable def putN (D:DiskM) (k v:Nat) (key val:Key):Nat->PgM->Int->(Grown×Int)×PgM
 | 0,M,_=>((zeroG,-1),M)
 | f+1,M,p=>
  if (loadN D M k v p).2≠0 then ((zeroG,(loadN D M k v p).2),M)
  else if (loadN D M k v p).1.leaf then
   if (loadN D M k v p).1.keys[placeV (loadN D M k v p).1.keys key]?=some key then splitN k v M p { (loadN D M k v p).1 with vals:=(loadN D M k v p).1.vals.set (placeV (loadN D M k v p).1.keys key) val } false
   else splitN k v M p { (loadN D M k v p).1 with keys:=insAt (loadN D M k v p).1.keys (placeV (loadN D M k v p).1.keys key) key,vals:=insAt (loadN D M k v p).1.vals (placeV (loadN D M k v p).1.keys key) val } true
  else if (putN D k v key val f M ((loadN D M k v p).1.kids.getD (kidV (loadN D M k v p).1.keys key) 0)).1.2≠0 then
   ((zeroG,(putN D k v key val f M ((loadN D M k v p).1.kids.getD (kidV (loadN D M k v p).1.keys key) 0)).1.2),(putN D k v key val f M ((loadN D M k v p).1.kids.getD (kidV (loadN D M k v p).1.keys key) 0)).2)
  else if (putN D k v key val f M ((loadN D M k v p).1.kids.getD (kidV (loadN D M k v p).1.keys key) 0)).1.1.page=(loadN D M k v p).1.kids.getD (kidV (loadN D M k v p).1.keys key) 0/\(putN D k v key val f M ((loadN D M k v p).1.kids.getD (kidV (loadN D M k v p).1.keys key) 0)).1.1.other=0 then
   ((⟨p,(putN D k v key val f M ((loadN D M k v p).1.kids.getD (kidV (loadN D M k v p).1.keys key) 0)).1.1.fresh,[],0⟩,0),(putN D k v key val f M ((loadN D M k v p).1.kids.getD (kidV (loadN D M k v p).1.keys key) 0)).2)
  else splitN k v (putN D k v key val f M ((loadN D M k v p).1.kids.getD (kidV (loadN D M k v p).1.keys key) 0)).2 p (grownN (loadN D M k v p).1 (kidV (loadN D M k v p).1.keys key) (putN D k v key val f M ((loadN D M k v p).1.kids.getD (kidV (loadN D M k v p).1.keys key) 0)).1.1) (putN D k v key val f M ((loadN D M k v p).1.kids.getD (kidV (loadN D M k v p).1.keys key) 0)).1.1.fresh
structure Seg where
 page:Int
 size:Nat
 prs:Prs
 pages:List Int
abbrev Ent:=Key×Seg
def lfOf (L:Prs):NodeM:=⟨true,L.map (·.1),L.map (·.2),[]⟩
def inOf (es:List Ent):NodeM:=⟨false,(es.map (·.1)).tail,[],es.map (·.2.page)⟩
structure SepE (es:List Ent):Prop where
 pair:es.Pairwise fun a b=>KLt a.1 b.1/\∀ x∈a.2.prs,KLt x.1 b.1
 low:∀ e∈es,∀ x∈e.2.prs,KLe e.1 x.1
def minOf (k v:Nat) (h:Nat):Nat:=if h=0 then (capsV k v).1 / 2 else (capsV k v).2 / 2
def Has (D:DiskM) (M:PgM) (k v:Nat):Nat->Seg->Prop
 | 0,s=>s.pages=[s.page]/\s.size=s.prs.length/\NodeOk (lfOf s.prs) k v/\pagerReadM D M s.page=(3,bodyN (lfOf s.prs),0)
 | h+1,s=>∃u:List Ent,(u.map (·.1)).head?=some []/\s.size=u.length/\s.prs=u.flatMap (·.2.prs)/\s.pages=s.page::u.flatMap (·.2.pages)/\NodeOk (inOf u) k v/\pagerReadM D M s.page=(4,bodyN (inOf u),0)/\SepE u/\
   ∀e∈u,Has D M k v h e.2/\minOf k v h<=e.2.size
theorem qga(x:Key):KLe [] x:=by unfold KLe KLt;cases x<;>simp[cmpL]
theorem qjp{x:Key}:¬KLt x []:=qga x
section
variable {D:DiskM} {M M':PgM} {k v:Nat}
theorem Has.mem:∀ {h:Nat} {s:Seg},Has D M k v h s->s.page∈s.pages
 | 0,s,u=>by rw[u.1];simp
 | h+1,s,⟨z,_,_,_,y,_⟩=>by rw[y];simp
theorem Has.frame:∀ {h:Nat} {s:Seg},Has D M k v h s->(∀x∈s.pages,pagerReadM D M' x=pagerReadM D M x)->Has D M' k v h s
 | 0,s,⟨y,A,u,C⟩,z=>⟨y,A,u,by rw[z s.page (by rw[y];simp)];exact C⟩
 | h+1,s,⟨I,J,y,A,u,C,K,Q,G⟩,z=>⟨I,J,y,A,u,C,by rw[z s.page (by rw[u];simp)];exact K,Q,fun e E=>⟨(G e E).1.frame fun x R=>z x (by rw[u];exact zN _ (yJ.2 ⟨e,E,R⟩)),(G e E).2⟩⟩
theorem Has.read:∀ {h:Nat} {s:Seg},Has D M k v h s->∀x∈s.pages,(pagerReadM D M x).2.2=0
 | 0,s,⟨y,C,z,A⟩,x,u=>by rw[y] at u;rw[zE.1 u,A]
 | h+1,s,⟨J,K,y,C,z,A,E,Q,G⟩,x,u=>by rw[z] at u;rcases zG.1 u with rfl|u;rw[E];obtain⟨e,I,u⟩:=yJ.1 u;exact (G e I).1.read x u
theorem Has.used(u:M.over=false){h:Nat}{s:Seg}(y:Has D M k v h s):∀x∈s.pages,InUse M x:=fun x z=>qnk u (y.read x z)
theorem rightV.leafNe{L:Prs}(h:rightV (lfOf L) k v):L≠[]:=fun e=>by
 have:=h.2.2.2
 rw[if_pos (show (lfOf L).leaf=true from rfl)] at this;have u:=this.2.1;rw[e] at u;exact absurd u (by decide)
theorem rightV.innerTwo{es:List Ent}(h:rightV (inOf es) k v):2<=es.length/\es.length<=(capsV k v).2:=by
 have:=h.2.2.2
 rw[if_neg (show ¬(inOf es).leaf=true from fun e=>nomatch e)] at this;have u:=this.2.2.1;have y:=this.2.2.2.1;have e:(inOf es).kids.length=es.length:=(by show (es.map _).length=_;rw[zK]);rw[e] at u y;exact⟨u,y⟩
theorem Has.ne:∀ {h:Nat} {s:Seg},Has D M k v h s->s.prs≠[]
 | 0,s,⟨A,u,y,z⟩=>y.right.leafNe
 | h+1,s,⟨C,G,A,u,y,z,I,J,E⟩=>fun e=>by
  have:=z.right.innerTwo
  cases C with
  | nil=>simp at this
  | cons a r=>
   rw[u,yG] at e;exact (E a (by simp)).1.ne (append_eq_nil_iff.1 e).1
theorem SepE.mid{A B:List Ent}{e:Ent}(h:SepE (A++e::B)):(∀a∈A,∀x∈a.2.prs,KLt x.1 e.1)/\(∀b∈B,KLt e.1 b.1/\(∀x∈e.2.prs,KLt x.1 b.1)/\∀y∈b.2.prs,KLe b.1 y.1):=by
 have u:=pairwise_append.1 h.pair;refine⟨fun a C x E=>(u.2.2 a C e (by simp)).2 x E,fun b z=>?_⟩
 have:=(yI.1 u.2.1).1 b z
 exact⟨this.1,this.2,h.low b (by simp[z])⟩
theorem SepE.sort:∀ {es:List Ent},SepE es->(∀e∈es,SortP e.2.prs)->SortP (es.flatMap (·.2.prs))
 | [],_,_=>.nil
 | e::es,h,A=>by rw[yG,SortP.app];have C:=yI.1 h.pair;refine⟨A e (by simp),SepE.sort ⟨C.2,fun e u=>h.low e (zN _ u)⟩ fun e u=>A e (zN _ u),fun x G y z=>?_⟩;obtain⟨b,E,z⟩:=yJ.1 z;exact qbi ((C.1 b E).2 x G) (h.low b (zN _ E) y z)
theorem Has.sort:∀ {h:Nat} {s:Seg},Has D M k v h s->SortP s.prs
 | 0,s,⟨z,u,y,A⟩=>y.right.2.2.1
 | h+1,s,⟨I,J,z,u,y,A,K,C,E⟩=>by rw[u];exact C.sort fun e G=>(E e G).1.sort
def PrsOk (k v:Nat) (L:Prs):Prop:=∀x∈L,x.1.length=k/\x.2.length=v/\IsB x.1/\IsB x.2
theorem Has.prsOk:∀ {h:Nat} {s:Seg},Has D M k v h s->PrsOk k v s.prs
 | 0,s,⟨A,z,y,C⟩=>fun x u=>⟨y.right.1 x.1 (zY u),y.right.2.1 x.2 (zY u),y.keys x.1 (zY u),y.vals x.2 (zY u)⟩
 | h+1,s,⟨I,J,A,z,y,C,K,Q,E⟩=>fun x u=>by rw[z] at u;obtain⟨e,G,u⟩:=yJ.1 u;exact (E e G).1.prsOk x u
theorem qgl{L:Prs}(y:PrsOk k v L)(z:SortP L)(A:1<=L.length)(C:L.length<=(capsV k v).1):NodeOk (lfOf L) k v:=by refine⟨⟨fun a u=>?_,fun a u=>?_,z,?_⟩,fun a u=>?_,fun a u=>?_,fun x h=>nomatch h⟩;obtain⟨x,h,rfl⟩:=mem_map.1 u;exact (y x h).1;obtain⟨x,h,rfl⟩:=mem_map.1 u;exact (y x h).2.1;rw[if_pos (show (lfOf L).leaf=true from rfl)];refine⟨rfl,?_,?_,?_⟩;show 1<=(L.map _).length;rw[zK];exact A;show (L.map _).length<=_;rw[zK];exact C;show (L.map _).length=(L.map _).length;rw[zK,zK];obtain⟨x,h,rfl⟩:=mem_map.1 u;exact (y x h).2.2.1;obtain⟨x,h,rfl⟩:=mem_map.1 u;exact (y x h).2.2.2
theorem qur{es:List Ent}(z:∀a∈(es.map (·.1)).tail,a.length=k/\IsB a)(C:Rising (es.map (·.1)).tail)(E:2<=es.length)(G:es.length<=(capsV k v).2)(A:∀e∈es,2<=e.2.page/\e.2.page<4294967296):NodeOk (inOf es) k v:=by refine⟨⟨fun a h=>(z a h).1,fun a h=>(nomatch h),C,?_⟩,fun a h=>(z a h).2,fun a h=>(nomatch h),fun x u=>?_⟩;rw[if_neg (show ¬(inOf es).leaf=true from fun e=>nomatch e)];have e1:(inOf es).kids.length=es.length:=(by show (es.map _).length=_;rw[zK]);have I:(inOf es).keys.length=es.length-1:=(by show ((es.map _).tail).length=_;rw[length_tail,zK]);refine⟨fun x u=>?_,rfl,by rw[e1];exact E,by rw[e1];exact G,by rw[e1,I];omega⟩;obtain⟨e,y,rfl⟩:=mem_map.1 u;exact (A e y).1;obtain⟨e,y,rfl⟩:=mem_map.1 u;exact (A e y).2
theorem SepE.rising{es:List Ent}(h:SepE es):Rising (es.map (·.1)).tail:=by have u:(es.map (·.1)).Pairwise KLt:=pairwise_map.2 (h.pair.imp fun h=>h.1);exact List.Pairwise.sublist (tail_sublist _) u
structure Step (D:DiskM) (M M':PgM) (P P':List Int):Prop where
 wf:M'.Wf
 over:M'.over=false
 roots:M'.roots=M.roots
 sup:M'.sup=M.sup
 lists:M'.lists=M.lists
 named:M'.named=M.named
 Named:M.Named->M'.Named
 turn:M'.turn=M.turn
 rest:∀ x,InUse M x->x∉P->pagerReadM D M' x=pagerReadM D M x/\InUse M' x/\x∉P'
 use:∀ x,InUse M' x->x∈P'\/(InUse M x/\x∉P)
 has:∀ x∈P',InUse M' x
 new:∀ x∈P',x∈P\/¬ InUse M x
 nodup:P'.Nodup
 old:∀ x,usedV M' x=true->usedV M x=true
theorem Step.refl(y:M.Wf)(z:M.over=false){P:List Int}(A:∀x∈P,InUse M x)(C:P.Nodup):Step D M M P P:=
 ⟨y,z,rfl,rfl,rfl,rfl,id,rfl,fun x u E=>⟨rfl,u,E⟩,fun x u=>by by_cases h:x∈P;exact .inl h;exact .inr ⟨u,h⟩,A,fun x u=>.inl u,C,fun x u=>u⟩
theorem Step.perm{P P' Q C:List Int}(h:Step D M M' P P')(A:P.Perm Q)(u:P'.Perm C):Step D M M' Q C:=
 ⟨h.wf,h.over,h.roots,h.sup,h.lists,h.named,h.Named,h.turn,fun x y E=>by obtain⟨G,I,J⟩:=h.rest x y (fun z=>E (A.mem_iff.1 z));exact⟨G,I,fun z=>J (u.mem_iff.2 z)⟩,fun x y=>(h.use x y).imp (fun h=>u.mem_iff.1 h) fun h=>⟨h.1,fun z=>h.2 (A.mem_iff.2 z)⟩,fun x y=>h.has x (u.mem_iff.2 y),fun x y=>(h.new x (u.mem_iff.2 y)).imp (fun h=>A.mem_iff.1 h) id,u.nodup_iff.1 h.nodup,h.old⟩
theorem Step.beside{P P' Z:List Int}(h:Step D M M' P P')(I:∀x∈Z,InUse M x)(K:(Z++P).Nodup):Step D M M' (Z++P) (Z++P'):=by have J:=yL.1 K;have A:∀x∈Z,x∉P:=fun x u E=>J.2.2 x u x E rfl;refine⟨h.wf,h.over,h.roots,h.sup,h.lists,h.named,h.Named,h.turn,fun x u E=>?_,fun x u=>?_,fun x u=>?_,fun x u=>?_,?_,h.old⟩;obtain⟨C,G,Q⟩:=h.rest x u (fun z=>E (zI _ z));exact⟨C,G,fun z=>(zD.1 z).elim (fun z=>E (zH _ z)) Q⟩;rcases h.use x u with C|⟨C,G⟩;exact .inl (zI _ C);by_cases hz:x∈Z;exact .inl (zH _ hz);exact .inr ⟨C,fun z=>(zD.1 z).elim hz G⟩;rcases zD.1 u with u|u;exact (h.rest x (I x u) (A x u)).2.1;exact h.has x u;rcases zD.1 u with u|u;exact .inl (zH _ u);exact (h.new x u).imp (fun h=>zI _ h) id;rw[yL];exact⟨J.1,h.nodup,fun x u y R e=>(h.rest x (I x u) (A x u)).2.2 (e▸R)⟩
theorem Step.trans{M1:PgM}{P Q R:List Int}(h:Step D M M1 P Q)(g:Step D M1 M' Q R):Step D M M' P R:=
 ⟨g.wf,g.over,g.roots.trans h.roots,g.sup.trans h.sup,g.lists.trans h.lists,g.named.trans h.named,fun x=>g.Named (h.Named x),g.turn.trans h.turn,fun x y C=>by
  obtain⟨u,z,A⟩:=h.rest x y C;obtain⟨E,G,I⟩:=g.rest x z A;exact⟨E.trans u,G,I⟩,fun x y=>by
  rcases g.use x y with u|⟨u,z⟩;exact .inl u;exact (h.use x u).elim (fun A=>absurd A z) .inr,g.has,fun x y=>by
  rcases g.new x y with u|u;exact h.new x u;by_cases hP:x∈P;exact .inl hP;by_cases hu:InUse M x;exact absurd (h.rest x hu hP).2.1 u;exact .inr hu,g.nodup,fun x y=>h.old x (g.old x y)⟩
theorem Turned.step{q p:Int}{r:Int×List Int}(E:M.over=false)(h:Turned D M M' q p (some r))(G:InUse M p)(z:q=p\/¬InUse M q):Step D M M' [p] [q]:=by
 have C:=h.wrote r rfl;refine⟨h.wf,h.over,h.roots,h.sup,h.lists,h.named,h.Named,h.turn,fun x A u=>?_,fun x A=>?_,fun x A=>?_,fun x A=>?_,by simp,h.old⟩;have u:x≠p:=(by simpa using u);have y:x≠q:=fun e=>by rcases z with z|z;exact u (e.trans z);exact z (e▸A)
 exact⟨h.rest x y u,(h.use x y u).2 A,by simpa using y⟩;by_cases y:x=q;exact .inl (by simp[y]);by_cases u:x=p;subst u;exact absurd A (h.left (fun e=>y e));exact .inr ⟨(h.use x y u).1 A,by simpa using u⟩;rw[zE.1 A];exact C.2;rw[zE.1 A];rcases z with z|z;exact .inl (by simp[z]);exact .inr z
theorem Turned.fresh{q:Int}{r:Int×List Int}(C:M.over=false)(h:Turned D M M' q q (some r))(z:¬InUse M q):Step D M M' [] [q]:=by have A:=h.wrote r rfl;refine⟨h.wf,h.over,h.roots,h.sup,h.lists,h.named,h.Named,h.turn,fun x y _=>?_,fun x y=>?_,fun x y=>?_,fun x y=>?_,by simp,h.old⟩;have u:x≠q:=fun e=>z (e▸y);exact⟨h.rest x u u,(h.use x u u).2 y,by simpa using u⟩;by_cases u:x=q;exact .inl (by simp[u]);exact .inr ⟨(h.use x u u).1 y,by simp⟩;rw[zE.1 y];exact A.2;rw[zE.1 y];exact .inr z
end
end
section
section
variable {D:DiskM} {M M':PgM} {k v:Nat}
theorem qgL{p:Int}{n:NodeM}(y:M.Wf)(z:M.over=false)(A:NodeOk n k v)(h:InUse M p)(C:M.free≠[]): ∃q M',storeN k v M p n=((q,0),M')/\Step D M M' [p] [q]/\pagerReadM D M' q=(kindN n,bodyN n,0)/\M.free.length<=M'.free.length+1/\(p∈M.fresh.map (·.1)->q=p/\M'.free=M.free):=by obtain⟨q,M',e,t,E,G,I⟩:=qop (D:=D) y z A (.inr h) C;have u:p≠0:=(by have:=(qgd y h).1;omega);rw[if_neg u] at t;exact⟨q,M',e,t.step z h E,(t.wrote _ rfl).1,G,I⟩
theorem qhD{n:NodeM}(z:M.Wf)(u:M.over=false)(A:NodeOk n k v)(C:M.free≠[]): ∃q M',storeN k v M 0 n=((q,0),M')/\Step D M M' [] [q]/\pagerReadM D M' q=(kindN n,bodyN n,0)/\M.free.length<=M'.free.length+1/\q≠0:=by obtain⟨q,M',e,t,E,G,_⟩:=qop (D:=D) z u A (.inl rfl) C;rw[if_pos rfl] at t;have y:=t.wrote _ rfl;have I:=(qgd t.wf y.2).1;have h:¬InUse M q:=E.resolve_left (by omega);exact⟨q,M',e,t.fresh u h,y.1,G,by omega⟩
theorem qiZ{p:Int}{n:NodeM}{fresh:Bool}(h:M.Wf)(u:M.over=false)(y:NodeOk n k v)(G:(sizeN n k v).1<=(sizeN n k v).2)(z:InUse M p)(A:M.free≠[]): ∃q M',splitN k v M p n fresh=((⟨q,fresh,[],0⟩,0),M')/\Step D M M' [p] [q]/\pagerReadM D M' q=(kindN n,bodyN n,0)/\M.free.length<=M'.free.length+1:=by obtain⟨q,M',e,st,C,E,_⟩:=qgL (D:=D) h u y z A;refine⟨q,M',?_,st,C,E⟩;unfold splitN;rw[if_neg (by omega),e]
theorem ql1{p:Int}{n:NodeM}{fresh:Bool}{mid:Nat}(hW:M.Wf)(ho:M.over=false)(y:(sizeN n k v).1 / 2=mid)(h1:NodeOk (halvesN n mid).1 k v)(h2:NodeOk (halvesN n mid).2.1 k v)(hs:(sizeN n k v).1>(sizeN n k v).2)(R:InUse M p)(U:2<=M.free.length): ∃q o M',splitN k v M p n fresh=((⟨q,fresh,(halvesN n mid).2.2,o⟩,0),M')/\o≠0/\Step D M M' [p] [q,o]/\pagerReadM D M' q=(kindN (halvesN n mid).1,bodyN (halvesN n mid).1,0)/\pagerReadM D M' o=(kindN (halvesN n mid).2.1,bodyN (halvesN n mid).2.1,0)/\M.free.length<=M'.free.length+2:=by
 subst y;obtain⟨o,M1,e1,u,G,z,I⟩:=qhD (D:=D) hW ho h2 (fun e=>by rw[e] at U;exact absurd U (by decide));have V:=u.beside (Z:=[p]) (fun x J=>by rw[zE.1 J];exact R) (by simp);have K:InUse M1 p:=V.has p (by simp);obtain⟨q,M2,e2,A,Q,ah,_⟩:=qgL (D:=D) u.wf u.over h1 K (fun e=>by rw[e] at z;simp at z;omega);have C:o≠p:=fun e=>by rcases u.new o (by simp) with h|h;cases h;exact h (e▸R)
 have E:InUse M1 o:=u.has o (by simp);have s2:=A.beside (Z:=[o]) (fun x J=>by rw[zE.1 J];exact E) (by simpa using C);refine⟨q,o,M2,?_,I,(V.perm (.refl _) (List.Perm.swap _ _ _)).trans (s2.perm (.refl _) (List.Perm.swap _ _ _)),Q,?_,by omega⟩;unfold splitN;rw[if_pos hs,e1];dsimp only;rw[if_neg (fun h=>h rfl),e2];rw[(A.rest o E (by simpa using C)).1];exact G
theorem quE{L:Prs}{key val:Key}{i:Nat}(h:(keysP L)[i]?=some key):(⟨(lfOf L).leaf,keysP L,(lfOf L).vals.set i val,(lfOf L).kids⟩:NodeM)=lfOf (L.set i (key,val)):=by
 unfold lfOf;rw[map_set,map_set];have:(L.map (·.1)).set i key=L.map (·.1):=by obtain⟨u,y⟩:=zP.1 h;rw[<- y];exact set_getElem_self u
 rw[this]
theorem qtN{L:Prs}{key val:Key}{i:Nat}:(⟨(lfOf L).leaf,insAt (keysP L) i key,insAt (lfOf L).vals i val,(lfOf L).kids⟩:NodeM)=lfOf (L.take i++[(key,val)]++L.drop i):=by unfold lfOf insAt;simp only[xJ,xL,xM,xK,map_nil]
theorem qss{L:Prs}{mid:Nat}(h:mid<L.length):halvesN (lfOf L) mid=(lfOf (L.take mid),lfOf (L.drop mid),L[mid].1):=by unfold halvesN;rw[if_pos (show (lfOf L).leaf=true from rfl)];unfold lfOf;simp only[xL,xM,Prod.mk.injEq,true_and];rw[yQ,zQ,zA h];rfl
theorem qiE{L:Prs}:sizeN (lfOf L) k v=(L.length,(capsV k v).1):=by unfold sizeN;rw[if_pos (show (lfOf L).leaf=true from rfl)];show ((L.map _).length,_)=_;rw[zK]
theorem PrsOk.sub{L L':Prs}(h:PrsOk k v L)(u:∀x∈L',x∈L):PrsOk k v L':=fun x y=>h x (u x y)
theorem SortP.take{L:Prs}(h:SortP L)(n:Nat):SortP (L.take n):=by unfold SortP keysP;rw[xL];exact Rising.take h n
theorem SortP.drop{L:Prs}(h:SortP L)(n:Nat):SortP (L.drop n):=by unfold SortP keysP;rw[xM];exact Rising.drop h n
theorem qeU{q:Int}{L:Prs}(h:NodeOk (lfOf L) k v)(u:pagerReadM D M q=(3,bodyN (lfOf L),0)):Has D M k v 0 ⟨q,L.length,L,[q]⟩:=⟨rfl,rfl,h,u⟩
structure PutOk (D:DiskM) (M:PgM) (k v:Nat) (h:Nat) (s:Seg) (key val:Key) (g:Grown) (M':PgM):Prop where
 fresh:g.fresh=decide (key∉keysP s.prs)
 free:M.free.length<=M'.free.length+2*(h+1)
 res:(g.other=0/\∃ n P,Has D M' k v h ⟨g.page,n,insP key val s.prs,P⟩/\Step D M M' s.pages P/\s.size<=n)\/
  (g.other≠0/\∃ n1 L1 P1 n2 L2 P2,Has D M' k v h ⟨g.page,n1,L1,P1⟩/\Has D M' k v h ⟨g.other,n2,L2,P2⟩/\L1++L2=insP key val s.prs/\(∀ x∈L1,KLt x.1 g.key)/\(∀ y∈L2,KLe g.key y.1)/\g.key.length=k/\IsB g.key/\minOf k v h<=n1/\minOf k v h<=n2/\Step D M M' s.pages (P1++P2))
structure CapsOk (k v:Nat):Prop where
 leaf:2<=(capsV k v).1
 inner:4<=(capsV k v).2
theorem qnB{p:Int}{L L':Prs}{key val:Key}{fresh:Bool}(hc:CapsOk k v)(hW:M.Wf)(ho:M.over=false)(hp:InUse M p)(R:2<=M.free.length)(J:PrsOk k v L')(K:SortP L')(h1:1<=L'.length)(h2:L'.length<=(capsV k v).1+1)(h3:L.length<=L'.length)(he:L'=insP key val L)(z:fresh=decide (key∉keysP L)): ∃g M',splitN k v M p (lfOf L') fresh=((g,0),M')/\PutOk D M k v 0 ⟨p,L.length,L,[p]⟩ key val g M':=by by_cases hb:L'.length<=(capsV k v).1;have hn:=qgl J K h1 hb;obtain⟨q,M',e,st,hr,hl⟩:=qiZ (D:=D) (fresh:=fresh) hW ho hn (by rw[qiE];exact hb) hp (fun e=>by rw[e] at R;exact absurd R (by decide));refine⟨_,M',e,z,by show M.free.length<=M'.free.length+2;omega,.inl ⟨rfl,L'.length,[q],?_,st,h3⟩⟩;rw[<- he];exact qeU hn hr;have af:L'.length=(capsV k v).1+1:=(by omega);have ap:=hc.leaf;have h:L'.length / 2<L'.length:=(by omega);have U:=qss h;have n1:NodeOk (lfOf (L'.take (L'.length / 2))) k v:=qgl (J.sub fun x A=>yU A) (K.take _) (by rw[yK];omega) (by rw[yK];omega);have n2:NodeOk (lfOf (L'.drop (L'.length / 2))) k v:=qgl (J.sub fun x A=>yT A) (K.drop _) (by rw[yB];omega) (by rw[yB];omega);obtain⟨q,o,M',e,V,st,C,E,hl⟩:=ql1 (D:=D) (k:=k) (v:=v) (p:=p) (fresh:=fresh) (mid:=L'.length / 2) (n:=lfOf L') hW ho (by rw[qiE]) (by rw[U];exact n1) (by rw[U];exact n2) (by rw[qiE];show L'.length>_;omega) hp R;rw[U] at e C E;have G:L'=L'.take (L'.length / 2)++L'.drop (L'.length / 2):=(xC _ _).symm;have hd:=zX h;have u:=K;rw[G] at u;have u:=SortP.app.1 u;have I:=J _ (zW h);refine⟨⟨q,fresh,L'[L'.length / 2].1,o⟩,M',e,z,by show M.free.length<=M'.free.length+2;omega,.inr ⟨V,(L'.take (L'.length / 2)).length,_,[q],(L'.drop (L'.length / 2)).length,_,[o],qeU n1 C,qeU n2 E,by rw[<- G];exact he,fun x A=>u.2.2 x A _ (by rw[hd];exact mem_cons_self),fun y Q=>?_,I.1,I.2.2.1,?_,?_,st⟩⟩;have h5:=u.2.1;rw[hd] at Q h5;rcases zG.1 Q with rfl|Q;exact qaz;exact qaQ (qbq (x:=L'[L'.length / 2].1) (r:=keysP _) h5 y.1 (zY Q));rw[yK];show (capsV k v).1 / 2<=_;omega;rw[yB];show (capsV k v).1 / 2<=_;omega
theorem qgK{es:List Ent}{key:Key}(u:(es.map (·.1)).head?=some [])(I:SepE es):∃A e B,es=A++e::B/\A.length=kidV ((es.map (·.1)).tail) key/\KLe e.1 key/\(∀b∈B,KLt key b.1)/\(es.map (·.2.page)).getD (kidV ((es.map (·.1)).tail) key) 0=e.2.page:=by
 have J:=I.rising;have y:=qiC ((es.map (·.1)).tail) key;have z:es≠[]:=fun e=>by rw[e] at u;cases u
 have E:0<es.length:=length_pos_iff.2 z;have h:kidV ((es.map (·.1)).tail) key<es.length:=(by rw[length_tail,zK] at y;omega);generalize G:kidV ((es.map (·.1)).tail) key=c at h;have C:es=es.take c++es[c]::es.drop (c+1):=(by rw[<- zX h,xC]);refine⟨es.take c,es[c],es.drop (c+1),C,by rw[yK];omega,?_,fun b K=>?_,?_⟩;cases c with
 | zero=>
  have:es[0].1=[]:=by
   cases es with
   | nil=>cases u
   | cons a r=>simpa using u
  rw[this];exact qga _
 | succ c=>
  refine qqw (l:=(es.map (·.1)).tail) (k:=key) ?_;rw[G];have Q:(es.map (·.1)).tail[c]?=some es[c+1].1:=(by rw[List.getElem?_tail,zQ,zA h];rfl);refine yE (i:=c) ?_;rw[xA,if_pos (by omega)];exact Q
 refine qpi (l:=(es.map (·.1)).tail) J ?_;rw[G];have:(es.map (·.1)).tail.drop c=(es.drop (c+1)).map (·.1):=(by rw[<- drop_one,xB,xM,Nat.add_comm]);rw[this];exact zY K;rw[yQ,zQ,zA h];rfl
theorem qaD{α:Type}{f:Ent->List α}{A B:List Ent}{e:Ent}:(A++e::B).flatMap f=A.flatMap f++(f e++B.flatMap f):=by rw[yP,yG]
theorem SepE.put{A B:List Ent}{e:Ent}{s:Seg}{key:Key}(h:SepE (A++e::B))(E:KLe e.1 key)(G:∀b∈B,KLt key b.1)(J:∀x∈s.prs,x.1=key\/x∈e.2.prs):SepE (A++(e.1,s)::B):=by have C:=pairwise_append.1 h.pair;have I:=yI.1 C.2.1;refine⟨pairwise_append.2 ⟨C.1,yI.2 ⟨fun b u=>⟨(I.1 b u).1,fun x z=>?_⟩,I.2⟩,fun a K b u=>?_⟩,fun b u x z=>?_⟩;rcases J x z with y|y;rw[y];exact G b u;exact (I.1 b u).2 x y;rcases zG.1 u with rfl|u;exact C.2.2 a K e (by simp);exact C.2.2 a K b (by simp[u]);rcases zD.1 u with u|u;exact h.low b (by simp[u]) x z;rcases zG.1 u with rfl|u;rcases J x z with y|y;rw[y];exact E;exact h.low e (by simp) x y;exact h.low b (by simp[u]) x z
theorem SepE.cut2{A B:List Ent}{lo:Key}{s s1 s2:Seg}{m:Key}(h:SepE (A++(lo,s)::B))(E:s.prs=s1.prs++s2.prs)(h1:∀x∈s1.prs,KLt x.1 m)(h2:∀y∈s2.prs,KLe m y.1)(G:s1.prs≠[])(I:s2.prs≠[]):SepE (A++(lo,s1)::(m,s2)::B):=by have U:=pairwise_append.1 h.pair;have J:=yI.1 U.2.1;have K:=h.low (lo,s) (by simp);obtain⟨V,Q⟩:=exists_mem_of_ne_nil _ G;obtain⟨y1,R⟩:=exists_mem_of_ne_nil _ I;have hm:KLt lo m:=qh6 (K V (by show V∈s.prs;rw[E];exact zH _ Q)) (h1 V Q);have ac:∀b∈B,KLt m b.1:=fun b u=>qh6 (h2 y1 R) ((J.1 b u).2 y1 (by show y1∈s.prs;rw[E];exact zI _ R));refine⟨pairwise_append.2 ⟨U.1,yI.2 ⟨fun b u=>?_,yI.2 ⟨fun b u=>⟨ac b u,fun x z=>(J.1 b u).2 x (by show x∈s.prs;rw[E];exact zI _ z)⟩,J.2⟩⟩,fun a ha b u=>?_⟩,fun b u x z=>?_⟩;rcases zG.1 u with rfl|u;exact⟨hm,fun x z=>h1 x z⟩;exact⟨(J.1 b u).1,fun x z=>(J.1 b u).2 x (by show x∈s.prs;rw[E];exact zH _ z)⟩;have C:=U.2.2 a ha (lo,s) (by simp);rcases zG.1 u with rfl|u;exact C;rcases zG.1 u with rfl|u;exact⟨qay C.1 hm,fun x z=>qay (C.2 x z) hm⟩;exact U.2.2 a ha b (by simp[u]);rcases zD.1 u with u|u;exact h.low b (by simp[u]) x z;rcases zG.1 u with rfl|u;exact K x (by show x∈s.prs;rw[E];exact zH _ z);rcases zG.1 u with rfl|u;exact h2 x z;exact h.low b (by simp[u]) x z
theorem qix{es:List Ent}:sizeN (inOf es) k v=(es.length,(capsV k v).2):=by unfold sizeN;rw[if_neg (show ¬(inOf es).leaf=true from fun e=>nomatch e)];show ((es.map _).length,_)=_;rw[zK]
def relow:List Ent->List Ent
 | []=>[]
 | e::r=>([],e.2)::r
theorem qsP(es:List Ent):inOf (relow es)=inOf es:=by cases es<;>rfl
theorem qsv{es:List Ent}{mid:Nat}(z:1<=mid)(h:mid<es.length):halvesN (inOf es) mid=(inOf (es.take mid),inOf (relow (es.drop mid)),es[mid].1):=by
 unfold halvesN;rw[if_neg (show ¬(inOf es).leaf=true from fun e=>nomatch e),qsP];unfold inOf;have e1:(es.map (·.1)).tail.take (mid-1)=((es.take mid).map (·.1)).tail:=by rw[<- drop_one,<- drop_one,xL,drop_take]
 have u:(es.map (·.1)).tail.drop mid=((es.drop mid).map (·.1)).tail:=(by rw[<- drop_one,<- drop_one,xM,xB,xB,Nat.add_comm]);have y:(es.map (·.1)).tail.getD (mid-1) []=es[mid].1:=(by rw[yQ,List.getElem?_tail,zQ,show mid-1+1=mid by omega,zA h];rfl);dsimp only;rw[e1,u,y];simp only[xL,xM]
theorem SepE.take{es:List Ent}(h:SepE es)(n:Nat):SepE (es.take n):=⟨List.Pairwise.sublist (take_sublist n es) h.pair,fun e u=>h.low e (yU u)⟩
theorem SepE.drop{es:List Ent}(h:SepE es)(n:Nat):SepE (es.drop n):=⟨List.Pairwise.sublist (drop_sublist n es) h.pair,fun e u=>h.low e (yT u)⟩
theorem SepE.relow{es:List Ent}(h:SepE es):SepE (relow es):=by
 cases es with
 | nil=>exact h
 | cons e r=>
  have z:=yI.1 h.pair;refine⟨yI.2 ⟨fun b u=>⟨?_,(z.1 b u).2⟩,z.2⟩,fun b u x C=>?_⟩
  have:=(z.1 b u).1
  cases A:b.1 with
  | nil=>rw[A] at this;exact absurd this qjp
  | cons y l=>show cmpL [] (y::l)<0;simp[cmpL]
  rcases zG.1 u with rfl|u;exact qga _;exact h.low b (zN _ u) x C
theorem qkS{α:Type}{f:Seg->List α}(es:List Ent):(relow es).flatMap (fun e=>f e.2)=es.flatMap fun e=>f e.2:=by cases es<;>rfl
theorem ql3{P:Seg->Prop}{es:List Ent}(h:∀e∈es,P e.2):∀e∈relow es,P e.2:=by
 cases es with
 | nil=>exact h
 | cons a r=>
  intro e u;rcases zG.1 u with rfl|u;exact h a (by simp);exact h e (zN _ u)
theorem qp6{es:List Ent}(h:es≠[]):((relow es).map (·.1)).head?=some []:=by cases es with|nil=>exact absurd rfl h|cons a r=>rfl
theorem qrh(es:List Ent):(relow es).length=es.length:=by cases es<;>rfl
def KeysOk (k:Nat) (es:List Ent):Prop:=∀e∈es.tail,e.1.length=k/\IsB e.1
theorem KeysOk.tail{es:List Ent}(h:KeysOk k es):∀a∈(es.map (·.1)).tail,a.length=k/\IsB a:=fun a u=>by rw[<- map_tail] at u;obtain⟨e,y,rfl⟩:=mem_map.1 u;exact h e y
theorem KeysOk.of{es:List Ent}(h:NodeOk (inOf es) k v):KeysOk k es:=fun e u=>by have:e.1∈(inOf es).keys:=(by show e.1∈(es.map (·.1)).tail;rw[<- map_tail];exact zY u);exact⟨h.right.1 _ this,h.keys _ this⟩
theorem qbp(u:M.Wf){x:Int}(h:InUse M x):2<=x/\x<4294967296:=by have y:=qgd u h;have z:=u.n4;omega
theorem qcF{h:Nat}{q:Int}{es:List Ent}(u:(es.map (·.1)).head?=some [])(y:NodeOk (inOf es) k v)(z:pagerReadM D M q=(4,bodyN (inOf es),0))(A:SepE es)(C:∀e∈es,Has D M k v h e.2/\minOf k v h<=e.2.size): Has D M k v (h+1) ⟨q,es.length,es.flatMap (·.2.prs),q::es.flatMap (·.2.pages)⟩:=⟨es,u,rfl,rfl,rfl,y,z,A,C⟩
theorem qtg{A B:List Ent}{e:Ent}{s1 s2:Seg}{m:Key}(I:((A++e::B).map (·.1)).head?=some []){g:Grown}(u:g.page=s1.page)(y:g.other=s2.page)(z:g.key=m)(C:g.other≠0):grownN (inOf (A++e::B)) A.length g=inOf (A++(e.1,s1)::(m,s2)::B):=by
 unfold grownN;rw[if_pos C,u,y,z];unfold inOf insAt;dsimp only;congr 1;cases A with
 | nil=>simp
 | cons a A=>
  have:(A.map (·.1)++e.1::B.map (·.1)).take (A.length+1)=A.map (·.1)++[e.1]:=(by rw[show A.map (·.1)++e.1::B.map (·.1)=(A.map (·.1)++[e.1])++B.map (·.1) by simp];exact take_left' (by simp));have E:(A.map (·.1)++e.1::B.map (·.1)).drop (A.length+1)=B.map (·.1):=(by rw[show A.map (·.1)++e.1::B.map (·.1)=(A.map (·.1)++[e.1])++B.map (·.1) by simp];exact drop_left' (by simp));simp only[xJ,xK,xH,tail_cons,yH];rw[this,E];simp
 have G:(A.map (·.2.page)).length=A.length:=zK _;have h:(A.map (·.2.page)++e.2.page::B.map (·.2.page)).set A.length s1.page=(A.map (·.2.page)++[s1.page])++B.map (·.2.page):=(by rw[set_append_right _ _ (by omega),G,Nat.sub_self];simp);simp only[xJ,xK];rw[h,take_left' (by simp),drop_left' (by simp)];simp
theorem qrU{A B:List Ent}{e:Ent}{s1:Seg}{g:Grown}(u:g.page=s1.page)(y:g.other=0):grownN (inOf (A++e::B)) A.length g=inOf (A++(e.1,s1)::B):=by unfold grownN;rw[if_neg (fun h=>h y),u];unfold inOf;dsimp only;have z:(A.map (·.2.page)).length=A.length:=zK _;congr 1;simp;simp only[xJ,xK];rw[set_append_right _ _ (by omega),z,Nat.sub_self];rfl
theorem qgJ{α:Type}{a x b z:List α}:(a++(x++b)).Perm ((a++b)++x):=by rw[zV];exact List.Perm.append_left a perm_append_comm
theorem Step.node{M1 E:PgM}{p:Int}{a b x y:List Int}{Q:List Int}(G:∀z∈p::(a++(x++b)),InUse M z)(I:(p::(a++(x++b))).Nodup)(J:Step D M M1 x y)(K:Step D M1 E [p] Q):Step D M E (p::(a++(x++b))) (Q++(a++(y++b))):=by have h:(p::(a++(x++b))).Perm ((p::(a++b))++x):=(by rw[xH];exact (qgJ (z:=a)).cons p);have A:=(J.beside (Z:=p::(a++b)) (fun z C=>G z (h.mem_iff.2 (zH _ C))) (h.nodup_iff.1 I));have u:((p::(a++b))++y).Perm ((a++(y++b))++[p]):=(by refine List.Perm.trans ?_ perm_append_comm;rw[xH];exact ((qgJ (z:=a)).symm).cons p);have R:=K.beside (Z:=a++(y++b)) (fun z C=>A.has z (u.mem_iff.2 (zH _ C))) (u.nodup_iff.1 A.nodup);exact ((A.perm (h.symm) u).trans R).perm (.refl _) perm_append_comm
theorem qjy{h:Nat}{p:Int}{es:List Ent}{fresh:Bool}(J:M.Wf)(C:M.over=false)(K:(es.map (·.1)).head?=some [])(E:NodeOk (inOf es) k v)(u:es.length<=(capsV k v).2)(Q:SepE es)(z:∀e∈es,Has D M k v h e.2/\minOf k v h<=e.2.size)(R:InUse M p)(A:p∉es.flatMap (·.2.pages))(G:1<=M.free.length): ∃q M',splitN k v M p (inOf es) fresh=((⟨q,fresh,[],0⟩,0),M')/\Step D M M' [p] [q]/\Has D M' k v (h+1) ⟨q,es.length,es.flatMap (·.2.prs),q::es.flatMap (·.2.pages)⟩/\M.free.length<=M'.free.length+1:=by obtain⟨q,M',e,st,U,V⟩:=qiZ (D:=D) (fresh:=fresh) J C E (by rw[qix];exact u) R (fun e=>by rw[e] at G;exact absurd G (by decide));refine⟨q,M',e,st,qcF K E U Q fun b y=>⟨(z b y).1.frame fun x I=>?_,(z b y).2⟩,V⟩;exact (st.rest x ((z b y).1.used C x I) (fun hm=>A (yJ.2 ⟨b,y,by rw[<- zE.1 hm];exact I⟩))).1
theorem qdk{h:Nat}{es:List Ent}(z:M.Wf)(A:M.over=false)(C:KeysOk k es)(E:SepE es)(G:2<=es.length)(I:es.length<=(capsV k v).2)(u:∀e∈es,Has D M k v h e.2):NodeOk (inOf es) k v:=
 qur C.tail E.rising G I fun e y=>qbp z ((u e y).used A e.2.page (u e y).mem)
theorem qqS{es:List Ent}(h:KeysOk k es):KeysOk k (relow es):=by cases es<;>exact h
theorem qsm{h:Nat}{p:Int}{es:List Ent}{fresh:Bool}(hc:CapsOk k v)(hW:M.Wf)(ho:M.over=false)(h0:(es.map (·.1)).head?=some [])(hk:KeysOk k es)(ax:es.length=(capsV k v).2+1)(hs:SepE es)(I:∀e∈es,Has D M k v h e.2/\minOf k v h<=e.2.size)(hu:InUse M p)(ak:p∉es.flatMap (·.2.pages))(hf:2<=M.free.length): ∃q o m M' J L1 P1 K L2 P2,splitN k v M p (inOf es) fresh=((⟨q,fresh,m,o⟩,0),M')/\o≠0/\Step D M M' [p] [q,o]/\Has D M' k v (h+1) ⟨q,J,L1,q::P1⟩/\Has D M' k v (h+1) ⟨o,K,L2,o::P2⟩/\L1++L2=es.flatMap (·.2.prs)/\P1++P2=es.flatMap (·.2.pages)/\(∀x∈L1,KLt x.1 m)/\(∀y∈L2,KLe m y.1)/\m.length=k/\IsB m/\minOf k v (h+1)<=J/\minOf k v (h+1)<=K/\M.free.length<=M'.free.length+2:=by
 have aF:=hc.inner;have z:es.length / 2<es.length:=(by omega);have hh:=qsv (es:=es) (mid:=es.length / 2) (by omega) z;have lt:(es.take (es.length / 2)).length=es.length / 2:=(by rw[yK];omega);have ld:(relow (es.drop (es.length / 2))).length=es.length-es.length / 2:=(by rw[qrh,yB]);have A:∀e∈es.take (es.length / 2),Has D M k v h e.2/\minOf k v h<=e.2.size:=fun e u=>I e (yU u);have ao:∀e∈relow (es.drop (es.length / 2)),Has D M k v h e.2/\minOf k v h<=e.2.size:=ql3 (P:=fun s=>Has D M k v h s/\minOf k v h<=s.size) fun e u=>I e (yT u);have Q:=hs.take (es.length / 2);have R:=(hs.drop (es.length / 2)).relow;have ap:KeysOk k (es.take (es.length / 2)):=fun e u=>by refine hk e ?_;rw[<- drop_one,drop_take] at u;rw[<- drop_one];exact yU u
 have aq:KeysOk k (relow (es.drop (es.length / 2))):=qqS fun e u=>by refine hk e ?_;rw[<- drop_one,xB,show es.length / 2+1=1+es.length / 2 by omega,<- xB] at u;rw[<- drop_one];exact yT u
 have J:=qdk hW ho ap Q (by omega) (by omega) fun e u=>(A e u).1;have K:=qdk hW ho aq R (by omega) (by omega) fun e u=>(ao e u).1;have C:es.take (es.length / 2)++es.drop (es.length / 2)=es:=xC _ _;have hd:=zX z;obtain⟨q,o,M',e,au,st,U,V,hl⟩:=ql1 (D:=D) (k:=k) (v:=v) (p:=p) (fresh:=fresh) (mid:=es.length / 2) (n:=inOf es) hW ho (by rw[qix]) (by rw[hh];exact J) (by rw[hh];exact K) (by rw[qix];show es.length>_;omega) hu hf;rw[hh] at e U V;have fr:∀b∈es,∀x∈b.2.pages,pagerReadM D M' x=pagerReadM D M x:=fun b E x G=>
  (st.rest x ((I b E).1.used ho x G) (fun hm=>ak (yJ.2 ⟨b,E,by rw[<- zE.1 hm];exact G⟩))).1
 have f1:∀e∈es.take (es.length / 2),Has D M' k v h e.2/\minOf k v h<=e.2.size:=fun e u=>⟨(A e u).1.frame (fr e (yU u)),(A e u).2⟩;have f2:∀e∈relow (es.drop (es.length / 2)),Has D M' k v h e.2/\minOf k v h<=e.2.size:=ql3 (P:=fun s=>Has D M' k v h s/\minOf k v h<=s.size) fun e u=>⟨(I e (yT u)).1.frame (fr e (yT u)),(I e (yT u)).2⟩;have av:((es.take (es.length / 2)).map (·.1)).head?=some []:=by
  rw[xL];cases ab:es.map (·.1) with
  | nil=>rw[ab] at h0;cases h0
  | cons a r=>
   rw[ab] at h0;rw[show es.length / 2=(es.length / 2-1)+1 by omega,take_succ_cons];exact h0
 have aw:((relow (es.drop (es.length / 2))).map (·.1)).head?=some []:=qp6 (by rw[hd];exact cons_ne_nil _ _);have ac:=hs;rw[<- C,hd] at ac;have hm:=ac.mid;have ad:=hk es[es.length / 2] (by rw[<- drop_one];exact yE (i:=es.length / 2-1) (by rw[yZ,show 1+(es.length / 2-1)=es.length / 2 by omega,zA z]));have ep:(relow (es.drop (es.length / 2))).flatMap (·.2.prs)=(es.drop (es.length / 2)).flatMap (·.2.prs):=qkS (f:=Seg.prs) _;have eg:(relow (es.drop (es.length / 2))).flatMap (·.2.pages)=(es.drop (es.length / 2)).flatMap (·.2.pages):=qkS (f:=Seg.pages) _;have H2:=qcF aw K V R f2;refine⟨q,o,es[es.length / 2].1,M',_,_,_,_,_,_,e,au,st,qcF av J U Q f1,H2,?_,?_,fun x G=>?_,fun y hy=>?_,ad.1,ad.2,?_,?_,hl⟩;rw[ep,<- yP,C];rw[eg,<- yP,C];obtain⟨a,ha,G⟩:=yJ.1 G;exact hm.1 a ha x G;rw[ep,hd] at hy;obtain⟨b,E,hy⟩:=yJ.1 hy;rcases zG.1 E with rfl|E;exact hs.low _ (zW z) y hy;exact qcx (qaQ (hm.2 b E).1) ((hm.2 b E).2.2 y hy);show (capsV k v).2 / 2<=_;omega;show (capsV k v).2 / 2<=_;omega
theorem qkf{A B:List Ent}{e:Ent}{s:Seg}(h:KeysOk k (A++e::B)):KeysOk k (A++(e.1,s)::B):=by
 cases A with
 | nil=>exact h
 | cons a A=>
  intro b u;rcases zD.1 (show b∈A++(e.1,s)::B from u) with u|u;exact h b (show b∈A++e::B from zH _ u);rcases zG.1 u with rfl|u;exact h e (show e∈A++e::B from zI _ mem_cons_self);exact h b (show b∈A++e::B from zI _ (zN _ u))
theorem qoq{A B:List Ent}{e:Ent}{s1 s2:Seg}{m:Key}(h:KeysOk k (A++e::B))(C:m.length=k/\IsB m):KeysOk k (A++(e.1,s1)::(m,s2)::B):=by
 have z:∀b∈(m,s2)::B,(∀c∈B,c.1.length=k/\IsB c.1)->b.1.length=k/\IsB b.1:=fun b u E=>(zG.1 u).elim (fun e=>by rw[e];exact C) (E b);cases A with
 | nil=>exact fun b u=>z b u fun c y=>h c y
 | cons a A=>
  intro b u;rcases zD.1 (show b∈A++(e.1,s1)::(m,s2)::B from u) with u|u;exact h b (show b∈A++e::B from zH _ u);rcases zG.1 u with rfl|u;exact h e (show e∈A++e::B from zI _ mem_cons_self);exact z b u fun c y=>h c (show c∈A++e::B from zI _ (zN _ y))
theorem qpN(hc:CapsOk k v){key val:Key}(hk:key.length=k/\IsB key)(hv:val.length=v/\IsB val):∀(h:Nat) (M:PgM) (s:Seg),Has D M k v h s->M.Wf->M.over=false->s.pages.Nodup->s.size<=1000->2*(h+1)<=M.free.length-> ∃g M',putN D k v key val (h+1) M s.page=((g,0),M')/\PutOk D M k v h s key val g M'
 | 0,M,⟨p,n,L,P⟩,⟨h1,h2,h3,h4⟩,hW,ho,aQ,_,hf=>by
  dsimp only at h1 h2 h3 h4;subst h1 h2;have hp:InUse M p:=qnk ho (by rw[h4]);have hl:loadN D M k v p=(lfOf L,0):=h3.load h4;have hs:SortP L:=h3.right.2.2.1;have hL:PrsOk k v L:=fun x C=>⟨h3.right.1 x.1 (zY C),h3.right.2.1 x.2 (zY C),h3.keys x.1 (zY C),h3.vals x.2 (zY C)⟩;have G:=h3.right.2.2.2;rw[if_pos (show (lfOf L).leaf=true from rfl)] at G;have a0:1<=L.length/\L.length<=(capsV k v).1:=by have e:(lfOf L).keys.length=L.length:=zK _;rw[e] at G;exact⟨G.2.1,G.2.2.1⟩
  have aR:(lfOf L).keys=keysP L:=rfl;have ah:=qq6 (v:=val) (k:=key) hs;have ax:PrsOk k v (insP key val L):=fun x C=>(qeJ C).elim (fun e=>by rw[e];exact⟨hk.1,hv.1,hk.2,hv.2⟩) (hL x);have ay:=ql5 (k:=key) (v:=val) hs;unfold putN;rw[hl];dsimp only;rw[if_neg (fun h=>h rfl),if_pos (show (lfOf L).leaf=true from rfl),aR];by_cases J:(keysP L)[placeV (keysP L) key]?=some key;rw[if_pos J,quE J];rw[if_pos J] at ah;have ai:=qbB (v:=val) hs ((qb4 hs).1 J);rw[ah] at ax ay ai;exact qnB hc hW ho hp (by omega) ax ay (by omega) (by omega) (by omega) ah.symm (by rw[zU (fun h=>h ((qb4 hs).1 J))]);rw[if_neg J,qtN];rw[if_neg J] at ah;have a1:key∉keysP L:=fun h=>J ((qb4 hs).2 h);have ai:=qaX (v:=val) a1;rw[ah] at ax ay ai;exact qnB hc hW ho hp (by omega) ax ay (by omega) (by omega) (by omega) ah.symm (by rw[zZ a1])
 | h+1,M,⟨p,n,L,P⟩,⟨I,h0,h1,h2,h3,h4,h5,h6,h7⟩,hW,ho,aQ,h8,hf=>by
  dsimp only at h1 h2 h3 h5 aQ h8;subst h1 h2 h3;have hp:InUse M p:=qnk ho (by rw[h5]);have hl:loadN D M k v p=(inOf I,0):=h4.load h5;have bN:=h4.right.innerTwo;obtain⟨A,e,B,E,hA,aS,aT,aU⟩:=qgK (key:=key) h0 h6;have aV:(inOf I).kids.getD (kidV (inOf I).keys key) 0=e.2.page:=aU;have bw:kidV (inOf I).keys key=A.length:=hA.symm;have bx:e∈I:=(by rw[E];simp);obtain⟨aA,am⟩:=h7 e bx;have aa:∀z∈p::I.flatMap (·.2.pages),InUse M z:=fun z hz=>(zG.1 hz).elim (fun e=>by rw[e];exact hp) fun hz=>by obtain⟨b,u,hz⟩:=yJ.1 hz;exact (h7 b u).1.used ho z hz
  have ad:I.flatMap (·.2.pages)=A.flatMap (·.2.pages)++(e.2.pages++B.flatMap (·.2.pages)):=(by rw[E,qaD]);have ab:I.flatMap (·.2.prs)=A.flatMap (·.2.prs)++(e.2.prs++B.flatMap (·.2.prs)):=(by rw[E,qaD]);have K:=aQ;have af:=aa;rw[ad] at K af;have bz:e.2.size<=1000:=by
   have:=qfR (k:=k) (v:=v)
   cases h with
   | zero=>
    have h9:=aA.2.2.1.right.2.2.2;rw[if_pos (show (lfOf e.2.prs).leaf=true from rfl)] at h9;have bA:=h9.2.2.1;have e1:(lfOf e.2.prs).keys.length=e.2.prs.length:=zK _;rw[e1] at bA;rw[aA.2.1];omega
   | succ h=>
    obtain⟨bU,_,g1,_,_,g4,_⟩:=aA
    have:=g4.right.innerTwo
    rw[g1];omega
  have a2:e.2.pages.Nodup:=(yL.1 (yL.1 (nodup_cons.1 K).2).2.1).1;obtain⟨g,M1,eg,ok⟩:=qpN hc hk hv h M e.2 aA hW ho a2 bz (by omega);have bC:=ok.free;have ag:=h6;rw[E] at ag;have an:=ag.mid;have a3:∀x∈A.flatMap (·.2.prs),KLt x.1 key:=fun x C=>by obtain⟨a,ha,C⟩:=yJ.1 C;exact qbi (an.1 a ha x C) aS
  have a4:∀x∈B.flatMap (·.2.prs),KLt key x.1:=fun x C=>by obtain⟨b,u,C⟩:=yJ.1 C;exact qbi (aT b u) ((an.2 b u).2.2 x C)
  have aK:insP key val (I.flatMap (·.2.prs))=A.flatMap (·.2.prs)++(insP key val e.2.prs++B.flatMap (·.2.prs)):=(by rw[ab,qcX a3,qjb a4]);have aB:g.fresh=decide (key∉keysP (I.flatMap (·.2.prs))):=by rw[ok.fresh];refine decide_eq_decide.2 (not_congr ⟨fun J=>?_,fun J=>?_⟩);obtain⟨x,C,rfl⟩:=mem_map.1 J;exact zY (by rw[ab];exact zI _ (zH _ C));obtain⟨x,C,rfl⟩:=mem_map.1 J;rw[ab] at C;rcases zD.1 C with C|C;exact absurd (a3 x C) qaz;rcases zD.1 C with C|C;exact zY C;exact absurd (a4 x C) qaz
  have ao:p∉e.2.pages:=fun J=>(nodup_cons.1 K).1 (zI _ (zH _ J));have a5:∀b,b∈A\/b∈B->∀z∈b.2.pages,z∉e.2.pages:=fun b u z hz J=>by have h9:=yL.1 (nodup_cons.1 K).2;rcases u with u|u;exact h9.2.2 z (yJ.2 ⟨b,u,hz⟩) z (zH _ J) rfl;exact (yL.1 h9.2.1).2.2 z J z (yJ.2 ⟨b,u,hz⟩) rfl
  have ac:=KeysOk.of h4;have a6:∀ {MM:PgM} {Q:List Int},Step D M MM e.2.pages Q->p∉A.flatMap (·.2.pages)++(Q++B.flatMap (·.2.pages)):=fun st J=>by have h9:=(nodup_cons.1 K).1;rcases zD.1 J with J|J;exact h9 (zH _ J);rcases zD.1 J with J|J;exact (st.rest p hp ao).2.2 J;exact h9 (zI _ (zI _ J))
  unfold putN;rw[hl];dsimp only;rw[if_neg (fun h=>h rfl),if_neg (show ¬(inOf I).leaf=true from fun e=>nomatch e),aV,eg];dsimp only;rw[if_neg (fun h=>h rfl),bw];have V:∀ {MM:PgM},(∀x∈p::I.flatMap (·.2.pages),x∉e.2.pages->pagerReadM D MM x=pagerReadM D M x)->∀b,b∈A\/b∈B->Has D MM k v h b.2/\minOf k v h<=b.2.size:=fun hr b u=>by
   have aW:b∈I:=by rw[E];rcases u with u|u<;>simp[u]
   exact⟨(h7 b aW).1.frame fun x C=>hr x (zN _ (yJ.2 ⟨b,aW,C⟩)) (a5 b u x C),(h7 b aW).2⟩
  rcases ok.res with ⟨aC,n',P',aL,st,aM⟩|⟨aC,n1,L1,P1,n2,L2,P2,a7,a8,aN,a9,a',ba,bb,bD,bE,st⟩;have R:((A++(e.1,(⟨g.page,n',insP key val e.2.prs,P'⟩:Seg))::B).map (·.1)).head?=some []:=by rw[E] at h0;rw[xJ,xK] at h0⊢;exact h0
  have U:SepE (A++(e.1,(⟨g.page,n',insP key val e.2.prs,P'⟩:Seg))::B):=ag.put aS aT fun x C=>(qeJ C).imp (fun e=>by rw[e]) id;have y:∀x∈p::I.flatMap (·.2.pages),x∉e.2.pages->pagerReadM D M1 x=pagerReadM D M x:=fun x C aX=>(st.rest x (aa x C) aX).1;have G:(A++(e.1,(⟨g.page,n',insP key val e.2.prs,P'⟩:Seg))::B).length=I.length:=(by rw[E];simp);have aq:(A++(e.1,(⟨g.page,n',insP key val e.2.prs,P'⟩:Seg))::B).flatMap (·.2.prs)=insP key val (I.flatMap (·.2.prs)):=(by rw[qaD,aK]);have ae:(A++(e.1,(⟨g.page,n',insP key val e.2.prs,P'⟩:Seg))::B).flatMap (·.2.pages)=A.flatMap (·.2.pages)++(P'++B.flatMap (·.2.pages)):=(by rw[qaD]);by_cases hsame:g.page=e.2.page/\g.other=0;rw[if_pos hsame];have bc:inOf (A++(e.1,(⟨g.page,n',insP key val e.2.prs,P'⟩:Seg))::B)=inOf I:=(by rw[E];unfold inOf;simp[hsame.1]);have bF:pagerReadM D M1 p=(4,bodyN (inOf (A++(e.1,(⟨g.page,n',insP key val e.2.prs,P'⟩:Seg))::B)),0):=(by rw[y p (by simp) ao,h5,bc]);refine⟨_,M1,rfl,aB,by omega,.inl ⟨rfl,I.length,p::(A.flatMap (·.2.pages)++(P'++B.flatMap (·.2.pages))),?_,?_,zM _⟩⟩
  have:=qcF R (by rw[bc];exact h4) bF U (h:=h) fun b u=>?_
  rw[G,aq,ae] at this;exact this;rcases zD.1 u with u|u;exact V y b (.inl u);rcases zG.1 u with rfl|u;exact⟨aL,zL am aM⟩;exact V y b (.inr u);show Step D M M1 (p::I.flatMap (·.2.pages)) _;rw[ad];have h9:=Step.node (p:=p) af K st (Step.refl (D:=D) st.wf st.over (P:=[p]) (fun x C=>by rw[zE.1 C];exact (st.rest p hp ao).2.1) (by simp));exact h9;rw[if_neg hsame,E,qrU (s1:=⟨g.page,n',insP key val e.2.prs,P'⟩) rfl aC];have aj:∀b∈A++(e.1,(⟨g.page,n',insP key val e.2.prs,P'⟩:Seg))::B,Has D M1 k v h b.2/\minOf k v h<=b.2.size:=fun b u=>by rcases zD.1 u with u|u;exact V y b (.inl u);rcases zG.1 u with rfl|u;exact⟨aL,zL am aM⟩;exact V y b (.inr u)
  have aF:KeysOk k (A++(e.1,(⟨g.page,n',insP key val e.2.prs,P'⟩:Seg))::B):=qkf (by rw[<- E];exact ac);have hN:=qdk st.wf st.over aF U (by omega) (by omega) fun b u=>(aj b u).1;obtain⟨q,M2,e2,ar,H2,ai⟩:=qjy (fresh:=g.fresh) st.wf st.over R hN (by omega) U aj (st.rest p hp ao).2.1 (by rw[ae];exact a6 st) (by omega);refine⟨_,M2,e2,by rw[<- E];exact aB,by omega,.inl ⟨rfl,I.length,q::(A.flatMap (·.2.pages)++(P'++B.flatMap (·.2.pages))),?_,?_,Nat.le_of_eq (by rw[E])⟩⟩;rw[G,aq,ae] at H2;rw[<- E];exact H2;show Step D M M2 (p::(A++e::B).flatMap (·.2.pages)) _;rw[qaD];exact Step.node (p:=p) af K st ar;have bg:L1≠[]:=a7.ne;have bh:L2≠[]:=a8.ne;rw[if_neg (fun h=>aC h.2)];have U:SepE (A++(e.1,(⟨g.page,n1,L1,P1⟩:Seg))::(g.key,⟨g.other,n2,L2,P2⟩)::B):=
   (ag.put (s:=⟨0,0,insP key val e.2.prs,[]⟩) aS aT fun x C=>(qeJ C).imp (fun e=>by rw[e]) id).cut2 aN.symm a9 a' bg bh
  have R:((A++(e.1,(⟨g.page,n1,L1,P1⟩:Seg))::(g.key,⟨g.other,n2,L2,P2⟩)::B).map (·.1)).head?=some []:=by
   rw[E] at h0;rw[xJ,xK] at h0⊢;cases A with
   | nil=>exact h0
   | cons a A=>exact h0
  have y:∀x∈p::I.flatMap (·.2.pages),x∉e.2.pages->pagerReadM D M1 x=pagerReadM D M x:=fun x C aX=>(st.rest x (aa x C) aX).1;have G:(A++(e.1,(⟨g.page,n1,L1,P1⟩:Seg))::(g.key,⟨g.other,n2,L2,P2⟩)::B).length=I.length+1:=(by rw[E];simp;omega);have aq:(A++(e.1,(⟨g.page,n1,L1,P1⟩:Seg))::(g.key,⟨g.other,n2,L2,P2⟩)::B).flatMap (·.2.prs)=insP key val (I.flatMap (·.2.prs)):=(by rw[qaD,yG,aK,<- aN,zV]);have ae:(A++(e.1,(⟨g.page,n1,L1,P1⟩:Seg))::(g.key,⟨g.other,n2,L2,P2⟩)::B).flatMap (·.2.pages)=A.flatMap (·.2.pages)++((P1++P2)++B.flatMap (·.2.pages)):=(by rw[qaD,yG,zV P1]);have aj:∀b∈A++(e.1,(⟨g.page,n1,L1,P1⟩:Seg))::(g.key,⟨g.other,n2,L2,P2⟩)::B,Has D M1 k v h b.2/\minOf k v h<=b.2.size:=fun b u=>by rcases zD.1 u with u|u;exact V y b (.inl u);rcases zG.1 u with rfl|u;exact⟨a7,bD⟩;rcases zG.1 u with rfl|u;exact⟨a8,bE⟩;exact V y b (.inr u)
  have aF:KeysOk k (A++(e.1,(⟨g.page,n1,L1,P1⟩:Seg))::(g.key,⟨g.other,n2,L2,P2⟩)::B):=qoq (by rw[<- E];exact ac) ⟨ba,bb⟩;have bi:p∉(A++(e.1,(⟨g.page,n1,L1,P1⟩:Seg))::(g.key,⟨g.other,n2,L2,P2⟩)::B).flatMap (·.2.pages):=(by rw[ae];exact a6 st);have bj:=(st.rest p hp ao).2.1;have bH:grownN (inOf I) A.length g=inOf (A++(e.1,(⟨g.page,n1,L1,P1⟩:Seg))::(g.key,⟨g.other,n2,L2,P2⟩)::B):=(by rw[E];exact qtg (by rw[<- E];exact h0) rfl rfl rfl aC);rw[bH];have bk:∀ {M2:PgM} {Q:List Int},Step D M1 M2 [p] Q->Step D M M2 (p::I.flatMap (·.2.pages)) (Q++(A.flatMap (·.2.pages)++((P1++P2)++B.flatMap (·.2.pages)))):=fun h2=>by rw[ad];exact Step.node (p:=p) af K st h2
  by_cases u:I.length+1<=(capsV k v).2;have hN:=qdk st.wf st.over aF U (by omega) (by omega) fun b u=>(aj b u).1;obtain⟨q,M2,e2,ar,H2,ai⟩:=qjy (fresh:=g.fresh) st.wf st.over R hN (by omega) U aj bj bi (by omega);rw[G,aq,ae] at H2;exact⟨_,M2,e2,aB,by omega,.inl ⟨rfl,_,_,H2,bk ar,by show I.length<=I.length+1;omega⟩⟩;obtain⟨q,o,m,M2,n3,L3,P3,n4,L4,P4,e2,bI,ar,H3,H4,hL,hP,bJ,a0,bl,bm,bK,bL,ai⟩:=qsm (fresh:=g.fresh) hc st.wf st.over R aF (by omega) U aj bj bi (by omega);rw[aq] at hL;rw[ae] at hP;refine⟨_,M2,e2,aB,by omega,.inr ⟨bI,_,_,_,_,_,_,H3,H4,hL,bJ,a0,bl,bm,bK,bL,?_⟩⟩
  have:=bk ar
  rw[<- hP] at this;refine this.perm (.refl _) ?_;show (q::o::(P3++P4)).Perm (q::(P3++o::P4));exact (perm_middle.symm).cons q
end
end
section
def delAt {α:Type} (l:List α) (i:Nat):List α:=l.take i++l.drop (i+1)
def lowN (n:NodeM) (k v:Nat):Prop:=(sizeN n k v).1<(sizeN n k v).2 / 2
def spareN (n:NodeM) (k v:Nat):Prop:=(sizeN n k v).1>(sizeN n k v).2 / 2
def giveN (l r:NodeM) (key:Key):NodeM×NodeM×Key:=
 if l.leaf then
  ({ l with keys:=l.keys.take (l.keys.length-1),vals:=l.vals.take (l.keys.length-1) },
  { r with keys:=l.keys.getD (l.keys.length-1) []::r.keys,vals:=l.vals.getD (l.keys.length-1) []::r.vals },l.keys.getD (l.keys.length-1) [])
 else
  ({ l with keys:=l.keys.take (l.keys.length-1),kids:=l.kids.take (l.keys.length-1+1) },
  { r with keys:=key::r.keys,kids:=l.kids.getD (l.keys.length-1+1) 0::r.kids },l.keys.getD (l.keys.length-1) [])
def takeN (l r:NodeM) (key:Key):NodeM×NodeM×Key:=
 if l.leaf then
  ({ l with keys:=l.keys++[r.keys.getD 0 []],vals:=l.vals++[r.vals.getD 0 []] },{ r with keys:=r.keys.drop 1,vals:=r.vals.drop 1 },(r.keys.drop 1).getD 0 [])
 else
  ({ l with keys:=l.keys++[key],kids:=l.kids++[r.kids.getD 0 0] },{ r with keys:=r.keys.drop 1,kids:=r.kids.drop 1 },r.keys.getD 0 [])
def joinN (l r:NodeM) (key:Key):NodeM:=⟨l.leaf,(if l.leaf then l.keys else l.keys++[key])++r.keys,l.vals++r.vals,l.kids++r.kids⟩
noncomputable def joinM (k v:Nat) (M:PgM) (n:NodeM) (i:Nat) (l r:NodeM):(NodeM×Int)×PgM:=
 if (storeN k v M (n.kids.getD i 0) (joinN l r (n.keys.getD i []))).1.2≠0 then ((zeroN,(storeN k v M (n.kids.getD i 0) (joinN l r (n.keys.getD i []))).1.2),(storeN k v M (n.kids.getD i 0) (joinN l r (n.keys.getD i []))).2)
 else if (dropV (storeN k v M (n.kids.getD i 0) (joinN l r (n.keys.getD i []))).2 (n.kids.getD (i+1) 0)).1≠0 then ((zeroN,(dropV (storeN k v M (n.kids.getD i 0) (joinN l r (n.keys.getD i []))).2 (n.kids.getD (i+1) 0)).1),(dropV (storeN k v M (n.kids.getD i 0) (joinN l r (n.keys.getD i []))).2 (n.kids.getD (i+1) 0)).2)
 else (({ n with kids:=delAt (n.kids.set i (storeN k v M (n.kids.getD i 0) (joinN l r (n.keys.getD i []))).1.1) (i+1),keys:=delAt n.keys i },0),(dropV (storeN k v M (n.kids.getD i 0) (joinN l r (n.keys.getD i []))).2 (n.kids.getD (i+1) 0)).2)
noncomputable def bothM (k v:Nat) (M:PgM) (n:NodeM) (i:Nat) (r:NodeM×NodeM×Key):(NodeM×Int)×PgM:=
 if (storeN k v M (n.kids.getD i 0) r.1).1.2≠0 then ((zeroN,(storeN k v M (n.kids.getD i 0) r.1).1.2),(storeN k v M (n.kids.getD i 0) r.1).2)
 else (({ n with keys:=n.keys.set i r.2.2,kids:=(n.kids.set i (storeN k v M (n.kids.getD i 0) r.1).1.1).set (i+1) (storeN k v (storeN k v M (n.kids.getD i 0) r.1).2 (n.kids.getD (i+1) 0) r.2.1).1.1 },(storeN k v (storeN k v M (n.kids.getD i 0) r.1).2 (n.kids.getD (i+1) 0) r.2.1).1.2),(storeN k v (storeN k v M (n.kids.getD i 0) r.1).2 (n.kids.getD (i+1) 0) r.2.1).2)
noncomputable def evenM (D:DiskM) (k v:Nat) (M:PgM) (n:NodeM) (side c:Nat) (x:NodeM):(NodeM×Int)×PgM:=
 if (loadN D M k v (n.kids.getD side 0)).2≠0 then ((zeroN,(loadN D M k v (n.kids.getD side 0)).2),M)
 else if side<c then
  if ¬spareN (loadN D M k v (n.kids.getD side 0)).1 k v then joinM k v M n side (loadN D M k v (n.kids.getD side 0)).1 x
  else bothM k v M n side (giveN (loadN D M k v (n.kids.getD side 0)).1 x (n.keys.getD side []))
 else
  if ¬spareN (loadN D M k v (n.kids.getD side 0)).1 k v then joinM k v M n c x (loadN D M k v (n.kids.getD side 0)).1
  else bothM k v M n c (takeN x (loadN D M k v (n.kids.getD side 0)).1 (n.keys.getD c []))
noncomputable def cutN (D:DiskM) (k v:Nat) (key:Key):Nat->PgM->Int->(NodeM×Int)×PgM
 | 0,M,_=>((zeroN,-1),M)
 | f+1,M,p=>
  if (loadN D M k v p).2≠0 then ((zeroN,(loadN D M k v p).2),M)
  else if (loadN D M k v p).1.leaf then
   if (loadN D M k v p).1.keys[placeV (loadN D M k v p).1.keys key]?=some key then (({ (loadN D M k v p).1 with keys:=delAt (loadN D M k v p).1.keys (placeV (loadN D M k v p).1.keys key),vals:=delAt (loadN D M k v p).1.vals (placeV (loadN D M k v p).1.keys key) },0),M)
   else ((zeroN,5),M)
  else if (cutN D k v key f M ((loadN D M k v p).1.kids.getD (kidV (loadN D M k v p).1.keys key) 0)).1.2≠0 then
   ((zeroN,(cutN D k v key f M ((loadN D M k v p).1.kids.getD (kidV (loadN D M k v p).1.keys key) 0)).1.2),(cutN D k v key f M ((loadN D M k v p).1.kids.getD (kidV (loadN D M k v p).1.keys key) 0)).2)
  else if ¬lowN (cutN D k v key f M ((loadN D M k v p).1.kids.getD (kidV (loadN D M k v p).1.keys key) 0)).1.1 k v then
   (({ (loadN D M k v p).1 with kids:=(loadN D M k v p).1.kids.set (kidV (loadN D M k v p).1.keys key) (storeN k v (cutN D k v key f M ((loadN D M k v p).1.kids.getD (kidV (loadN D M k v p).1.keys key) 0)).2 ((loadN D M k v p).1.kids.getD (kidV (loadN D M k v p).1.keys key) 0) (cutN D k v key f M ((loadN D M k v p).1.kids.getD (kidV (loadN D M k v p).1.keys key) 0)).1.1).1.1 },
    (storeN k v (cutN D k v key f M ((loadN D M k v p).1.kids.getD (kidV (loadN D M k v p).1.keys key) 0)).2 ((loadN D M k v p).1.kids.getD (kidV (loadN D M k v p).1.keys key) 0) (cutN D k v key f M ((loadN D M k v p).1.kids.getD (kidV (loadN D M k v p).1.keys key) 0)).1.1).1.2),
    (storeN k v (cutN D k v key f M ((loadN D M k v p).1.kids.getD (kidV (loadN D M k v p).1.keys key) 0)).2 ((loadN D M k v p).1.kids.getD (kidV (loadN D M k v p).1.keys key) 0) (cutN D k v key f M ((loadN D M k v p).1.kids.getD (kidV (loadN D M k v p).1.keys key) 0)).1.1).2)
  else if kidV (loadN D M k v p).1.keys key>0 then
   evenM D k v (cutN D k v key f M ((loadN D M k v p).1.kids.getD (kidV (loadN D M k v p).1.keys key) 0)).2 (loadN D M k v p).1 (kidV (loadN D M k v p).1.keys key-1) (kidV (loadN D M k v p).1.keys key) (cutN D k v key f M ((loadN D M k v p).1.kids.getD (kidV (loadN D M k v p).1.keys key) 0)).1.1
  else evenM D k v (cutN D k v key f M ((loadN D M k v p).1.kids.getD (kidV (loadN D M k v p).1.keys key) 0)).2 (loadN D M k v p).1 (kidV (loadN D M k v p).1.keys key+1) (kidV (loadN D M k v p).1.keys key) (cutN D k v key f M ((loadN D M k v p).1.kids.getD (kidV (loadN D M k v p).1.keys key) 0)).1.1
section
variable {D:DiskM} {M M':PgM} {k v:Nat}
def HasN (D:DiskM) (M:PgM) (k v:Nat):Nat->NodeM->Nat->Prs->List Int->Prop
 | 0,N,n,L,R=>N=lfOf L/\n=L.length/\R=[]/\PrsOk k v L/\SortP L/\n<=(capsV k v).1
 | h+1,N,n,L,R=>∃u:List Ent,(u.map (·.1)).head?=some []/\N=inOf u/\n=u.length/\L=u.flatMap (·.2.prs)/\R=u.flatMap (·.2.pages)/\KeysOk k u/\SepE u/\n<=(capsV k v).2/\∀e∈u,Has D M k v h e.2/\minOf k v h<=e.2.size
def oneOf (h:Nat):Nat:=if h=0 then 1 else 2
theorem HasN.size{h:Nat}{N:NodeM}{n:Nat}{L:Prs}{R:List Int}(u:HasN D M k v h N n L R):sizeN N k v=(n,if h=0 then (capsV k v).1 else (capsV k v).2):=by
 cases h with
 | zero=>
  obtain⟨rfl,rfl,_⟩:=u;exact qiE
 | succ h=>
  obtain⟨y,_,rfl,rfl,_⟩:=u;exact qix
theorem HasN.used{h:Nat}{N:NodeM}{n:Nat}{L:Prs}{R:List Int}(z:M.over=false)(y:HasN D M k v h N n L R):∀x∈R,InUse M x:=by
 cases h with
 | zero=>obtain⟨_,_,rfl,_⟩:=y;exact fun x u=>nomatch u
 | succ h=>
  obtain⟨E,_,_,_,_,rfl,_,_,_,A⟩:=y;intro x u;obtain⟨e,C,u⟩:=yJ.1 u;exact (A e C).1.used z x u
theorem HasN.frame{h:Nat}{N:NodeM}{n:Nat}{L:Prs}{R:List Int}(y:HasN D M k v h N n L R)(A:∀x∈R,pagerReadM D M' x=pagerReadM D M x):HasN D M' k v h N n L R:=by
 cases h with
 | zero=>exact y
 | succ h=>
  obtain⟨C,E,G,I,J,rfl,K,Q,U,z⟩:=y;exact⟨C,E,G,I,J,rfl,K,Q,U,fun e u=>⟨(z e u).1.frame fun x V=>A x (yJ.2 ⟨e,u,V⟩),(z e u).2⟩⟩
theorem HasN.ok{h:Nat}{N:NodeM}{n:Nat}{L:Prs}{R:List Int}(z:M.Wf)(A:M.over=false)(u:HasN D M k v h N n L R)(y:oneOf h<=n):NodeOk N k v:=by
 cases h with
 | zero=>
  obtain⟨rfl,rfl,_,C,E,G⟩:=u;exact qgl C E y G
 | succ h=>
  obtain⟨V,h2,rfl,rfl,h4,rfl,I,J,K,Q⟩:=u;exact qdk z A I J y K fun e U=>(Q e U).1
theorem HasN.stored{h:Nat}{N:NodeM}{n:Nat}{L:Prs}{R:List Int}{q:Int}(A:M.Wf)(C:M.over=false)(y:HasN D M k v h N n L R)(E:oneOf h<=n)(z:pagerReadM D M q=(kindN N,bodyN N,0)):Has D M k v h ⟨q,n,L,q::R⟩:=by
 have u:=y.ok A C E;cases h with
 | zero=>
  obtain⟨rfl,rfl,rfl,K,Q,U⟩:=y;exact qeU u z
 | succ h=>
  obtain⟨V,G,rfl,rfl,rfl,rfl,h6,I,h8,J⟩:=y;exact qcF G u z I J
theorem Has.load{h:Nat}{s:Seg}(I:Has D M k v h s):∃N R,loadN D M k v s.page=(N,0)/\HasN D M k v h N s.size s.prs R/\s.pages=s.page::R/\N.leaf=decide (h=0)/\oneOf h<=s.size:=by
 cases h with
 | zero=>
  obtain⟨A,C,y,E⟩:=I;have u:=y.right.2.2.2;rw[if_pos (show (lfOf s.prs).leaf=true from rfl)] at u;have e:(lfOf s.prs).keys.length=s.prs.length:=zK _;rw[e] at u;exact⟨lfOf s.prs,[],y.load E,⟨rfl,C,rfl,fun x G=>⟨y.right.1 x.1 (zY G),y.right.2.1 x.2 (zY G),y.keys x.1 (zY G),y.vals x.2 (zY G)⟩,y.right.2.2.1,by rw[C];exact u.2.2.1⟩,A,rfl,by rw[C];exact u.2.1⟩
 | succ h=>
  obtain⟨J,K,A,C,y,E,Q,U,V⟩:=I;have z:=E.right.innerTwo;exact⟨inOf J,_,E.load Q,⟨J,K,rfl,A,C,rfl,KeysOk.of E,U,by rw[A];exact z.2,V⟩,y,rfl,by rw[A];exact z.1⟩
theorem HasN.store{h:Nat}{N:NodeM}{n:Nat}{L:Prs}{R:List Int}{p:Int}(A:M.Wf)(u:M.over=false)(y:HasN D M k v h N n L R)(C:oneOf h<=n)(I:InUse M p)(z:p∉R)(E:1<=M.free.length): ∃q M',storeN k v M p N=((q,0),M')/\Step D M M' [p] [q]/\Has D M' k v h ⟨q,n,L,q::R⟩/\M.free.length<=M'.free.length+1:=by obtain⟨q,M',e,st,J,K,_⟩:=qgL (D:=D) A u (y.ok A u C) I (fun e=>by rw[e] at E;exact absurd E (by decide));exact⟨q,M',e,st,(y.frame fun x G=>(st.rest x (y.used u x G) (fun Q=>z (by rw[<- zE.1 Q];exact G))).1).stored st.wf st.over C J,K⟩
theorem quk{h u:Prs}{z:Key×Key}{key:Key}:giveN (lfOf (h++[z])) (lfOf u) key=(lfOf h,lfOf (z::u),z.1):=by unfold giveN;rw[if_pos (show (lfOf _).leaf=true from rfl)];unfold lfOf;simp
theorem qug{h u:Prs}{z y:Key×Key}{key:Key}:takeN (lfOf h) (lfOf (z::y::u)) key=(lfOf (h++[z]),lfOf (y::u),y.1):=by unfold takeN;rw[if_pos (show (lfOf _).leaf=true from rfl)];unfold lfOf;simp
theorem quz{h u:Prs}{key:Key}:joinN (lfOf h) (lfOf u) key=lfOf (h++u):=by unfold joinN;unfold lfOf;simp
theorem qt0{a z b:Ent}{h u:List Ent}{key:Key}:giveN (inOf (a::h++[z])) (inOf (b::u)) key=(inOf (a::h),inOf (([],z.2)::(key,b.2)::u),z.1):=by unfold giveN;rw[if_neg (show ¬(inOf _).leaf=true from fun e=>nomatch e)];unfold inOf;simp
theorem quq{h u:List Ent}{a z y:Ent}{key:Key}:takeN (inOf (a::h)) (inOf (z::y::u)) key=(inOf (a::h++[(key,z.2)]),inOf (([],y.2)::u),y.1):=by unfold takeN;rw[if_neg (show ¬(inOf _).leaf=true from fun e=>nomatch e)];unfold inOf;simp
theorem qt6{h u:List Ent}{a b:Ent}{key:Key}:joinN (inOf (a::h)) (inOf (b::u)) key=inOf (a::h++(key,b.2)::u):=by unfold joinN;unfold inOf;simp
theorem SepE.app{a b:List Ent}(u:SepE a)(A:SepE b)(h:∀x∈a,∀y∈b,KLt x.1 y.1/\∀z∈x.2.prs,KLt z.1 y.1):SepE (a++b):=
 ⟨pairwise_append.2 ⟨u.pair,A.pair,fun x C y E=>h x C y E⟩,fun e G=>(zD.1 G).elim (u.low e) (A.low e)⟩
theorem SepE.sub{a b:List Ent}(h:SepE b)(u:a.Sublist b):SepE a:=⟨h.pair.sublist u,fun e y=>h.low e (u.subset y)⟩
theorem qlz{e:Ent}(h:∀x∈e.2.prs,KLe e.1 x.1):SepE [e]:=⟨pairwise_singleton _ _,fun a u=>by rw[zE.1 u];exact h⟩
theorem qpJ{a b:Key}(h:KLt a b):KLt [] b:=by
 cases b with
 | nil=>exact absurd h qjp
 | cons y l=>show cmpL [] (y::l)<0;simp[cmpL]
theorem SepE.head{x:Ent}{r:List Ent}{m:Key}(h:SepE (x::r))(A:∀b∈r,KLt m b.1)(C:∀y∈x.2.prs,KLe m y.1):SepE ((m,x.2)::r):=by have z:=yI.1 h.pair;exact⟨yI.2 ⟨fun b u=>⟨A b u,(z.1 b u).2⟩,z.2⟩,fun b u=>(zG.1 u).elim (fun e=>by rw[e];exact C) fun u=>h.low b (zN _ u)⟩
theorem qlR{h:Nat}{x:Ent}{r:List Ent}{m:Key}(z:SepE (x::r))(A:Has D M k v h x.2)(C:∀y∈x.2.prs,KLe m y.1):∀b∈r,KLt m b.1:=fun b E=>by obtain⟨y,u⟩:=exists_mem_of_ne_nil _ A.ne;exact qh6 (C y u) (((yI.1 z.pair).1 b E).2 y u)
structure TwoOk (D:DiskM) (M:PgM) (k v:Nat) (h:Nat) (r:NodeM×NodeM×Key) (L:Prs) (P:List Int):Prop where
 res:∃ n1 L1 R1 n2 L2 R2,HasN D M k v h r.1 n1 L1 R1/\HasN D M k v h r.2.1 n2 L2 R2/\L1++L2=L/\R1++R2=P/\(∀ x∈L1,KLt x.1 r.2.2)/\(∀ y∈L2,KLe r.2.2 y.1)/\r.2.2.length=k/\IsB r.2.2/\minOf k v h<=n1/\minOf k v h<=n2/\L1≠[]/\L2≠[]
theorem CapsOk.min(u:CapsOk k v)(h:Nat):oneOf h<=minOf k v h/\1<=minOf k v h:=by have y:=u.leaf;have z:=u.inner;unfold oneOf minOf;split<;>omega
theorem qux{h:Nat}{es:List Ent}(y:∀e∈es,Has D M k v h e.2/\minOf k v h<=e.2.size)(u:es≠[]):es.flatMap (·.2.prs)≠[]:=by
 cases es with
 | nil=>exact absurd rfl u
 | cons a r=>intro e;rw[yG] at e;exact (y a (by simp)).1.ne (append_eq_nil_iff.1 e).1
theorem quf(E:CapsOk k v){h:Nat}{Nl Nr:NodeM}{n1 n2:Nat}{U L2:Prs}{R1 R2:List Int}{key:Key}(hl:HasN D M k v h Nl n1 U R1)(hr:HasN D M k v h Nr n2 L2 R2)(V:minOf k v h<n1)(h2:n2+1=minOf k v h)(h3:∀x∈U,KLt x.1 key)(h4:∀y∈L2,KLe key y.1)(hk:key.length=k/\IsB key): TwoOk D M k v h (giveN Nl Nr key) (U++L2) (R1++R2):=by
 have ar:=E.min h;cases h with
 | zero=>
  obtain⟨rfl,rfl,rfl,ai,J,K⟩:=hl;obtain⟨rfl,rfl,rfl,au,Q,aj⟩:=hr;have ak:U≠[]:=fun e=>by rw[e] at V;simp at V
  obtain⟨L,z,rfl⟩:∃L z,U=L++[z]:=⟨U.dropLast,U.getLast ak,(dropLast_concat_getLast ak).symm⟩;rw[quk];have hz:=ai z (by simp);have al:=SortP.app.1 J;rw[zF] at V K;have av:SortP (z::L2):=by refine yI.2 ⟨fun a ha=>?_,Q⟩;obtain⟨y,C,rfl⟩:=mem_map.1 ha;exact qbi (h3 z (by simp)) (h4 y C)
  have aw:minOf k v 0=(capsV k v).1 / 2:=rfl;refine⟨L.length,L,[],L2.length+1,z::L2,[],⟨rfl,rfl,rfl,ai.sub fun x I=>zH _ I,al.1,?_⟩,⟨rfl,rfl,rfl,fun x I=>(zG.1 I).elim (fun e=>by rw[e];exact hz) (au x),av,by omega⟩,by simp,rfl,fun x I=>al.2.2 x I z (by simp),fun y C=>?_,hz.1,hz.2.2.1,?_,by omega,?_,by simp⟩;simp at K;omega;rcases zG.1 C with rfl|C;exact qaz;exact qaQ (qbi (h3 z (by simp)) (h4 y C));simp at V;omega;intro e;rw[e] at V;simp at V;omega
 | succ h=>
  obtain⟨ab,ax,rfl,rfl,rfl,rfl,am,J,K,ac⟩:=hl;obtain⟨u,ay,rfl,rfl,rfl,rfl,az,Q,aj,ad⟩:=hr;obtain⟨a,G,z,rfl⟩:∃a G z,ab=a::G++[z]:=by
   have:2<=ab.length:=(by have:=ar.1;unfold oneOf at this;rw[if_neg (by omega)] at this;omega);match ab,this with
   | a::b::r,_=>exact⟨a,(b::r).dropLast,(b::r).getLast (by simp),by rw[xH,dropLast_concat_getLast]⟩
  obtain⟨b,u,rfl⟩:∃b G,u=b::G:=by
   cases u with
   | nil=>cases ay
   | cons b r=>exact⟨b,r,rfl⟩
  rw[qt0];have hz:=ac z (by simp);have an:=am z (show z∈G++[z] by simp);have ao:=SepE.mid (A:=a::G) (e:=z) (B:=[]) J;have R:KLt z.1 key:=by obtain⟨x,I⟩:=exists_mem_of_ne_nil _ hz.1.ne;exact qh6 (J.low z (by simp) x I) (h3 x (yJ.2 ⟨z,by simp,I⟩))
  have ap:∀y∈b.2.prs,KLe key y.1:=fun y C=>h4 y (by rw[yG];exact zH _ C);have ae:∀c∈u,KLt key c.1:=qlR Q (ad b (by simp)).1 ap;have af:SepE (([],z.2)::(key,b.2)::u):=by refine SepE.app (a:=[([],z.2)]) (qlz fun x _=>qga _) (Q.head ae ap) fun x I y C=>?_;rw[zE.1 I];rcases zG.1 C with rfl|C;exact⟨qpJ R,fun w hw=>h3 w (yJ.2 ⟨z,by simp,hw⟩)⟩;exact⟨qpJ (ae y C),fun w hw=>qay (h3 w (yJ.2 ⟨z,by simp,hw⟩)) (ae y C)⟩
  have aw:minOf k v (h+1)=(capsV k v).2 / 2:=rfl;simp only[zF,yH,length_nil] at V h2 K aj;have aB:(a::G++[z]).flatMap (·.2.prs)=(a::G).flatMap (·.2.prs)++z.2.prs:=(by simp[yP]);have aC:(a::G++[z]).flatMap (·.2.pages)=(a::G).flatMap (·.2.pages)++z.2.pages:=(by simp[yP]);refine⟨G.length+1,(a::G).flatMap (·.2.prs),(a::G).flatMap (·.2.pages),u.length+2,z.2.prs++(b.2.prs++u.flatMap (·.2.prs)),z.2.pages++(b.2.pages++u.flatMap (·.2.pages)),⟨a::G,ax,rfl,rfl,rfl,rfl,fun c E=>am c (show c∈G++[z] from zH _ E),J.sub (sublist_append_left _ _),by omega,fun c E=>ac c (zH _ E)⟩,⟨([],z.2)::(key,b.2)::u,rfl,rfl,rfl,rfl,rfl,fun c E=>(zG.1 E).elim (fun e=>by rw[e];exact hk) (az c),af,by omega,fun c E=>?_⟩,?_,?_,fun x I=>?_,fun y C=>?_,an.1,an.2,by omega,by omega,?_,?_⟩;rcases zG.1 E with rfl|E;exact hz;rcases zG.1 E with rfl|E;exact ad b (by simp);exact ad c (by simp[E]);rw[aB];simp only[yG,zV];rw[aC];simp only[yG,zV];obtain⟨c,E,I⟩:=yJ.1 I;exact ao.1 c E x I;rcases zD.1 C with C|C;exact J.low z (by simp) y C;exact qcx (qaQ R) (h4 y (by rw[yG];exact C));exact qux (fun c E=>ac c (zH _ E)) (by simp);intro e;exact hz.1.ne (append_eq_nil_iff.1 e).1
theorem qsB{h:Nat}{es:List Ent}{key:Key}(z:SepE es)(A:∀e∈es,Has D M k v h e.2/\minOf k v h<=e.2.size)(C:∀x∈es.flatMap (·.2.prs),KLt x.1 key):∀e∈es,KLt e.1 key:=fun e u=>by obtain⟨x,y⟩:=exists_mem_of_ne_nil _ (A e u).1.ne;exact qh6 (z.low e u x y) (C x (yJ.2 ⟨e,u,y⟩))
theorem quC(hc:CapsOk k v){h:Nat}{Nl Nr:NodeM}{n1 n2:Nat}{L1 L2:Prs}{R1 R2:List Int}{key:Key}(hl:HasN D M k v h Nl n1 L1 R1)(hr:HasN D M k v h Nr n2 L2 R2)(h1:n1+1=minOf k v h)(h2:minOf k v h<n2)(h3:∀x∈L1,KLt x.1 key)(h4:∀y∈L2,KLe key y.1)(hk:key.length=k/\IsB key): TwoOk D M k v h (takeN Nl Nr key) (L1++L2) (R1++R2):=by
 have hmn:=hc.min h;cases h with
 | zero=>
  obtain⟨rfl,rfl,rfl,hL1,hs1,hb1⟩:=hl;obtain⟨rfl,rfl,rfl,hL2,hs2,hb2⟩:=hr;obtain⟨z,y,L,rfl⟩:∃z y L,L2=z::y::L:=by
   match L2,h2 with
   | [],h=>simp at h
   | [_],h=>simp at h;omega
   | z::y::L,_=>exact⟨z,y,L,rfl⟩
  rw[qug];have hz:=hL2 z (by simp);have hy:=hL2 y (by simp);have hcs:=yI.1 (show (z.1::keysP (y::L)).Pairwise KLt from hs2);simp only[yH] at h2 hb2;have hml:minOf k v 0=(capsV k v).1 / 2:=rfl;have hzy:KLt z.1 y.1:=hcs.1 y.1 (by simp);refine⟨L1.length+1,L1++[z],[],L.length+1,y::L,[],⟨rfl,by simp,rfl,fun x hx=>(zD.1 hx).elim (hL1 x) fun hx=>by rw[zE.1 hx];exact hz,?_,by omega⟩,⟨rfl,by simp,rfl,fun x hx=>hL2 x (zN _ hx),hcs.2,by omega⟩,by simp,rfl,fun x hx=>?_,fun w hw=>?_,hy.1,hy.2.2.1,by omega,by omega,by simp,by simp⟩;exact SortP.app.2 ⟨hs1,pairwise_singleton _ _,fun x hx w hw=>by rw[zE.1 hw];exact qbi (h3 x hx) (h4 z (by simp))⟩;rcases zD.1 hx with hx|hx;exact qay (qbi (h3 x hx) (h4 z (by simp))) hzy;rw[zE.1 hx];exact hzy;rcases zG.1 hw with rfl|hw;exact qaz;exact qaQ ((yI.1 (show (y.1::keysP L).Pairwise KLt from hcs.2)).1 w.1 (zY hw))
 | succ h=>
  obtain⟨es1,hh1,rfl,rfl,rfl,rfl,hk1,hs1,hb1,hp1⟩:=hl;obtain⟨es2,hh2,rfl,rfl,rfl,rfl,hk2,hs2,hb2,hp2⟩:=hr;obtain⟨a,es,rfl⟩:∃a es,es1=a::es:=by
   cases es1 with
   | nil=>cases hh1
   | cons b r=>exact⟨b,r,rfl⟩
  obtain⟨z,y,es2,rfl⟩:∃z y es,es2=z::y::es:=by
   have h9:=hmn.2;match es2,h2 with
   | [],h=>simp at h
   | [_],h=>simp at h;omega
   | z::y::L,_=>exact⟨z,y,L,rfl⟩
  rw[quq];have hz:=hp2 z (by simp);have hyk:=hk2 y (show y∈y::es2 by simp);have hz4:∀w∈z.2.prs,KLe key w.1:=fun w hw=>h4 w (by rw[yG];exact zH _ hw);have hky:KLt key y.1:=qlR hs2 hz.1 hz4 y (by simp);have hcs:=yI.1 hs2.pair;have hcy:=yI.1 hcs.2;have hsl:SepE (a::es++[(key,z.2)]):=SepE.app hs1 (qlz hz4) fun x hx w hw=>by rw[zE.1 hw];exact⟨qsB hs1 hp1 h3 x hx,fun q hq=>h3 q (yJ.2 ⟨x,hx,hq⟩)⟩
  have hsr:SepE (([],y.2)::es2):=SepE.relow (es:=y::es2) (hs2.sub (sublist_cons_self _ _));have hml:minOf k v (h+1)=(capsV k v).2 / 2:=rfl;simp only[yH] at h1 h2 hb1 hb2;refine⟨es.length+2,(a::es).flatMap (·.2.prs)++z.2.prs,(a::es).flatMap (·.2.pages)++z.2.pages,es2.length+1,y.2.prs++es2.flatMap (·.2.prs),y.2.pages++es2.flatMap (·.2.pages),⟨a::es++[(key,z.2)],hh1,rfl,by simp,by simp[yP],by simp[yP],fun c hc=>?_,hsl,by omega,fun c hc=>?_⟩,⟨([],y.2)::es2,rfl,rfl,rfl,rfl,rfl,fun c hc=>hk2 c (show c∈y::es2 from zN _ hc),hsr,by omega,fun c hc=>?_⟩,?_,?_,fun x hx=>?_,fun w hw=>?_,hyk.1,hyk.2,by omega,by omega,?_,?_⟩;rcases zD.1 (show c∈es++[(key,z.2)] from hc) with hc|hc;exact hk1 c hc;rw[zE.1 hc];exact hk;rcases zD.1 hc with hc|hc;exact hp1 c hc;rw[zE.1 hc];exact hz;rcases zG.1 hc with rfl|hc;exact hp2 y (by simp);exact hp2 c (by simp[hc]);simp only[yG,zV];simp only[yG,zV];rcases zD.1 hx with hx|hx;exact qay (h3 x hx) hky;exact (hcs.1 y (by simp)).2 x hx;rcases zD.1 hw with hw|hw;exact hs2.low y (by simp) w hw;obtain⟨c,hc,hw⟩:=yJ.1 hw;exact qcx (qaQ (hcy.1 c hc).1) (hs2.low c (by simp[hc]) w hw);intro e;exact hz.1.ne (append_eq_nil_iff.1 e).2;intro e;exact (hp2 y (by simp)).1.ne (append_eq_nil_iff.1 e).1
theorem quc{h:Nat}{Nl Nr:NodeM}{n1 n2:Nat}{L1 L2:Prs}{R1 R2:List Int}{key:Key}(hl:HasN D M k v h Nl n1 L1 R1)(hr:HasN D M k v h Nr n2 L2 R2)(h1:n1+n2<=(if h=0 then (capsV k v).1 else (capsV k v).2))(h3:∀x∈L1,KLt x.1 key)(h4:∀y∈L2,KLe key y.1)(hk:key.length=k/\IsB key): HasN D M k v h (joinN Nl Nr key) (n1+n2) (L1++L2) (R1++R2):=by
 cases h with
 | zero=>
  obtain⟨rfl,rfl,rfl,af,A,ag⟩:=hl;obtain⟨rfl,rfl,rfl,ah,C,ai⟩:=hr;rw[quz];exact⟨rfl,by simp,rfl,fun x J=>(zD.1 J).elim (af x) (ah x),SortP.app.2 ⟨A,C,fun x J y E=>qbi (h3 x J) (h4 y E)⟩,h1⟩
 | succ h=>
  obtain⟨Q,R,rfl,rfl,rfl,rfl,aj,A,ag,U⟩:=hl;obtain⟨z,ak,rfl,rfl,rfl,rfl,al,C,ai,G⟩:=hr;obtain⟨a,K,rfl⟩:∃a K,Q=a::K:=by
   cases Q with
   | nil=>cases R
   | cons b r=>exact⟨b,r,rfl⟩
  obtain⟨b,z,rfl⟩:∃b K,z=b::K:=by
   cases z with
   | nil=>cases ak
   | cons b r=>exact⟨b,r,rfl⟩
  rw[qt6];have V:∀y∈b.2.prs,KLe key y.1:=fun y E=>h4 y (by rw[yG];exact zH _ E);have I:=qlR C (G b (by simp)).1 V;refine⟨a::K++(key,b.2)::z,R,rfl,by simp;omega,by simp[yP],by simp[yP],fun c u=>?_,SepE.app A (C.head I V) fun x J y E=>?_,by simpa using h1,fun c u=>?_⟩;rcases zD.1 (show c∈K++(key,b.2)::z from u) with u|u;exact aj c u;rcases zG.1 u with rfl|u;exact hk;exact al c u;have aa:=qsB A U h3 x J;have ab:∀w∈x.2.prs,KLt w.1 key:=fun w hw=>h3 w (yJ.2 ⟨x,J,hw⟩);rcases zG.1 E with rfl|E;exact⟨aa,ab⟩;exact⟨qay aa (I y E),fun w hw=>qay (ab w hw) (I y E)⟩;rcases zD.1 u with u|u;exact U c u;rcases zG.1 u with rfl|u;exact G b (by simp);exact G c (by simp[u])
end
end
section
section
variable {D:DiskM} {M M':PgM} {k v:Nat}
theorem Step.part{M1:PgM}{a x b y:List Int}(A:∀z∈a++(x++b),InUse M z)(C:(a++(x++b)).Nodup)(h:Step D M M1 x y):Step D M M1 (a++(x++b)) (a++(y++b)):=by have u:(a++(x++b)).Perm ((a++b)++x):=qgJ (z:=a);exact ((h.beside (Z:=a++b) (fun z E=>A z (u.mem_iff.2 (zH _ E))) (u.nodup_iff.1 C)).perm u.symm (qgJ (z:=a)).symm)
theorem Step.kid{M1 u:PgM}{p:Int}{R h Q:List Int}(A:∀z∈p::R,InUse M z)(C:(p::R).Nodup)(E:Step D M M1 R h)(G:Step D M1 u [p] Q):Step D M u (p::R) (Q++h):=by
 have:=Step.node (D:=D) (p:=p) (a:=[]) (b:=[]) (x:=R) (y:=h) (Q:=Q) (by simpa using A) (by simpa using C) E G
 simpa using this
theorem qik{A B:List Ent}{e1 h:Ent}:((A++e1::h::B).map (·.1)).tail.getD A.length []=h.1:=by
 cases A with
 | nil=>rfl
 | cons a A=>simp
theorem qep{A B:List Ent}{e1 h:Ent}:((A++e1::h::B).map (·.2.page)).getD A.length 0=e1.2.page/\((A++e1::h::B).map (·.2.page)).getD (A.length+1) 0=h.2.page:=by constructor;simp;simp
theorem qtS{A B:List Ent}{e1 h:Ent}{s1 s2:Seg}{m:Key}:(⟨false,((A++e1::h::B).map (·.1)).tail.set A.length m,[],(((A++e1::h::B).map (·.2.page)).set A.length s1.page).set (A.length+1) s2.page⟩:NodeM)=inOf (A++(e1.1,s1)::(m,s2)::B):=by
 unfold inOf;congr 1;cases A with
 | nil=>rfl
 | cons a A=>simp[set_append_right]
 simp[set_append_right]
theorem qt1{A B:List Ent}{e1 y:Ent}{s:Seg}:(⟨false,delAt ((A++e1::y::B).map (·.1)).tail A.length,[],delAt (((A++e1::y::B).map (·.2.page)).set A.length s.page) (A.length+1)⟩:NodeM)=inOf (A++(e1.1,s)::B):=by
 have C:(A.map (·.2.page)).length=A.length:=zK _;unfold inOf delAt;congr 1;cases A with
 | nil=>rfl
 | cons a A=>
  have u:((a::A++e1::y::B).map (·.1)).tail=(A.map (·.1)++[e1.1])++(y.1::B.map (·.1)):=(by simp);have z:((a::A++(e1.1,s)::B).map (·.1)).tail=(A.map (·.1)++[e1.1])++B.map (·.1):=(by simp);have h:(A.map (·.1)++[e1.1]).length=(a::A).length:=(by simp);rw[u,z,take_left' h,<- h,drop_length_add_append];rfl
 have u:((A++e1::y::B).map (·.2.page)).set A.length s.page=(A.map (·.2.page)++[s.page])++(y.2.page::B.map (·.2.page)):=(by rw[xJ,set_append_right _ _ (by omega),C,Nat.sub_self];simp);have h:(A.map (·.2.page)++[s.page]).length=A.length+1:=(by simp);rw[u,take_left' h,<- h,drop_length_add_append];simp
theorem qum{A B:List Ent}{e:Ent}{s:Seg}:(⟨false,((A++e::B).map (·.1)).tail,[],((A++e::B).map (·.2.page)).set A.length s.page⟩:NodeM)=inOf (A++(e.1,s)::B):=by
 have h:(A.map (·.2.page)).length=A.length:=zK _;unfold inOf;congr 1;cases A with
 | nil=>rfl
 | cons a A=>simp
 rw[xJ,set_append_right _ _ (by omega),h,Nat.sub_self];simp
structure Nbrs (D:DiskM) (M:PgM) (k v:Nat) (h:Nat) (A B:List Ent) (e1 e2:Ent) (Nl Nr:NodeM) (n1 n2:Nat) (L1 L2:Prs) (R1 R2:List Int):Prop where
 wf:M.Wf
 over:M.over=false
 head:((A++e1::e2::B).map (·.1)).head?=some []
 keys:KeysOk k (A++e1::e2::B)
 sep:SepE (A++(e1.1,⟨0,0,L1,[]⟩)::(e2.1,⟨0,0,L2,[]⟩)::B)
 len:A.length+B.length+2<=(capsV k v).2
 rest:∀ b,b∈A\/b∈B->Has D M k v h b.2/\minOf k v h<=b.2.size
 left:HasN D M k v h Nl n1 L1 R1
 right:HasN D M k v h Nr n2 L2 R2
 use:∀ x∈A.flatMap (·.2.pages)++(((e1.2.page::R1)++(e2.2.page::R2))++B.flatMap (·.2.pages)),InUse M x
 nodup:(A.flatMap (·.2.pages)++(((e1.2.page::R1)++(e2.2.page::R2))++B.flatMap (·.2.pages))).Nodup
theorem Nbrs.mids{h:Nat}{A B:List Ent}{e1 u:Ent}{E G:NodeM}{n1 n2:Nat}{C z:Prs}{I J:List Int}(H:Nbrs D M k v h A B e1 u E G n1 n2 C z I J):(∀x∈C,KLt x.1 u.1)/\(∀y∈z,KLe u.1 y.1)/\u.1.length=k/\IsB u.1:=by have K:=pairwise_append.1 H.sep.pair;have Q:=yI.1 K.2.1;have R:=H.keys u (by cases A<;>simp);exact⟨(Q.1 (u.1,⟨0,0,z,[]⟩) (by simp)).2,H.sep.low (u.1,⟨0,0,z,[]⟩) (by simp),R⟩
theorem qpx(hc:CapsOk k v){h:Nat}{A B:List Ent}{e1 C:Ent}{Nl Nr:NodeM}{n1 n2:Nat}{L1 L2:Prs}{R1 R2:List Int}(H:Nbrs D M k v h A B e1 C Nl Nr n1 n2 L1 L2 R1 R2){r:NodeM×NodeM×Key}(hr:TwoOk D M k v h r (L1++L2) (R1++R2))(hf:2<=M.free.length): ∃N M' R,bothM k v M (inOf (A++e1::C::B)) A.length r=((N,0),M')/\HasN D M' k v (h+1) N (A.length+B.length+2) (A.flatMap (·.2.prs)++((L1++L2)++B.flatMap (·.2.prs))) R/\ Step D M M' (A.flatMap (·.2.pages)++(((e1.2.page::R1)++(C.2.page::R2))++B.flatMap (·.2.pages))) R/\M.free.length<=M'.free.length+2:=by
 obtain⟨m1,K1,G,m2,K2,I,aK,aL,eL,eR,aM,aN,aO,aP,aQ,aR,ay,az⟩:=hr.res;have bd:=hc.min h;have aa:=H.use;have ap:=H.nodup;have pm:(((e1.2.page::R1)++(C.2.page::R2))).Perm (e1.2.page::C.2.page::(R1++R2)):=by rw[xH];exact (perm_middle).cons _
 rw[<- eR] at pm;have Q:∀x,x∈e1.2.page::C.2.page::(G++I)->x∈A.flatMap (·.2.pages)++(((e1.2.page::R1)++(C.2.page::R2))++B.flatMap (·.2.pages)):=fun x y=>zI _ (zH _ (pm.mem_iff.2 y));have ag:(e1.2.page::C.2.page::(G++I)).Nodup:=pm.nodup_iff.1 (yL.1 (yL.1 ap).2.1).1;have U:=nodup_cons.1 ag;have ah:=nodup_cons.1 U.2;have aS:=aa _ (Q e1.2.page (by simp));have aB:=aa _ (Q C.2.page (by simp));obtain⟨E,M1,s1,ab,H1,bg⟩:=aK.store H.wf H.over (by omega) aS (fun hm=>U.1 (zN _ (zH _ hm))) (by omega);have J:∀x,InUse M x->x≠e1.2.page->pagerReadM D M1 x=pagerReadM D M x/\InUse M1 x/\x≠E:=fun x y aq=>by
  have:=ab.rest x y (by simpa using aq)
  exact⟨this.1,this.2.1,by simpa using this.2.2⟩
 have ac:C.2.page≠e1.2.page:=fun e=>U.1 (by rw[e];simp);have aU:HasN D M1 k v h r.2.1 m2 K2 I:=aL.frame fun x y=>(J x (aa x (Q x (by simp[y]))) (fun e=>U.1 (by rw[<- e];simp[y]))).1;obtain⟨K,M2,s2,aC,H2,bj⟩:=aU.store ab.wf ab.over (by omega) (J _ aB ac).2.1 (fun hm=>ah.1 (zI _ hm)) (by omega);have ad:∀x,InUse M1 x->x≠C.2.page->pagerReadM D M2 x=pagerReadM D M1 x/\InUse M2 x/\x≠K:=fun x y aq=>by
  have:=aC.rest x y (by simpa using aq)
  exact⟨this.1,this.2.1,by simpa using this.2.2⟩
 have ai:∀x∈E::G,InUse M1 x/\x≠C.2.page:=fun x y=>by refine⟨H1.used ab.over x y,fun e=>?_⟩;rcases zG.1 y with e'|y;rcases ab.new E (by simp) with V|V;exact ac (by rw[<- e,e',zE.1 V]);exact V (by rw[<- e',e];exact aB);exact ah.1 (zH _ (e▸y))
 have aV:Has D M2 k v h ⟨E,m1,K1,E::G⟩:=H1.frame fun x y=>(ad x (ai x y).1 (ai x y).2).1;have aW:∀b,b∈A\/b∈B->∀x∈b.2.pages,InUse M x/\x≠e1.2.page/\x≠C.2.page:=fun b u x y=>by
  have hd:=yL.1 ap;have aX:=yL.1 hd.2.1;have aD:∀z,z=e1.2.page\/z=C.2.page->z∈(e1.2.page::R1)++(C.2.page::R2):=fun z hz=>pm.mem_iff.2 (by rcases hz with rfl|rfl<;>simp);have key:∀z,z=e1.2.page\/z=C.2.page->x≠z:=fun z hz e=>by rcases u with u|u;exact hd.2.2 x (yJ.2 ⟨b,u,y⟩) z (zH _ (aD z hz)) e;exact aX.2.2 z (aD z hz) x (yJ.2 ⟨b,u,y⟩) e.symm
  refine⟨aa x ?_,key _ (.inl rfl),key _ (.inr rfl)⟩;rcases u with u|u;exact zH _ (yJ.2 ⟨b,u,y⟩);exact zI _ (zI _ (yJ.2 ⟨b,u,y⟩))
 have ae:∀b,b∈A\/b∈B->Has D M2 k v h b.2/\minOf k v h<=b.2.size:=fun b u=>⟨(H.rest b u).1.frame fun x y=>by have V:=aW b u x y;have h8:=J x V.1 V.2.1;exact ((ad x h8.2.1 V.2.2).1).trans h8.1,(H.rest b u).2⟩;have hL:K1++K2=L1++L2:=eL;have aE:SepE (A++(e1.1,(⟨E,m1,K1,E::G⟩:Seg))::(r.2.2,⟨K,m2,K2,K::I⟩)::B):=by
  have hS:=H.sep;have hp:=pairwise_append.1 hS.pair;have af:=yI.1 hp.2.1;have aG:=yI.1 af.2;have hj:SepE (A++(e1.1,(⟨0,0,L1++L2,[]⟩:Seg))::B):=by refine⟨pairwise_append.2 ⟨hp.1,yI.2 ⟨fun b u=>⟨(af.1 b (by simp[u])).1,fun x y=>?_⟩,aG.2⟩,fun a ha b u=>?_⟩,fun b u x y=>?_⟩;rcases zD.1 y with y|y;exact (af.1 b (by simp[u])).2 x y;exact (aG.1 b u).2 x y;rcases zG.1 u with rfl|u;exact hp.2.2 a ha (e1.1,⟨0,0,L1,[]⟩) (by simp);exact hp.2.2 a ha b (by simp[u]);rcases zD.1 u with u|u;exact hS.low b (by simp[u]) x y;rcases zG.1 u with rfl|u;rcases zD.1 y with y|y;exact hS.low (e1.1,⟨0,0,L1,[]⟩) (by simp) x y;have V:=hS.low (C.1,⟨0,0,L2,[]⟩) (by simp) x y;exact qcx (qaQ (af.1 (C.1,⟨0,0,L2,[]⟩) (by simp)).1) V;exact hS.low b (by simp[u]) x y
  exact hj.cut2 hL.symm aM aN ay az
 have ar:KeysOk k (A++(e1.1,(⟨E,m1,K1,E::G⟩:Seg))::(r.2.2,⟨K,m2,K2,K::I⟩)::B):=by
  have V:KeysOk k (A++e1::B):=fun b u=>H.keys b (by
   cases A with
   | nil=>exact zN _ u
   | cons a A=>
    rcases zD.1 (show b∈A++e1::B from u) with u|u;exact zH (e1::C::B) u;exact zI A ((zG.1 u).elim (fun e=>by rw[e];simp) fun u=>by simp[u]))
  exact qoq V ⟨aO,aP⟩
 have au:((A++(e1.1,(⟨E,m1,K1,E::G⟩:Seg))::(r.2.2,⟨K,m2,K2,K::I⟩)::B).map (·.1)).head?=some []:=by
  have V:=H.head;cases A with
  | nil=>exact V
  | cons a A=>exact V
 refine⟨inOf (A++(e1.1,(⟨E,m1,K1,E::G⟩:Seg))::(r.2.2,⟨K,m2,K2,K::I⟩)::B),M2,_,?_,⟨_,au,rfl,by simp;omega,?_,rfl,ar,aE,H.len,fun b u=>?_⟩,?_,by omega⟩;have aY:(inOf (A++e1::C::B)).kids.getD A.length 0=e1.2.page:=qep.1;have aZ:(inOf (A++e1::C::B)).kids.getD (A.length+1) 0=C.2.page:=qep.2;unfold bothM;rw[aY,aZ,s1];dsimp only;rw[if_neg (fun h=>h rfl),s2];exact congrArg (fun N=>((N,(0:Int)),M2)) (qtS (s1:=⟨E,m1,K1,E::G⟩) (s2:=⟨K,m2,K2,K::I⟩));rw[qaD,yG,<- hL,zV];rcases zD.1 u with u|u;exact ae b (.inl u);rcases zG.1 u with rfl|u;exact⟨aV,aQ⟩;rcases zG.1 u with rfl|u;exact⟨H2,aR⟩;exact ae b (.inr u);have t1:Step D M M1 (e1.2.page::C.2.page::(G++I)) ([E]++C.2.page::(G++I)):=by
  have:=ab.beside (Z:=C.2.page::(G++I)) (fun x y=>aa x (Q x (zN _ y))) (by have p9:(e1.2.page::C.2.page::(G++I)).Perm ((C.2.page::(G++I))++[e1.2.page]):=(perm_append_singleton _ _).symm;exact p9.nodup_iff.1 ag)
  exact this.perm (perm_append_singleton _ _) perm_append_comm
 have aH:∀x∈[E]++(G++I),InUse M1 x:=fun x y=>t1.has x (by rcases zD.1 y with y|y;exact zH _ y;exact zI _ (zN _ y));have p8:([E]++C.2.page::(G++I)).Perm (([E]++(G++I))++[C.2.page]):=(by refine perm_middle.trans ?_;exact (perm_append_singleton _ _).symm);have t2:=aC.beside (Z:=[E]++(G++I)) aH (p8.nodup_iff.1 t1.nodup);have t3:=(t1.perm (.refl _) p8).trans t2;have p7:(([E]++(G++I))++[K]).Perm ((E::G)++(K::I)):=(by show (E::((G++I)++[K])).Perm (E::(G++K::I));refine List.Perm.cons _ ((perm_append_singleton _ _).trans ?_);exact perm_middle.symm);have t4:=Step.part (D:=D) (a:=A.flatMap (·.2.pages)) (b:=B.flatMap (·.2.pages)) aa ap (t3.perm pm.symm p7);rw[qaD,yG];refine t4.perm (.refl _) ?_;rw[zV]
end
end
section
section
variable {D:DiskM} {M M':PgM} {k v:Nat}
theorem qmy{n:Int}(z:M.Wf)(A:M.over=false)(C:InUse M n):∃M',dropV M n=(0,M')/\Step D M M' [n] []/\M.free.length<=M'.free.length:=by
 obtain⟨M',e,t,E,G,I⟩:=qjj (D:=D) (q:=n+1) z A C (by omega);have y:∀x,x≠n->pagerReadM D M' x=pagerReadM D M x/\(InUse M' x↔InUse M x):=fun x u=>by by_cases hq':x=n+1;rw[hq'];exact⟨E,G⟩;exact⟨t.rest x hq' u,t.use x hq' u⟩
 refine⟨M',e,⟨t.wf,t.over,t.roots,t.sup,t.lists,t.named,t.Named,t.turn,fun x u h=>?_,fun x u=>?_,fun x u=>(nomatch u),fun x u=>(nomatch u),.nil,t.old⟩,I⟩;have h:x≠n:=(by simpa using h);exact⟨(y x h).1,(y x h).2.2 u,by simp⟩;by_cases h:x=n;subst h;exact absurd u (t.left (by omega));exact .inr ⟨(y x h).2.1 u,by simpa using h⟩
theorem qmS(hc:CapsOk k v){h:Nat}{A B:List Ent}{e1 C:Ent}{Nl Nr:NodeM}{n1 n2:Nat}{L1 L2:Prs}{E G:List Int}(H:Nbrs D M k v h A B e1 C Nl Nr n1 n2 L1 L2 E G)(h1:n1+n2<=(if h=0 then (capsV k v).1 else (capsV k v).2))(h2:minOf k v h<=n1+n2)(hf:1<=M.free.length): ∃N M' R,joinM k v M (inOf (A++e1::C::B)) A.length Nl Nr=((N,0),M')/\HasN D M' k v (h+1) N (A.length+B.length+1) (A.flatMap (·.2.prs)++((L1++L2)++B.flatMap (·.2.prs))) R/\ Step D M M' (A.flatMap (·.2.pages)++(((e1.2.page::E)++(C.2.page::G))++B.flatMap (·.2.pages))) R/\M.free.length<=M'.free.length+1:=by
 obtain⟨ay,az,aA,aB⟩:=H.mids;have hJ:=quc H.left H.right h1 ay az ⟨aA,aB⟩;have aY:=hc.min h;have J:=H.use;have ah:=H.nodup;have pm:(((e1.2.page::E)++(C.2.page::G))).Perm (e1.2.page::C.2.page::(E++G)):=by rw[xH];exact (perm_middle).cons _
 have K:∀x,x∈e1.2.page::C.2.page::(E++G)->x∈A.flatMap (·.2.pages)++(((e1.2.page::E)++(C.2.page::G))++B.flatMap (·.2.pages)):=fun x y=>zI _ (zH _ (pm.mem_iff.2 y));have ag:(e1.2.page::C.2.page::(E++G)).Nodup:=pm.nodup_iff.1 (yL.1 (yL.1 ah).2.1).1;have Q:=nodup_cons.1 ag;have am:=nodup_cons.1 Q.2;have aC:=J _ (K e1.2.page (by simp));have an:=J _ (K C.2.page (by simp));obtain⟨q,M1,s1,U,H1,a0⟩:=hJ.store H.wf H.over (by omega) aC (fun hm=>Q.1 (zN _ hm)) hf;have V:C.2.page≠e1.2.page:=fun e=>Q.1 (by rw[e];simp);have I:∀x,InUse M x->x≠e1.2.page->pagerReadM D M1 x=pagerReadM D M x/\InUse M1 x/\x≠q:=fun x y ai=>by
  have:=U.rest x y (by simpa using ai)
  exact⟨this.1,this.2.1,by simpa using this.2.2⟩
 obtain⟨M2,s2,ao,a3⟩:=qmy (D:=D) U.wf U.over (I _ an V).2.1;have aa:∀x,InUse M1 x->x≠C.2.page->pagerReadM D M2 x=pagerReadM D M1 x/\InUse M2 x:=fun x y ai=>by
  have:=ao.rest x y (by simpa using ai)
  exact⟨this.1,this.2.1⟩
 have aD:Has D M2 k v h ⟨q,n1+n2,L1++L2,q::(E++G)⟩:=H1.frame fun x y=>(aa x (H1.used U.over x y) (fun e=>by rcases zG.1 y with e'|y;exact (I _ an V).2.2 (by rw[<- e,e']);exact am.1 (e▸y))).1;have aE:∀b,b∈A\/b∈B->∀x∈b.2.pages,InUse M x/\x≠e1.2.page/\x≠C.2.page:=fun b u x y=>by
  have hd:=yL.1 ah;have aF:=yL.1 hd.2.1;have ap:∀z,z=e1.2.page\/z=C.2.page->z∈(e1.2.page::E)++(C.2.page::G):=fun z hz=>pm.mem_iff.2 (by rcases hz with rfl|rfl<;>simp);have key:∀z,z=e1.2.page\/z=C.2.page->x≠z:=fun z hz e=>by rcases u with u|u;exact hd.2.2 x (yJ.2 ⟨b,u,y⟩) z (zH _ (ap z hz)) e;exact aF.2.2 z (ap z hz) x (yJ.2 ⟨b,u,y⟩) e.symm
  refine⟨J x ?_,key _ (.inl rfl),key _ (.inr rfl)⟩;rcases u with u|u;exact zH _ (yJ.2 ⟨b,u,y⟩);exact zI _ (zI _ (yJ.2 ⟨b,u,y⟩))
 have ab:∀b,b∈A\/b∈B->Has D M2 k v h b.2/\minOf k v h<=b.2.size:=fun b u=>⟨(H.rest b u).1.frame fun x y=>by have h9:=aE b u x y;have h8:=I x h9.1 h9.2.1;exact ((aa x h8.2.1 h9.2.2).1).trans h8.1,(H.rest b u).2⟩;have hS:=H.sep;have hp:=pairwise_append.1 hS.pair;have af:=yI.1 hp.2.1;have ar:=yI.1 af.2;have au:SepE (A++(e1.1,(⟨q,n1+n2,L1++L2,q::(E++G)⟩:Seg))::B):=by refine⟨pairwise_append.2 ⟨hp.1,yI.2 ⟨fun b u=>⟨(af.1 b (by simp[u])).1,fun x y=>?_⟩,ar.2⟩,fun a ha b u=>?_⟩,fun b u x y=>?_⟩;rcases zD.1 y with y|y;exact (af.1 b (by simp[u])).2 x y;exact (ar.1 b u).2 x y;rcases zG.1 u with rfl|u;exact hp.2.2 a ha (e1.1,⟨0,0,L1,[]⟩) (by simp);exact hp.2.2 a ha b (by simp[u]);rcases zD.1 u with u|u;exact hS.low b (by simp[u]) x y;rcases zG.1 u with rfl|u;rcases zD.1 y with y|y;exact hS.low (e1.1,⟨0,0,L1,[]⟩) (by simp) x y;have h9:=hS.low (C.1,⟨0,0,L2,[]⟩) (by simp) x y;exact qcx (qaQ (af.1 (C.1,⟨0,0,L2,[]⟩) (by simp)).1) h9;exact hS.low b (by simp[u]) x y
 have aj:KeysOk k (A++(e1.1,(⟨q,n1+n2,L1++L2,q::(E++G)⟩:Seg))::B):=by
  have h9:KeysOk k (A++e1::B):=fun b u=>H.keys b (by
   cases A with
   | nil=>exact zN _ u
   | cons a A=>
    rcases zD.1 (show b∈A++e1::B from u) with u|u;exact zH (e1::C::B) u;exact zI A ((zG.1 u).elim (fun e=>by rw[e];simp) fun u=>by simp[u]))
  exact qkf h9
 have ak:((A++(e1.1,(⟨q,n1+n2,L1++L2,q::(E++G)⟩:Seg))::B).map (·.1)).head?=some []:=by
  have h9:=H.head;cases A with
  | nil=>exact h9
  | cons a A=>exact h9
 have aQ:=H.len;refine⟨inOf (A++(e1.1,(⟨q,n1+n2,L1++L2,q::(E++G)⟩:Seg))::B),M2,_,?_,⟨_,ak,rfl,by simp;omega,by rw[qaD],rfl,aj,au,by omega,fun b u=>?_⟩,?_,by omega⟩;have aG:(inOf (A++e1::C::B)).kids.getD A.length 0=e1.2.page:=qep.1;have aH:(inOf (A++e1::C::B)).kids.getD (A.length+1) 0=C.2.page:=qep.2;have aI:(inOf (A++e1::C::B)).keys.getD A.length []=C.1:=qik;unfold joinM;rw[aG,aH,aI,s1];dsimp only;rw[if_neg (fun h=>h rfl),s2];dsimp only;rw[if_neg (fun h=>h rfl)];exact congrArg (fun N=>((N,(0:Int)),M2)) (qt1 (s:=⟨q,n1+n2,L1++L2,q::(E++G)⟩));rcases zD.1 u with u|u;exact ab b (.inl u);rcases zG.1 u with rfl|u;exact⟨aD,h2⟩;exact ab b (.inr u);have t1:Step D M M1 (e1.2.page::C.2.page::(E++G)) ([q]++C.2.page::(E++G)):=by
  have:=U.beside (Z:=C.2.page::(E++G)) (fun x y=>J x (K x (zN _ y))) (by have p9:(e1.2.page::C.2.page::(E++G)).Perm ((C.2.page::(E++G))++[e1.2.page]):=(perm_append_singleton _ _).symm;exact p9.nodup_iff.1 ag)
  exact this.perm (perm_append_singleton _ _) perm_append_comm
 have p8:([q]++C.2.page::(E++G)).Perm (([q]++(E++G))++[C.2.page]):=(by refine perm_middle.trans ?_;exact (perm_append_singleton _ _).symm);have t2:=ao.beside (Z:=[q]++(E++G)) (fun x y=>t1.has x (by rcases zD.1 y with y|y;exact zH _ y;exact zI _ (zN _ y))) (p8.nodup_iff.1 t1.nodup);have t3:=(t1.perm (.refl _) p8).trans t2;rw[xF] at t3;have t4:=Step.part (D:=D) (a:=A.flatMap (·.2.pages)) (b:=B.flatMap (·.2.pages)) J ah (t3.perm pm.symm (.refl _));rw[qaD];exact t4
theorem SepE.swap{A B:List Ent}{e:Ent}{s:Seg}(h:SepE (A++e::B))(u:∀x∈s.prs,x∈e.2.prs):SepE (A++(e.1,s)::B):=
 h.put (key:=e.1) qaz (fun b y=>(h.mid.2 b y).1) fun x z=>.inr (u x z)
theorem qls(hc:CapsOk k v){key:Key}:∀(h:Nat) (M:PgM) (s:Seg),Has D M k v h s->M.Wf->M.over=false->s.pages.Nodup->key∈keysP s.prs->2*h<=M.free.length-> ∃N n M' R R',cutN D k v key (h+1) M s.page=((N,0),M')/\s.pages=s.page::R/\HasN D M' k v h N n (cutP key s.prs) R'/\Step D M M' R R'/\s.size<=n+1/\M.free.length<=M'.free.length+2*h
 | 0,M,s,hs,hW,ho,aJ,aj,hf=>by
  obtain⟨N,R,hl,hN,hp,bO,_⟩:=hs.load;have bP:=hN;obtain⟨rfl,hn,rfl,hL,aK,a'⟩:=hN;have ak:=qlm aK aj;have hm:=(qb4 aK).2 aj;have hi:placeV (keysP s.prs) key<s.prs.length:=by
   have:=(zP.1 hm).1
   simpa using this
  have bF:(cutP key s.prs).length+1=s.prs.length:=(by rw[ak,zF,yK,yB];omega);refine⟨lfOf (cutP key s.prs),(cutP key s.prs).length,M,[],[],?_,hp,⟨rfl,rfl,rfl,fun x u=>hL x (qeR.1 u).1,qsr aK,by omega⟩,Step.refl hW ho (fun x u=>nomatch u) .nil,by omega,by omega⟩;unfold cutN;rw[hl];dsimp only;rw[if_neg (fun h=>h rfl),if_pos (show (lfOf s.prs).leaf=true from rfl),if_pos (show (lfOf s.prs).keys[placeV (lfOf s.prs).keys key]?=some key from hm)];refine congrArg (fun N=>((N,(0:Int)),M)) ?_;rw[ak];unfold lfOf delAt;simp only[xJ,xL,xM]
 | h+1,M,⟨p,n,L,P⟩,⟨es,h0,h1,h2,h3,h4,h5,h6,h7⟩,hW,ho,aJ,aj,hf=>by
  dsimp only at h1 h2 h3 h5 aJ aj;subst h1 h2 h3;have hl:loadN D M k v p=(inOf es,0):=h4.load h5;have al:=h4.right.innerTwo;obtain⟨A,e,B,U,hA,bq,br,aM⟩:=qgK (key:=key) h0 h6;have aN:(inOf es).kids.getD (kidV (inOf es).keys key) 0=e.2.page:=aM;have bs:kidV (inOf es).keys key=A.length:=hA.symm;have bt:e∈es:=(by rw[U];simp);obtain⟨bu,bv⟩:=h7 e bt;have ag:es.flatMap (·.2.pages)=A.flatMap (·.2.pages)++(e.2.pages++B.flatMap (·.2.pages)):=(by rw[U,qaD]);have ar:es.flatMap (·.2.prs)=A.flatMap (·.2.prs)++(e.2.prs++B.flatMap (·.2.prs)):=(by rw[U,qaD]);have aw:∀z∈A.flatMap (·.2.pages)++(e.2.pages++B.flatMap (·.2.pages)),InUse M z:=fun z hz=>by rw[<- ag] at hz;obtain⟨b,C,hz⟩:=yJ.1 hz;exact (h7 b C).1.used ho z hz
  have af:(A.flatMap (·.2.pages)++(e.2.pages++B.flatMap (·.2.pages))).Nodup:=(by rw[<- ag];exact (nodup_cons.1 aJ).2);have am:e.2.pages.Nodup:=(yL.1 (yL.1 af).2.1).1;have au:=h6;rw[U] at au;have ax:=au.mid;have bb:∀x∈A.flatMap (·.2.prs),KLt x.1 key:=fun x u=>by obtain⟨a,ha,u⟩:=yJ.1 u;exact qbi (ax.1 a ha x u) bq
  have bc:∀x∈B.flatMap (·.2.prs),KLt key x.1:=fun x u=>by obtain⟨b,C,u⟩:=yJ.1 u;exact qbi (br b C) ((ax.2 b C).2.2 x u)
  have ak:cutP key (es.flatMap (·.2.prs))=A.flatMap (·.2.prs)++(cutP key e.2.prs++B.flatMap (·.2.prs)):=(by rw[ar,qkI bb,qi6 bc]);have aO:key∈keysP e.2.prs:=by obtain⟨x,u,rfl⟩:=mem_map.1 aj;rw[ar] at u;rcases zD.1 u with u|u;exact absurd (bb x u) qaz;rcases zD.1 u with u|u;exact zY u;exact absurd (bc x u) qaz
  obtain⟨N1,n1,M1,Re,I,ec,aP,an,st,bU,bV⟩:=qls hc h M e.2 bu hW ho am aO (by omega);rw[aP] at aw af am;have V:=KeysOk.of h4;have aH:e.2.page∉Re:=(nodup_cons.1 am).1;have aQ:InUse M e.2.page:=aw _ (by simp);have bx:Step D M M1 (e.2.page::Re) (e.2.page::I):=st.beside (Z:=[e.2.page]) (fun x u=>by rw[zE.1 u];exact aQ) (by simpa using am);have aR:=Step.part aw af bx;have bd:InUse M1 e.2.page:=(st.rest _ aQ aH).2.1;have aS:e.2.page∉I:=(st.rest _ aQ aH).2.2;have E:∀b,b∈A\/b∈B->Has D M1 k v h b.2/\minOf k v h<=b.2.size:=fun b C=>by
   have aT:b∈es:=by rw[U];rcases C with C|C<;>simp[C]
   refine⟨(h7 b aT).1.frame fun x u=>?_,(h7 b aT).2⟩;have hd:=yL.1 af;refine (st.rest x ((h7 b aT).1.used ho x u) fun hm=>?_).1;rcases C with C|C;exact hd.2.2 x (yJ.2 ⟨b,C,u⟩) x (zH _ (zN _ hm)) rfl;exact (yL.1 hd.2.1).2.2 x (zN _ hm) x (yJ.2 ⟨b,C,u⟩) rfl
  have a':n1<=(if h=0 then (capsV k v).1 else (capsV k v).2):=by
   cases h with
   | zero=>exact an.2.2.2.2.2
   | succ h=>obtain⟨_,_,_,_,_,_,_,_,h9,_⟩:=an;exact h9
  have bW:=hc.min h;have ap:minOf k v h=(if h=0 then (capsV k v).1 else (capsV k v).2) / 2:=(by unfold minOf;split<;>rfl);have ay:SepE (A++(e.1,(⟨0,0,cutP key e.2.prs,[]⟩:Seg))::B):=au.swap fun x u=>(qeR.1 u).1;have y:es.length=A.length+B.length+1:=(by rw[U];simp;omega);have aC:∀ {N:NodeM} {M2:PgM} {n R':_},HasN D M2 k v (h+1) N n (A.flatMap (·.2.prs)++(cutP key e.2.prs++B.flatMap (·.2.prs))) R'->HasN D M2 k v (h+1) N n (cutP key (es.flatMap (·.2.prs))) R':=fun h9=>by rw[ak];exact h9
  have av:∀ {M2:PgM} {R':List Int},Step D M1 M2 (A.flatMap (·.2.pages)++((e.2.page::I)++B.flatMap (·.2.pages))) R'->Step D M M2 (es.flatMap (·.2.pages)) R':=fun h9=>by rw[ag,aP];exact aR.trans h9
  have aI:lowN N1 k v↔n1<minOf k v h:=(by unfold lowN;rw[an.size,ap]);unfold cutN;rw[hl];dsimp only;rw[if_neg (fun h=>h rfl),if_neg (show ¬(inOf es).leaf=true from fun e=>nomatch e),aN,ec];dsimp only;rw[if_neg (fun h=>h rfl),bs];by_cases hlw:lowN N1 k v;rw[if_neg (fun h=>h hlw)];have bX:=aI.1 hlw;have bg:n1+1=minOf k v h:=(by omega);by_cases hA0:A.length>0;rw[if_pos hA0];obtain⟨A',f,rfl⟩:∃A' f,A=A'++[f]:=(by have bh:A≠[]:=length_pos_iff.1 hA0;exact⟨A.dropLast,A.getLast bh,(dropLast_concat_getLast bh).symm⟩);have bz:(A'++[f]).length-1=A'.length:=(by simp);rw[bz];have az:=E f (.inl (by simp));obtain⟨Ny,Ry,aV,aq,aW,_,_⟩:=az.1.load;have G:es=A'++f::e::B:=(by rw[U];simp);have bA:(A'++[f]).flatMap (·.2.pages)=A'.flatMap (·.2.pages)++f.2.pages:=(by simp[yP]);have bj:(A'++[f]).flatMap (·.2.prs)=A'.flatMap (·.2.prs)++f.2.prs:=(by simp[yP]);have aa:(A'++[f]).flatMap (·.2.pages)++((e.2.page::I)++B.flatMap (·.2.pages))=A'.flatMap (·.2.pages)++(((f.2.page::Ry)++(e.2.page::I))++B.flatMap (·.2.pages)):=(by rw[bA,aW];simp only[zV]);have ao:(A'++[f]).flatMap (·.2.prs)++(cutP key e.2.prs++B.flatMap (·.2.prs))=A'.flatMap (·.2.prs)++((f.2.prs++cutP key e.2.prs)++B.flatMap (·.2.prs)):=(by rw[bj];simp only[zV]);have aA:SepE (A'++(f.1,(⟨0,0,f.2.prs,[]⟩:Seg))::(e.1,⟨0,0,cutP key e.2.prs,[]⟩)::B):=(by have h9:SepE (A'++f::((e.1,(⟨0,0,cutP key e.2.prs,[]⟩:Seg))::B)):=(by simpa using ay);exact h9.swap (s:=⟨0,0,f.2.prs,[]⟩) fun x u=>u);have ab:=aR;rw[aa] at ab;have Hn:Nbrs D M1 k v h A' B f e Ny N1 f.2.size n1 f.2.prs (cutP key e.2.prs) Ry I:=
   ⟨st.wf,st.over,by rw[<- G];exact h0,by rw[<- G];exact V,aA,by have:=al.2;rw[y] at this;simp at this;omega,fun b C=>E b (C.imp (fun C=>by simp[C]) id),aq,an,ab.has,ab.nodup⟩
  have aY:(inOf es).kids.getD A'.length 0=f.2.page:=(by rw[G];exact qep.1);have J:spareN Ny k v↔minOf k v h<f.2.size:=(by unfold spareN;rw[aq.size,ap]);unfold evenM;rw[aY,aV];dsimp only;rw[if_neg (fun h=>h rfl),if_pos (show A'.length<(A'++[f]).length by simp),G];by_cases hsq:spareN Ny k v;rw[if_neg (fun h=>h hsq)];obtain⟨aZ,a0,a1,a2⟩:=Hn.mids;have a3:(inOf (A'++f::e::B)).keys.getD A'.length []=e.1:=qik;rw[a3];obtain⟨N,M2,R,e2,ac,K,aE⟩:=qpx hc Hn (quf hc aq an (J.1 hsq) bg aZ a0 ⟨a1,a2⟩) (by omega);rw[<- ao] at ac;rw[<- aa] at K;rw[<- G];exact⟨N,_,M2,_,R,by rw[G];exact e2,rfl,aC ac,av K,by rw[y];simp;omega,by omega⟩;rw[if_pos hsq];have bB:f.2.size<=minOf k v h:=Nat.le_of_not_lt fun h9=>hsq (J.2 h9);have a4:=az.2;obtain⟨N,M2,R,e2,ac,K,aE⟩:=qmS hc Hn (by omega) (by omega) (by omega);rw[<- ao] at ac;rw[<- aa] at K;rw[<- G];exact⟨N,_,M2,_,R,by rw[G];exact e2,rfl,aC ac,av K,by rw[y];simp;omega,by omega⟩;rw[if_neg hA0];obtain rfl:A=[]:=eq_nil_of_length_eq_zero (by omega);obtain⟨f,B',rfl⟩:∃f B',B=f::B':=by
   cases B with
   | nil=>rw[y] at al;simp at al
   | cons f B'=>exact⟨f,B',rfl⟩
  have az:=E f (.inr (by simp));obtain⟨Ny,Ry,aV,aq,aW,_,_⟩:=az.1.load;have G:es=[]++e::f::B':=U;have aa:([]:List Ent).flatMap (·.2.pages)++((e.2.page::I)++(f::B').flatMap (·.2.pages))=([]:List Ent).flatMap (·.2.pages)++(((e.2.page::I)++(f.2.page::Ry))++B'.flatMap (·.2.pages)):=by rw[yG,aW];simp only[zV]
  have ao:([]:List Ent).flatMap (·.2.prs)++(cutP key e.2.prs++(f::B').flatMap (·.2.prs))=([]:List Ent).flatMap (·.2.prs)++((cutP key e.2.prs++f.2.prs)++B'.flatMap (·.2.prs)):=(by rw[yG];simp only[zV]);have aA:SepE ([]++(e.1,(⟨0,0,cutP key e.2.prs,[]⟩:Seg))::(f.1,⟨0,0,f.2.prs,[]⟩)::B'):=(by have h9:SepE ([(e.1,(⟨0,0,cutP key e.2.prs,[]⟩:Seg))]++f::B'):=ay;exact h9.swap (s:=⟨0,0,f.2.prs,[]⟩) fun x u=>u);have ab:=aR;rw[aa] at ab;have Hn:Nbrs D M1 k v h [] B' e f N1 Ny n1 f.2.size (cutP key e.2.prs) f.2.prs I Ry:=
   ⟨st.wf,st.over,by rw[<- G];exact h0,by rw[<- G];exact V,aA,by have:=al.2;rw[y] at this;simp at this⊢;omega,fun b C=>E b (C.imp id fun C=>by simp[C]),an,aq,ab.has,ab.nodup⟩
  have aY:(inOf es).kids.getD (([]:List Ent).length+1) 0=f.2.page:=(by rw[G];exact qep.2);have J:spareN Ny k v↔minOf k v h<f.2.size:=(by unfold spareN;rw[aq.size,ap]);unfold evenM;rw[aY,aV];dsimp only;rw[if_neg (fun h=>h rfl),if_neg (show ¬([]:List Ent).length+1<([]:List Ent).length by simp),G];by_cases hsq:spareN Ny k v;rw[if_neg (fun h=>h hsq)];obtain⟨aZ,a0,a1,a2⟩:=Hn.mids;have a3:(inOf ([]++e::f::B')).keys.getD ([]:List Ent).length []=f.1:=qik (A:=[]) (B:=B') (e1:=e);rw[a3];obtain⟨N,M2,R,e2,ac,K,aE⟩:=qpx hc Hn (quC hc an aq bg (J.1 hsq) aZ a0 ⟨a1,a2⟩) (by omega);rw[<- ao] at ac;rw[<- aa] at K;rw[<- G];exact⟨N,_,M2,_,R,by rw[G];exact e2,rfl,aC ac,av K,by rw[y];simp,by omega⟩;rw[if_pos hsq];have bB:f.2.size<=minOf k v h:=Nat.le_of_not_lt fun h9=>hsq (J.2 h9);have a4:=az.2;obtain⟨N,M2,R,e2,ac,K,aE⟩:=qmS hc Hn (by omega) (by omega) (by omega);rw[<- ao] at ac;rw[<- aa] at K;rw[<- G];exact⟨N,_,M2,_,R,by rw[G];exact e2,rfl,aC ac,av K,by rw[y];simp,by omega⟩;rw[if_pos hlw];have a4:minOf k v h<=n1:=Nat.le_of_not_lt fun h9=>hlw (aI.2 h9);obtain⟨q,M2,e2,K,H2,aE⟩:=an.store st.wf st.over (by omega) bd aS (by omega);rw[e2];have bC:Step D M M2 (e.2.page::Re) (q::I):=Step.kid (Q:=[q]) (fun z hz=>aw z (zI _ (zH _ hz))) am st K;have bD:=Step.part aw af bC;have a5:SepE (A++(e.1,(⟨q,n1,cutP key e.2.prs,q::I⟩:Seg))::B):=au.swap fun x u=>(qeR.1 u).1;have a6:((A++(e.1,(⟨q,n1,cutP key e.2.prs,q::I⟩:Seg))::B).map (·.1)).head?=some []:=(by rw[U] at h0;rw[xJ,xK] at h0⊢;exact h0);refine⟨inOf (A++(e.1,(⟨q,n1,cutP key e.2.prs,q::I⟩:Seg))::B),es.length,M2,_,A.flatMap (·.2.pages)++((q::I)++B.flatMap (·.2.pages)),?_,rfl,⟨_,a6,rfl,by rw[U];simp,by rw[qaD,ak],by rw[qaD],qkf (by rw[<- U];exact V),a5,al.2,fun b C=>?_⟩,by rw[ag,aP];exact bD,by show es.length<=es.length+1;omega,by omega⟩;rw[U];exact congrArg (fun N=>((N,(0:Int)),M2)) (qum (s:=⟨q,n1,cutP key e.2.prs,q::I⟩));have bk:∀b,b∈A\/b∈B->Has D M2 k v h b.2/\minOf k v h<=b.2.size:=fun b C=>by have h9:=E b C;refine⟨h9.1.frame fun x u=>(K.rest x (h9.1.used st.over x u) fun hm=>?_).1,h9.2⟩;have hd:=yL.1 af;have bl:=zE.1 hm;rcases C with C|C;exact hd.2.2 x (yJ.2 ⟨b,C,u⟩) x (by rw[bl];simp) rfl;exact (yL.1 hd.2.1).2.2 x (by rw[bl];simp) x (yJ.2 ⟨b,C,u⟩) rfl
  rcases zD.1 C with C|C;exact bk b (.inl C);rcases zG.1 C with rfl|C;exact⟨H2,a4⟩;exact bk b (.inr C)
end
end
end Go.Proofs.YtmmkegapckbomaaGreatDoor
end
section
namespace Go.Proofs.YtmmkegapckbomaaGreatDoor
open Go Go.Pt List
theorem qtI{cl:List Cell}{w:World}{b off:Nat}{cs:Array Value}{T:TypeId}{h:Nat×Nat}{K:HL cl->Prop}(u:w.heap[b]?=some (.cells cs T h))(x:HL cl)(y:(cs.toList.drop off).take cl.length=HL.mk cl x)(k:K x):Pt.ldA cl ⟨b,off,none⟩ w K:=
 ⟨x,qba u _ off 0 (by rw[HL.mk_length];exact y),k⟩
attribute [local irreducible] ld ldA ldV fld fldA newZ st new idx idxS idxA slc slcS slcP mkS chk nn call callV inv run runQ runU join loop held ext rng undefer s2a nxt ent IntKind.wrap
theorem PgX.setRoots{w w':World}{X:List Nat}{pb:Nat}{db:Option Addr}{M:PgM}{fb defb mb:Nat}{sl sn:Sl}{F1 F2:List Nat}{y:List (Int×Leaf)}{roots:List Int}(h:PgX w X pb db M fb defb mb sl sn F1 F2 y)(z:roots.length=24)(A:w'.heap[pb]?=some (.cells (pgCells db M.sup sl sn M.turn M.over fb defb mb roots) PGT (0,0)))(f:Fr [pb] w w'):PgX w' X pb db { M with roots:=roots } fb defb mb sl sn F1 F2 y where
 cell:=A
 free:=h.free.frame f fun b u=>by simpa using (h.sep.2.1 b u).1
 deferred:=h.deferred.frame f fun b u=>by simpa using (h.sep.2.2 b u).1
 map:=h.map.frame f (by simpa using fun e=>h.sep.1 e.symm)
 fresh:=h.fresh
 rows:=h.rows.frame (f.mono fun i C _=>by rw[zE.1 C];simp) fun b u=>.inl u
 xlt:=fun b u=>yC (h.xlt b u) f.size
 xsep:=h.xsep
 sep:=h.sep
 suplen:=h.suplen
 rootlen:=z
theorem qqo{db:Option Addr}{sup:Sup}{sl sn:Sl}{turn:Int}{over:Bool}{fb defb mb:Nat}{roots:List Int}(E:sup.2.length=27)(J:roots.length=24){t:Nat}(K:t<8){h y z:Int}: splice (pgCells db sup sl sn turn over fb defb mb roots) (36+3*t) [.u h,.u y,.u z]=pgCells db sup sl sn turn over fb defb mb (roots.take (3*t)++[h,y,z]++roots.drop (3*t+3)):=by
 have C:roots=roots.take (3*t)++(roots.drop (3*t)).take 3++roots.drop (3*t+3):=by rw[zV,<- xB,xC,xC]
 have:=qa8 (A:=(.pointer db::supV sup.1 sup.2)++pgRest sl sn turn over fb defb mb++(roots.take (3*t)).map (Value.int .u32)) (X:=((roots.drop (3*t)).take 3).map (Value.int .u32)) (Y:=[.u h,.u y,.u z]) (Z:=(roots.drop (3*t+3)).map (Value.int .u32)) (by rw[zK,yK,yB];show min 3 _=3;omega)
 have G:((.pointer db::supV sup.1 sup.2)++pgRest sl sn turn over fb defb mb++(roots.take (3*t)).map (Value.int .u32)).length=36+3*t:=(by rw[zF,zF,qa0 E,zK,yK];show 29+7+_=_;omega);rw[G] at this;unfold pgCells;have I:roots.map (Value.int .u32)=(roots.take (3*t)).map (Value.int .u32)++((roots.drop (3*t)).take 3).map (Value.int .u32)++(roots.drop (3*t+3)).map (Value.int .u32):=(by rw[<- xJ,<- xJ,<- C]);rw[I];simp only[xJ,xK,map_nil];simp only[zV] at this⊢;exact this
section
variable {w:World} {X:List Nat} {pb:Nat} {db:Option Addr} {F:List Nat} {M:PgM}
theorem qo2{t z A C:Int}{K:Int->WP}(h:PagerAt w X pb db F M)(hk:∀w',PagerAt w' X pb db F (setRootM M t z A C).2->Fr F w w'->K (setRootM M t z A C).1 w'): cW 107 [.pointer (pW pb),.i t,.agg #[.u z,.u A,.u C]] [.one .i] w K:=by
 have h0:=h;obtain⟨fb,defb,mb,sl,sn,F1,F2,fs,rfl,G⟩:=h;refine qfC ?_;unfold qcR;have E:∀ {e:Int} {w':World},setRootM M t z A C=(e,M)->Fr [] w w'->K e w':=by
  intro e w' he hf
  have:=hk w' (by rw[he];exact h0.frame0 hf) (hf.mono (fun b I=>by cases I))
  rw[he] at this;exact this
 refine Own.new' (Own.start [] w) fun r w1 e1 V ho=>?_;have J:=G.frame0 V;refine qae (qak J.cell M.over (qeo G.suplen) ?_);refine qaa (fun y=>E (by rw[setRootM,if_pos y]) V) (fun y=>?_);have Q:¬M.over=true:=(by rw[y];decide);refine qaf (fun b w'=>b=decide (t<0\/t>7)/\w'=w1) ?_ ?_;refine qaa (fun y=>⟨by rw[zZ (Or.inl (zC y))],rfl⟩) (fun y=>?_)
 have:=zB y
 refine⟨decide_eq_decide.2 ⟨fun h=>.inr (by omega),fun h=>by omega⟩,rfl⟩;rintro b w2 ⟨rfl,rfl⟩;refine qaa (fun y=>E (by rw[setRootM,if_neg Q,if_pos (zC y)]) V) (fun y=>?_);have hr:=zB y;obtain⟨n,rfl⟩:∃n:Nat,t=n:=⟨t.toNat,by omega⟩;have aa:n<8:=(by omega);have R:setRootM M n z A C=(0,{ M with roots:=M.roots.take (3*n)++[z,A,C]++M.roots.drop (3*n+3) }):=(by rw[setRootM,if_neg Q,if_neg hr,zJ]);have ab:=ho.drew;have U:=J.frame0 (Fr.refl [] w2).drew;refine Own.ldA ab 0 rfl (z,A,C) rfl ?_;refine qae ?_;refine qaW (by omega) ?_;simp only[Addr.add_mk,zJ];refine qdn U.cell (pgCells db M.sup sl sn M.turn M.over fb defb mb (M.roots.take (3*n)++[z,A,C]++M.roots.drop (3*n+3))) (by show splice _ (0+33+3+n*3) _=_;rw[show 0+33+3+n*3=36+3*n by omega];exact qqo G.suplen G.rootlen aa) rfl (by rw[qpS G.suplen,G.rootlen];exact zL (show 0+33+3+n*3+3<=60 by omega) (zM 60)) fun w3 ac f3=>?_;have hl:(M.roots.take (3*n)++[z,A,C]++M.roots.drop (3*n+3)).length=24:=by
  have:=G.rootlen
  simp only[zF,yK,yB,yH,length_nil];omega
 have:=hk w3 (by rw[R];exact⟨fb,defb,mb,sl,sn,F1,F2,fs,rfl,U.setRoots hl ac f3⟩) ((V.drew.mono fun b I=>nomatch I).trans (f3.mono fun b I _=>by rw[zE.1 I];simp))
 rw[R] at this;exact this
def rootM (M:PgM) (t:Int):Int×Int×Int:=if t<0\/t>7 then (0,0,0) else (M.roots.getD (3*t.toNat) 0,M.roots.getD (3*t.toNat+1) 0,M.roots.getD (3*t.toNat+2) 0)
theorem qtl{t:Int}{K:Int×Int×Int->WP}(h:PagerAt w X pb db F M)(I:∀w',Fr [] w w'->K (rootM M t) w'): cW 19 [.pointer (pW pb),.i t] [.agg [.u,.u,.u]] w K:=by
 obtain⟨fb,defb,mb,sl,sn,F1,F2,fs,rfl,C⟩:=h;refine qhp ?_;unfold qd4;refine Own.new' (Own.start [] w) fun r Q e1 R J=>?_;have E:=C.frame0 R;refine qaf (fun b w'=>b=decide (t<0\/t>7)/\w'=Q) ?_ ?_;refine qaa (fun z=>⟨by rw[zZ (Or.inl (zC z))],rfl⟩) (fun z=>?_)
 have:=zB z
 refine⟨decide_eq_decide.2 ⟨fun h=>.inr (by omega),fun h=>by omega⟩,rfl⟩;rintro b w2 ⟨rfl,rfl⟩;refine qaa (fun z=>?_) (fun z=>?_);refine Own.sz J 0 rfl #[.u 0,.u 0,.u 0] fun G y U=>?_;refine Own.ldA y 0 rfl (0,0,0) rfl ?_
 have:=I G y.fr
 rw[rootM,if_pos (zC z)] at this;exact this;have V:=zB z;obtain⟨n,rfl⟩:∃n:Nat,t=n:=⟨t.toNat,by omega⟩;have aa:n<8:=(by omega);have ab:=C.rootlen;refine qae ?_;refine qaW (by omega) ?_;simp only[Addr.add_mk,zJ];have e3:((M.roots.map (Value.int .u32)).drop (3*n)).take 3=[.u (M.roots.getD (3*n) 0),.u (M.roots.getD (3*n+1) 0),.u (M.roots.getD (3*n+2) 0)]:=by rw[zX (by rw[zK];omega),zX (by rw[zK];omega),zX (by rw[zK];omega)];simp only[take_succ_cons,take_zero,getElem_map];rw[getElem_eq_getD 0,getElem_eq_getD 0,getElem_eq_getD 0]
 refine qtI E.cell (M.roots.getD (3*n) 0,M.roots.getD (3*n+1) 0,M.roots.getD (3*n+2) 0) ?_ ?_;have hd:=qgB (db:=db) (sup:=M.sup) (sl:=sl) (sn:=sn) (turn:=M.turn) (over:=M.over) (fb:=fb) (defb:=defb) (mb:=mb) (roots:=M.roots) C.suplen C.rootlen;have A:(pgCells db M.sup sl sn M.turn M.over fb defb mb M.roots).toList.drop 36=M.roots.map (Value.int .u32):=by
  rw[<- hd,zS]
  have:=qpS (db:=db) (sup:=M.sup) (sl:=sl) (sn:=sn) (turn:=M.turn) (over:=M.over) (fb:=fb) (defb:=defb) (mb:=mb) (roots:=M.roots) C.suplen
  rw[yB,Array.length_toList];omega
 rw[show 0+33+3+n*3=36+3*n by omega,<- xB,A];exact e3;refine Own.sz J 0 rfl #[.u (M.roots.getD (3*n) 0),.u (M.roots.getD (3*n+1) 0),.u (M.roots.getD (3*n+2) 0)] fun G y U=>?_;refine Own.ldA y 0 rfl (M.roots.getD (3*n) 0,M.roots.getD (3*n+1) 0,M.roots.getD (3*n+2) 0) rfl ?_
 have:=I G y.fr
 rw[rootM,if_neg V,zJ] at this;exact this
end
theorem qre{w:World}{dbk pb:Nat}{X FD F:List Nat}{D:DiskM}{M:PgM}{k:Nat}{n:Int}{K:Int×Sl×Int->WP}(U:DiskAt w dbk FD D)(J:Lim D k)(Q:PagerAt w X pb (dbOf dbk M) F M)(hv:Hv w)(hn:U32 n)(hl:M.lists.length<=1000000)(hb:∀e∈M.fresh,e.2.2.length<=100000)(hk:∀s w',(∀G:List Nat,(∀b∈G,b<w.heap.size)->RdB G w' s (pagerReadM D M n).2.1)->Fr [] w w'->K ((pagerReadM D M n).1,s,(pagerReadM D M n).2.2) w'): cW 91 [.pointer (pW pb),.u n] [.one .b,.one .slice,.one .i] w K:=by
 have V:=Q;obtain⟨fb,defb,mb,sl,sn,F1,F2,fs,rfl,R⟩:=Q;refine qhj ?_;unfold qdZ;have aa:∀ {a:Int} {e:Int} {w':World},pagerReadM D M n=(a,[],e)->Fr [] w w'->K (a,⟨none,0,0⟩,e) w':=fun he f=>by
  have:=hk ⟨none,0,0⟩ _ (fun G hG=>by rw[he];exact .nil _ _ _ _) f
  rw[he] at this;exact this
 refine qae (qak R.cell M.over (qeo R.suplen) ?_);refine qaa (fun A=>aa (by rw[pagerReadM,if_pos A]) (.refl _ _)) (fun A=>?_);have C:¬M.over=true:=(by rw[A];decide);have al:dbOf dbk M=pW dbk:=if_neg C;refine qae ?_;simp only[Addr.add_mk];refine qak R.cell (some mb) (qby R.suplen) ?_;have h:look n M.fresh=(look n fs).map fun q=>(q.1,q.2.1,q.2.2.2):=(by rw[R.fresh];exact qb1 (fun e:Leaf=>(e.1,e.2.2)) n fs);refine qiz R.map.at (fun q hq=>?_) (fun hq=>?_);rw[hq] at h;have h:look n M.fresh=some (q.1,q.2.1,q.2.2.2):=h;refine Own.new' (Own.start [] w) fun r w1 e1 f1 ho=>?_;refine Own.sz ho 0 rfl #[.b q.2.1,q.2.2.1.v] fun w2 I f2=>?_;have E:=I.drew;refine cond_true rfl ?_;refine Own.ld E 0 rfl q.2.1 rfl ?_;refine Own.ld E 0 rfl q.2.2.1 rfl ?_;have an:=(qa6 hq).2;have ao:=R.rows.bodies _ an;have ad:=(qa6 h).2;refine qaS (ao.frame0 E.fr) (zL (hb _ ad) (by decide)) fun s2 B2 w3 b2 f3 n2 _ _=>?_;have ae:=E.frame0 f3;refine qai (ae.cell 0 rfl rfl) ?_;have y:pagerReadM D M n=(q.2.1,q.2.2.2,0):=by rw[pagerReadM,if_neg C,h]
 have:=hk s2 w3 (fun G hG=>by rw[y];exact Buf.rds qas b2 fun b hb hm=>by have:=n2 b hb;have:=hG b hm;have:=E.fr.size;omega) ae.fr
 rw[y] at this;exact this;rw[hq] at h;have h:look n M.fresh=none:=h;refine Own.new' (Own.start [] w) fun r w1 e1 f1 ho=>?_;refine Own.sz ho 0 rfl #[.b 0,.slice none 0 0] fun w2 I f2=>?_;refine cond_false rfl ?_;refine qn2 (V.frame0 I.fr) hl fun w3 f3=>?_;have z:=I.fr.trans f3;have af:=R.frame0 z;refine qaa (fun A=>?_) (fun A=>?_);have hu:usedV M n=false:=(by simpa using A);exact aa (by rw[pagerReadM,if_neg C,h];exact if_pos hu) z;have hu:¬usedV M n=false:=(by simpa using A);rw[al] at af;refine qae (qak af.cell (pW dbk) qqZ ?_);rw[wi' n (by have:=hn.1;have:=hn.2;omega)];refine qgG (U.frame0 z) J.ok fun s5 B5 w5 b5 f5 n5=>?_;refine qaa (fun A=>?_) (fun A=>?_);have he:(readV D n).2≠0:=(by simpa using A);exact aa (by rw[pagerReadM,if_neg C,h];exact (if_neg hu).trans (if_pos he)) (z.trans f5);have he:¬(readV D n).2≠0:=(by simpa using A);have ar:=qbE J.ok n;refine qlw (b5.rds qas (S:=[]) (by simp)) (hv.frame0 (z.trans f5)) ar.1 (by omega) fun s6 B6 w6 b6 f6 n6=>?_;have y:pagerReadM D M n=openV n (readV D n).1:=by rw[pagerReadM,if_neg C,h];exact (if_neg hu).trans (if_neg he)
 have:=hk s6 w6 (fun G hG=>by rw[y];exact Buf.rds qas b6 fun b hb hm=>by have:=n6 b hb;have:=hG b hm;have:=(z.trans f5).size;omega) ((z.trans f5).trans f6)
 rw[y] at this;exact this
end Go.Proofs.YtmmkegapckbomaaGreatDoor
end
section
namespace Go.Proofs.YtmmkegapckbomaaGreatDoor
open Go Go.Pt List
theorem Lim.new{n:Nat}(h:n<=4096):Lim (newM n) 0:=⟨qun h,by simp[newM],by simp[newM]⟩
def pgs (n:Nat):List Int:=(allV n).take (needP (allV n).length)
def nums (n:Nat):List Int:=(allV n).drop (needP (allV n).length)
def madeM (n:Nat):PgM:=begunM (fmtSup n) (pgs n) (nums n) 1 false (nums n)
theorem qub{n:Nat}(h:8<=n)(u:n<=4096):(madeM n).Wf:=by have e:(fmtSup n).2.getD 0 0=n:=(by show IntKind.wrap .u32 (n:Int)=_;exact qaZ _ (by omega));exact qjQ (by rw[e];exact qkr) (by rw[e];omega) (qhM h u).u32
structure Made (D:DiskM) (n:Nat):Prop where
 quiet:Quiet D
 size:D.size=n
 waits:D.waits=[]
 opens:Opens D (fmtSup n) (pgs n) (nums n)
 fmt:formatM (newM n)=(D,0)
 zero:view D 0=zs 512
end Go.Proofs.YtmmkegapckbomaaGreatDoor
end
section
namespace Go.Proofs.YtmmkegapckbomaaGreatDoor
open Go.ChangeShapes Go.WideShapes Go.ChangeAt Go.RowKit Go.Pt
section
variable {H:Type} {enc:TypeId×Value->H} {W:World} {base:Nat} {spare:Nat->Bool} {held:Bool}
theorem qq9:∀n u y,DataW.trod enc Tryz.prog W base spare held n 23 u=some y->∃x:Sl,u=encSl x/\∃l,RdB [] W x l/\IsB l:=by
 intro n u y h;have C:∃s:Sl,u=[s.v]:=by rcases Go.Deep.open_slice (e:=5) (by kernel_rfl) h with ⟨A,_⟩|⟨a,len,cap,m,n',D,G,A,_⟩;exact⟨⟨none,0,0⟩,A⟩;exact⟨⟨some a,len,cap⟩,A⟩
 obtain⟨s,rfl⟩:=C;obtain⟨l,g,e⟩:=qib (P:=Tryz.prog) (t:=23) (e:=5) (s:=s) (k:=1) (encB:=fun n=>[Value.int .u8 n]) (by kernel_rfl) (by kernel_rfl) (by decide) (qnR (k:=.u8) (by kernel_rfl)) h;exact⟨s,rfl,l,g,fun z E=>qq0 (e z E)⟩
theorem qrs{S:List Nat}{w:World}{s:Sl}:∀ {l:List Sl},(∀x∈l,∃r,RdB S w x r/\IsB r)->∃rows:Kps,slsP rows=l/\∀p∈rows,RdB S w p.1 p.2/\IsB p.2
 | [],h=>⟨[],rfl,fun p hp=>nomatch hp⟩
 | x::l,h=>by obtain⟨r,h1,h2⟩:=h x (List.mem_cons_self ..);obtain⟨rows,e,h3⟩:=qrs (s:=s) (l:=l) fun y hy=>h y (zN _ hy);refine⟨(x,r)::rows,by rw[<- e];rfl,fun p hp=>?_⟩;rcases zG.1 hp with rfl|hp;exact⟨h1,h2⟩;exact h3 p hp
theorem qtW{n:Nat}{s:Sl}{y:DataW H×List MemPlace}(h:DataW.trod enc Tryz.prog W base spare held n 22 [s.v]=some y):∃u:Kps,RdK [] W s u/\∀p∈u,IsB p.2:=by obtain⟨l,g,e⟩:=qib (P:=Tryz.prog) (t:=22) (e:=23) (s:=s) (k:=1) (encB:=encSl) (by kernel_rfl) (by kernel_rfl) (by decide) qq9 h;obtain⟨u,C,A⟩:=qrs (s:=s) e;exact⟨u,⟨by rw[C];exact g,fun p z=>(A p z).1⟩,fun p z=>(A p z).2⟩
end
end Go.Proofs.YtmmkegapckbomaaGreatDoor
end
section
namespace Go.Proofs.YtmmkegapckbomaaGreatDoor
open Go Go.Pt List
open Go.IntKind (wrap)
open Classical
def rootTo (t:Int) (s:(Int×Int)×PgM) (u h:Int):Int×PgM:=if s.1.2≠0 then (s.1.2,s.2) else setRootM s.2 t s.1.1 u h
noncomputable def growN (k v:Nat) (t:Int) (r:Int×Int×Int) (x:(Grown×Int)×PgM):Int×PgM:=
 if x.1.2≠0 then (x.1.2,x.2)
 else if x.1.1.other≠0 then rootTo t (storeN k v x.2 0 ⟨false,[x.1.1.key],[],[x.1.1.page,x.1.1.other]⟩) (if x.1.1.fresh then wrap .u32 (r.2.1+1) else r.2.1) (wrap .u32 (r.2.2+1))
 else setRootM x.2 t x.1.1.page (if x.1.1.fresh then wrap .u32 (r.2.1+1) else r.2.1) r.2.2
noncomputable def insertN (D:DiskM) (k v:Nat) (t:Int) (key val:Key) (f:Nat) (M:PgM):Int×PgM:=
 if (rootM M t).1=0 then rootTo t (storeN k v M 0 (lfOf [(key,val)])) 1 1 else growN k v t (rootM M t) (putN D k v key val f M (rootM M t).1)
noncomputable def shrinkN (k v:Nat) (t:Int) (r:Int×Int×Int) (x:(NodeM×Int)×PgM):Int×PgM:=
 if x.1.2≠0 then (x.1.2,x.2)
 else if x.1.1.leaf=true/\x.1.1.keys.length=0 then (if (dropV x.2 r.1).1≠0 then ((dropV x.2 r.1).1,(dropV x.2 r.1).2) else setRootM (dropV x.2 r.1).2 t 0 0 0)
 else if x.1.1.leaf=false/\x.1.1.kids.length=1 then (if (dropV x.2 r.1).1≠0 then ((dropV x.2 r.1).1,(dropV x.2 r.1).2) else setRootM (dropV x.2 r.1).2 t (x.1.1.kids.getD 0 0) (wrap .u32 (r.2.1-1)) (wrap .u32 (r.2.2-1)))
 else rootTo t (storeN k v x.2 r.1 x.1.1) (wrap .u32 (r.2.1-1)) r.2.2
noncomputable def removeN (D:DiskM) (k v:Nat) (t:Int) (key:Key) (f:Nat) (M:PgM):Int×PgM:=shrinkN k v t (rootM M t) (cutN D k v key f M (rootM M t).1)
def TreeIs (D:DiskM) (M:PgM) (k v:Nat) (t:Int) (L:Prs) (P:List Int):Prop:=
 (rootM M t=(0,0,0)/\L=[]/\P=[])\/∃h n p,p≠0/\rootM M t=(p,(L.length:Int),((h+1:Nat):Int))/\Has D M k v h ⟨p,n,L,P⟩
structure RStep (D:DiskM) (M M':PgM) (t:Int) (P P':List Int):Prop where
 step:Step D M { M' with roots:=M.roots } P P'
 wf:M'.Wf
 len:M'.roots.length=24
 others:∀ t':Int,t'≠t->rootM M' t'=rootM M t'
section
variable {D:DiskM} {M M':PgM} {k v:Nat}
theorem qth{t:Int}{a b c:Int}(G:0<=t/\t<8)(A:M.over=false)(I:M.roots.length=24):∃R,setRootM M t a b c=(0,{ M with roots:=R })/\R.length=24/\rootM { M with roots:=R } t=(a,b,c)/\(∀y:Int,y≠t->rootM { M with roots:=R } y=rootM M y)/\∀x∈R,x∈M.roots\/x=a\/x=b\/x=c:=by
 obtain⟨n,rfl⟩:∃n:Nat,t=n:=⟨t.toNat,by omega⟩;have J:n<8:=(by omega);have e:setRootM M n a b c=(0,{ M with roots:=M.roots.take (3*n)++[a,b,c]++M.roots.drop (3*n+3) }):=by rw[setRootM,if_neg (by rw[A];decide),if_neg (by omega),zJ]
 have C:(M.roots.take (3*n)).length=3*n:=(by rw[yK];omega);have h:∀i,(M.roots.take (3*n)++[a,b,c]++M.roots.drop (3*n+3)).getD i 0=if i=3*n then a else if i=3*n+1 then b else if i=3*n+2 then c else M.roots.getD i 0:=fun i=>by rw[zV,yQ];by_cases h1:i<3*n;rw[yY (by omega),xA,if_pos h1,if_neg (by omega),if_neg (by omega),if_neg (by omega),yQ];rw[yX (by omega),C];by_cases h2:i=3*n;rw[if_pos h2,h2,Nat.sub_self];rfl;rw[if_neg h2];by_cases h3:i=3*n+1;rw[if_pos h3,h3,show 3*n+1-3*n=1 by omega];rfl;rw[if_neg h3];by_cases h4:i=3*n+2;rw[if_pos h4,h4,show 3*n+2-3*n=2 by omega];rfl;rw[if_neg h4,yX (by simp;omega),yZ,yQ];congr 2;simp;omega
 refine⟨_,e,?_,?_,fun y z=>?_,fun x u=>?_⟩;simp only[zF,yK,yB,yH,length_nil];omega;rw[rootM,if_neg (by omega),zJ];dsimp only;rw[h,h,h,if_pos rfl,if_neg (by omega),if_pos rfl,if_neg (by omega),if_neg (by omega),if_pos rfl];unfold rootM;by_cases hr':y<0\/y>7;rw[if_pos hr',if_pos hr'];rw[if_neg hr',if_neg hr'];dsimp only;have E:y.toNat≠n:=fun e=>z (by omega);rw[h,h,h,if_neg (by omega),if_neg (by omega),if_neg (by omega),if_neg (by omega),if_neg (by omega),if_neg (by omega),if_neg (by omega),if_neg (by omega),if_neg (by omega)];rcases zD.1 u with u|u;rcases zD.1 u with u|u;exact .inl (yU u);simp only[zG,xU,or_false] at u;exact .inr u;exact .inl (yT u)
theorem qnE{R:List Int}(h:M.Wf)(u:∀x∈R,U32 x):({ M with roots:=R }:PgM).Wf:=⟨h.n4,h.u32,u,h.namedS,h.named,h.freeS,h.defS,h.nodup,h.range,h.body⟩
theorem Has.roots{h:Nat}{s:Seg}{R:List Int}(u:Has D M k v h s):Has D { M with roots:=R } k v h s:=u.frame fun x _=>rfl
theorem Step.root{P P':List Int}{t a b c:Int}(z:0<=t/\t<8)(A:M.roots.length=24)(h:Step D M M' P P')(C:U32 a)(E:U32 b)(G:U32 c): ∃R,setRootM M' t a b c=(0,{ M' with roots:=R })/\RStep D M { M' with roots:=R } t P P'/\rootM { M' with roots:=R } t=(a,b,c):=by obtain⟨R,e,I,J,K,Q⟩:=qth (a:=a) (b:=b) (c:=c) z h.over (by rw[h.roots];exact A);refine⟨R,e,⟨?_,qnE h.wf fun x U=>?_,I,fun V y=>?_⟩,J⟩;have e':({ M' with roots:=M.roots }:PgM)=M':=(by rw[<- h.roots]);show Step D M { M' with roots:=M.roots } P P';rw[e'];exact h;rcases Q x U with u|u|u|u;exact h.wf.roots x u;rw[u];exact C;rw[u];exact E;rw[u];exact G;rw[K V y];unfold rootM;rw[h.roots]
theorem Has.counts:∀ {h:Nat} {s:Seg},Has D M k v h s->h+1<=s.prs.length/\s.pages.length+1<=2*s.prs.length
 | 0,s,y=>by have C:=length_pos_iff.2 y.ne;rw[y.1];simp;omega
 | h+1,s,⟨z,Q,C,E,G,I,R,U,J⟩=>by
  have K:=I.right.innerTwo.1;rw[E,G];have key:∀l:List Ent,(∀e∈l,Has D M k v h e.2)->l.length*(h+1)<=(l.flatMap (·.2.prs)).length/\(l.flatMap (·.2.pages)).length+l.length<=2*(l.flatMap (·.2.prs)).length:=by
   intro l;induction l with
   | nil=>intro _;exact⟨by simp,by simp⟩
   | cons a l ih=>
    intro A;have i:=ih fun e u=>A e (zN _ u);have j:=(A a (by simp)).counts;rw[yG,yG,zF,zF,yH,xQ];omega
  have:=key z fun e u=>(J e u).1
  have V:2*(h+1)<=z.length*(h+1):=Nat.mul_le_mul_right _ K;rw[yH];omega
theorem Has.least(A:CapsOk k v):∀ {h:Nat} {s:Seg},Has D M k v h s->minOf k v h<=s.size->(capsV k v).1 / 2*((capsV k v).2 / 2)^h<=s.prs.length
 | 0,s,C,u=>by rw[Nat.pow_zero,xP,<- C.2.1];exact u
 | h+1,s,⟨z,Q,E,G,R,U,V,h6,I⟩,u=>by
  rw[G];have key:∀l:List Ent,(∀e∈l,Has D M k v h e.2/\minOf k v h<=e.2.size)->l.length*((capsV k v).1 / 2*((capsV k v).2 / 2)^h)<=(l.flatMap (·.2.prs)).length:=by
   intro l;induction l with
   | nil=>intro _;simp
   | cons a l ih=>
    intro y;have i:=ih fun e J=>y e (zN _ J);have j:=(y a (by simp)).1.least A (y a (by simp)).2;rw[yG,zF,yH,xQ];omega
  have K:(capsV k v).2 / 2<=z.length:=(by rw[<- E];exact u);refine zL ?_ (key z I);rw[Nat.pow_succ,<- Nat.mul_assoc,Nat.mul_comm];exact Nat.mul_le_mul_right _ K
theorem Has.root_least(y:CapsOk k v){h:Nat}{s:Seg}(z:Has D M k v (h+1) s):2*((capsV k v).1 / 2*((capsV k v).2 / 2)^h)<=s.prs.length:=by
 obtain⟨A,K,Q,C,R,E,U,V,G⟩:=z;have I:=E.right.innerTwo.1;rw[C];have key:∀l:List Ent,(∀e∈l,Has D M k v h e.2/\minOf k v h<=e.2.size)->l.length*((capsV k v).1 / 2*((capsV k v).2 / 2)^h)<=(l.flatMap (·.2.prs)).length:=by
  intro l;induction l with
  | nil=>intro _;simp
  | cons a l ih=>
   intro u;have i:=ih fun e J=>u e (zN _ J);have j:=(u a (by simp)).1.least y (u a (by simp)).2;rw[yG,zF,yH,xQ];omega
 exact zL (Nat.mul_le_mul_right _ I) (key A G)
theorem qmn(hc:CapsOk k v){t:Int}{key val:Key}{L:Prs}{P:List Int}(ht:0<=t/\t<8)(hk:key.length=k/\IsB key)(hv:val.length=v/\IsB val)(hT:TreeIs D M k v t L P)(hW:M.Wf)(ho:M.over=false)(hr:M.roots.length=24)(hn:P.Nodup)(hL:L.length<=1000000)(hf:2*(rootM M t).2.2.toNat+1<=M.free.length): ∃M' P',insertN D k v t key val (rootM M t).2.2.toNat M=(0,M')/\TreeIs D M' k v t (insP key val L) P'/\RStep D M M' t P P'/\M.free.length<=M'.free.length+(2*(rootM M t).2.2.toNat+1):=by
 have aV:=qfR (k:=k) (v:=v);rcases hT with ⟨e0,rfl,rfl⟩|⟨h,n,p,aH,er,hs⟩;unfold insertN;rw[e0,if_pos rfl];have aI:PrsOk k v [(key,val)]:=fun x hx=>by rw[zE.1 hx];exact⟨hk.1,hv.1,hk.2,hv.2⟩
 have V:=qgl (k:=k) (v:=v) aI (pairwise_singleton _ _) (by simp) (by have:=hc.leaf;simp;omega);obtain⟨q,M1,e1,st,ac,hl,ad⟩:=qhD (D:=D) hW ho V (fun e=>by rw[e] at hf;simp at hf);have hu:=st.has q (by simp);have hq:=qbp st.wf hu;obtain⟨R,e2,rs,y⟩:=st.root (a:=q) (b:=1) (c:=1) ht hr ⟨by omega,hq.2⟩ ⟨by decide,by decide⟩ ⟨by decide,by decide⟩;refine⟨{ M1 with roots:=R },[q],?_,.inr ⟨0,1,q,ad,y,?_⟩,rs,by show M.free.length<=M1.free.length+_;omega⟩;unfold rootTo;rw[e1];dsimp only;rw[if_neg (fun h=>h rfl),e2]
 have:=qeU V ac
 exact this.roots;rw[er] at hf;have al:(((h+1:Nat):Int)).toNat=h+1:=zJ _;dsimp only at hf;rw[al] at hf;have am:=hs.counts;dsimp only at am;obtain⟨g,M1,eg,ok⟩:=qpN hc hk hv h M ⟨p,n,L,P⟩ hs hW ho hn (by
  have h9:=hs.load;obtain⟨N,R,_,V,_⟩:=h9;show n<=1000;cases h with
  | zero=>have:=V.2.2.2.2.2;dsimp only at this;omega
  | succ h=>obtain⟨_,_,_,_,_,_,_,_,h8,_⟩:=V;dsimp only at h8;omega) (by omega)
 have an:=ok.free;have z:=ok.fresh;dsimp only at eg z;have u:((insP key val L).length:Int)=if g.fresh then wrap .u32 ((L.length:Int)+1) else (L.length:Int):=by rw[z];by_cases hm:key∈keysP L;rw[zU (fun h=>h hm),if_neg (by decide),qbB hs.sort hm];rw[zZ hm,if_pos rfl,qaX hm,qaZ _ (by omega)];omega
 have ao:U32 (if g.fresh then wrap .u32 ((L.length:Int)+1) else (L.length:Int)):=by
  rw[<- u];have h1:(insP key val L).length<=L.length+1:=by by_cases hm:key∈keysP L;rw[qbB (show SortP L from hs.sort) hm];omega;rw[qaX hm];exact zM _
  exact⟨by omega,by omega⟩
 unfold insertN;rw[er,if_neg (show ¬p=0 from aH)];dsimp only;rw[al,eg];unfold growN;dsimp only;rw[if_neg (fun h=>h rfl)];rcases ok.res with ⟨af,n',P',hH,st,_⟩|⟨af,n1,J,E,n2,G,C,K,Q,ap,aN,aO,aq,ar,aP,aQ,st⟩;rw[if_neg (fun h=>h af)];have hu:=hH.used st.over g.page hH.mem;have hq:=qbp st.wf hu;obtain⟨R,e2,rs,y⟩:=st.root (a:=g.page) (b:=if g.fresh then wrap .u32 ((L.length:Int)+1) else (L.length:Int)) (c:=((h+1:Nat):Int)) ht hr ⟨by omega,hq.2⟩ ao ⟨by omega,by omega⟩;rw[<- u] at y e2;refine⟨{ M1 with roots:=R },P',?_,.inr ⟨h,n',g.page,by omega,y,hH.roots⟩,rs,by show M.free.length<=M1.free.length+_;omega⟩;rw[<- u];exact e2;rw[if_pos af];have a1:=qbp st.wf (K.used st.over g.page K.mem);have a2:=qbp st.wf (Q.used st.over g.other Q.mem);have au:J≠[]:=K.ne;have av:G≠[]:=Q.ne;have ab:SepE [([],(⟨g.page,n1,J,E⟩:Seg)),(g.key,⟨g.other,n2,G,C⟩)]:=
  (SepE.cut2 (A:=[]) (B:=[]) (lo:=[]) (s:=⟨0,0,J++G,[]⟩) (s1:=⟨g.page,n1,J,E⟩) (s2:=⟨g.other,n2,G,C⟩) (m:=g.key) (qlz fun x _=>qga _) rfl aN aO au av)
 have hp:∀e∈[([],(⟨g.page,n1,J,E⟩:Seg)),(g.key,⟨g.other,n2,G,C⟩)],Has D M1 k v h e.2/\minOf k v h<=e.2.size:=fun e I=>by simp only[zG,xU,or_false] at I;rcases I with rfl|rfl;exact⟨K,aP⟩;exact⟨Q,aQ⟩
 have aR:KeysOk k [([],(⟨g.page,n1,J,E⟩:Seg)),(g.key,⟨g.other,n2,G,C⟩)]:=fun e I=>by rw[zE.1 (show e∈[(g.key,(⟨g.other,n2,G,C⟩:Seg))] from I)];exact⟨aq,ar⟩
 have V:=qdk st.wf st.over aR ab (by simp) (by have:=hc.inner;simp;omega) fun e I=>(hp e I).1;obtain⟨q,M2,e1,U,ac,a3,ad⟩:=qhD (D:=D) st.wf st.over V (fun e=>by rw[e] at an;simp at an;omega);have ax:∀e∈[([],(⟨g.page,n1,J,E⟩:Seg)),(g.key,⟨g.other,n2,G,C⟩)],Has D M2 k v h e.2/\minOf k v h<=e.2.size:=fun e I=>
  ⟨(hp e I).1.frame fun x hx=>(U.rest x ((hp e I).1.used st.over x hx) (by simp)).1,(hp e I).2⟩
 have hI:=qcF (h:=h) rfl V ac ab ax;have ay:Step D M1 M2 (E++C) (q::(E++C)):=by
  have:=U.beside (Z:=E++C) st.has (by simpa using st.nodup)
  exact this.perm (by simp) perm_append_comm
 have az:=st.trans ay;have hq:=qbp U.wf (U.has q (by simp));obtain⟨R,e2,rs,y⟩:=az.root (a:=q) (b:=if g.fresh then wrap .u32 ((L.length:Int)+1) else (L.length:Int)) (c:=((h+1+1:Nat):Int)) ht hr ⟨by omega,hq.2⟩ ao ⟨by omega,by omega⟩;have e3:storeN k v M1 0 ⟨false,[g.key],[],[g.page,g.other]⟩=((q,0),M2):=e1;have aS:wrap .u32 ((((h+1:Nat):Int))+1)=((h+1+1:Nat):Int):=(by rw[qaZ _ (by omega)];omega);rw[<- u] at y e2;refine⟨{ M2 with roots:=R },q::(E++C),?_,.inr ⟨h+1,2,q,ad,y,?_⟩,rs,by show M.free.length<=M2.free.length+_;omega⟩;unfold rootTo;rw[e3,aS,<- u];dsimp only;rw[if_neg (fun h=>h rfl),e2];have h9:=hI.roots (R:=R);have e5:[([],(⟨g.page,n1,J,E⟩:Seg)),(g.key,⟨g.other,n2,G,C⟩)].flatMap (·.2.prs)=insP key val L:=(by rw[<- ap];simp);have e6:[([],(⟨g.page,n1,J,E⟩:Seg)),(g.key,⟨g.other,n2,G,C⟩)].flatMap (·.2.pages)=E++C:=(by simp);rw[e5,e6] at h9;exact h9
theorem qsg(hc:CapsOk k v){t:Int}{key:Key}{L:Prs}{P:List Int}(ht:0<=t/\t<8)(hT:TreeIs D M k v t L P)(C:key∈keysP L)(hW:M.Wf)(ho:M.over=false)(hr:M.roots.length=24)(hn:P.Nodup)(hL:L.length<=1000000)(hf:2*(rootM M t).2.2.toNat+1<=M.free.length): ∃M' P',removeN D k v t key (rootM M t).2.2.toNat M=(0,M')/\TreeIs D M' k v t (cutP key L) P'/\RStep D M M' t P P'/\M.free.length<=M'.free.length+(2*(rootM M t).2.2.toNat+1):=by
 rcases hT with ⟨e0,rfl,rfl⟩|⟨h,n,p,aW,er,hs⟩;cases C;rw[er] at hf;have am:(((h+1:Nat):Int)).toNat=h+1:=zJ _;dsimp only at hf;rw[am] at hf;have an:=hs.counts;dsimp only at an;obtain⟨N,m,M1,R,R',ec,hP,hN,st,aD,aX⟩:=qls hc h M ⟨p,n,L,P⟩ hs hW ho hn C (by omega);dsimp only at ec hP;subst hP;have A:=hs.sort;dsimp only at A;have aQ:(cutP key L).length+1=L.length:=by
  have hm:=(qb4 A).2 C;have hi:placeV (keysP L) key<L.length:=by
   have:=(zP.1 hm).1
   simpa using this
  rw[qlm A C,zF,yK,yB];omega
 have aE:wrap .u32 ((L.length:Int)-1)=((cutP key L).length:Int):=(by rw[qaZ _ (by omega)];omega);have af:U32 ((cutP key L).length:Int):=⟨by omega,by omega⟩;have ag:InUse M p:=hs.used ho p (by simp);have ao:p∉R:=(nodup_cons.1 hn).1;have E:=(st.rest p ag ao).2.1;have G:=(st.rest p ag ao).2.2;have ah:Step D M M1 (p::R) (p::R'):=st.beside (Z:=[p]) (fun x hx=>by rw[zE.1 hx];exact ag) (by simpa using hn);unfold removeN;rw[er];dsimp only;rw[am,ec];unfold shrinkN;dsimp only;rw[if_neg (fun h=>h rfl),aE];have ac:∀ {a b c:Int},U32 a->U32 b->U32 c->∃u I,dropV M1 p=(0,u)/\setRootM u t a b c=(0,{ u with roots:=I })/\RStep D M { u with roots:=I } t (p::R) R'/\rootM { u with roots:=I } t=(a,b,c)/\M1.free.length<=u.free.length/\∀x∈R',pagerReadM D u x=pagerReadM D M1 x:=fun ha hb aF=>by
  obtain⟨u,U,y,J⟩:=qmy (D:=D) st.wf st.over E;have h9:=y.beside (Z:=R') (fun x hx=>st.has x hx) (by
   have:=ah.nodup
   exact (perm_append_singleton p R').nodup_iff.2 this)
  rw[xF] at h9;have h8:=(ah.perm (.refl _) (perm_append_singleton p R').symm).trans h9;obtain⟨I,V,rs,z⟩:=h8.root (t:=t) ht hr ha hb aF;exact⟨u,I,U,V,rs,z,J,fun x hx=>(y.rest x (st.has x hx) (fun hm=>G (by rw[<- zE.1 hm];exact hx))).1⟩
 cases h with
 | zero=>
  have ai:=hN;have aG:R=[]:=(List.cons.inj (show p::R=[p] from hs.1)).2;subst aG;obtain⟨rfl,hm,rfl,a1,aH,ap⟩:=hN;dsimp only at hm;have K:(lfOf (cutP key L)).keys.length=(cutP key L).length:=zK _;by_cases hz:(cutP key L).length=0;rw[if_pos ⟨rfl,by rw[K];exact hz⟩];have aq:cutP key L=[]:=eq_nil_of_length_eq_zero hz;obtain⟨u,I,U,V,rs,z,J,_⟩:=ac (a:=0) (b:=0) (c:=0) ⟨by decide,by decide⟩ ⟨by decide,by decide⟩ ⟨by decide,by decide⟩;rw[U];dsimp only;rw[if_neg (fun h=>h rfl),V];exact⟨_,[],rfl,.inl ⟨z,aq,rfl⟩,rs,by show M.free.length<=u.free.length+_;omega⟩;rw[if_neg (fun h=>hz (by rw[<- K];exact h.2)),if_neg (fun h=>nomatch h.1)];obtain⟨q,u,U,y,H2,J⟩:=ai.store st.wf st.over (show 1<=m by omega) E G (by omega);have aj:Step D M u [p] [q]:=ah.trans y;have hq:=qbp y.wf (y.has q (by simp));obtain⟨I,V,rs,z⟩:=aj.root (a:=q) (b:=((cutP key L).length:Int)) (c:=((0+1:Nat):Int)) ht hr ⟨by omega,hq.2⟩ af ⟨by decide,by decide⟩;refine⟨{ u with roots:=I },[q],?_,.inr ⟨0,m,q,by omega,z,H2.roots⟩,rs,by show M.free.length<=u.free.length+_;omega⟩;unfold rootTo;rw[U];dsimp only;rw[if_neg (fun h=>h rfl),V]
 | succ h=>
  have ai:=hN;obtain⟨es,hh,rfl,hm,aJ,rfl,hk,aH,ap,hp⟩:=hN;have K:(inOf es).kids.length=es.length:=(by show (es.map _).length=_;rw[zK]);have aS:2<=n:=by
   obtain⟨a3,_,g1,_,_,g4,_⟩:=hs
   have:=g4.right.innerTwo
   dsimp only at g1;omega
  dsimp only at aD;rw[if_neg (fun h=>nomatch h.1)];by_cases h1:es.length=1;rw[if_pos ⟨rfl,by rw[K];exact h1⟩];obtain⟨e,rfl⟩:∃e,es=[e]:=by
   match es,h1 with
   | [e],_=>exact⟨e,rfl⟩
  have au:(inOf [e]).kids.getD 0 0=e.2.page:=rfl;rw[au];have he:=(hp e (by simp)).1;have hq:=qbp st.wf (he.used st.over e.2.page he.mem);have aL:wrap .u32 ((((h+1+1:Nat):Int))-1)=((h+1:Nat):Int):=(by rw[qaZ _ (by omega)];omega);rw[aL];obtain⟨u,I,U,V,rs,z,J,aM⟩:=ac (a:=e.2.page) (b:=((cutP key L).length:Int)) (c:=((h+1:Nat):Int)) ⟨by omega,hq.2⟩ af ⟨by omega,by omega⟩;rw[U];dsimp only;rw[if_neg (fun h=>h rfl),V];have av:cutP key L=e.2.prs:=(by rw[aJ];simp);have aw:[e].flatMap (·.2.pages)=e.2.pages:=(by simp);refine⟨_,_,rfl,.inr ⟨h,e.2.size,e.2.page,by omega,z,?_⟩,rs,by show M.free.length<=u.free.length+_;omega⟩;rw[av,aw];exact (he.frame fun x hx=>aM x (by rw[aw];exact hx)).roots;rw[if_neg (fun h=>h1 (by rw[<- K];exact h.2))];have h2:2<=m:=(by omega);obtain⟨q,u,U,y,H2,J⟩:=ai.store st.wf st.over (show 2<=m from h2) E G (by omega);have aj:Step D M u (p::R) ([q]++es.flatMap (·.2.pages)):=Step.kid (Q:=[q]) (hs.used ho) hn st y;have hq:=qbp y.wf (y.has q (by simp));obtain⟨I,V,rs,z⟩:=aj.root (a:=q) (b:=((cutP key L).length:Int)) (c:=((h+1+1:Nat):Int)) ht hr ⟨by omega,hq.2⟩ af ⟨by omega,by omega⟩;refine⟨{ u with roots:=I },[q]++es.flatMap (·.2.pages),?_,.inr ⟨h+1,m,q,by omega,z,H2.roots⟩,rs,by show M.free.length<=u.free.length+_;omega⟩;unfold rootTo;rw[U];dsimp only;rw[if_neg (fun h=>h rfl),V]
end
end Go.Proofs.YtmmkegapckbomaaGreatDoor
end
section
namespace Go.Proofs.YtmmkegapckbomaaGreatDoor
open Go Go.Pt List
open Classical
theorem qa3{D:DiskM}{M:PgM}{k v:Nat}{t:Int}{L:Prs}{P:List Int}(y:TreeIs D M k v t L P):(rootM M t).2.2.toNat<=L.length/\P.length<=2*L.length/\(rootM M t).2.1=L.length/\0<=(rootM M t).2.2:=by
 rcases y with ⟨u,rfl,rfl⟩|⟨h,n,p,A,u,z⟩;rw[u];exact⟨zM _,zM _,rfl,Int.le_refl _⟩
 have:=z.counts
 dsimp only at this;rw[u];dsimp only;rw[zJ];omega
theorem TreeIs.sort{D:DiskM}{M:PgM}{k v:Nat}{t:Int}{L:Prs}{P:List Int}(y:TreeIs D M k v t L P):SortP L/\PrsOk k v L:=by rcases y with ⟨_,rfl,_⟩|⟨h,n,p,A,C,u⟩;exact⟨.nil,fun x z=>nomatch z⟩;exact⟨u.sort,u.prsOk⟩
theorem qpG{t:Int}(h:good t):∃k v:Nat,shp t=((k:Int),(v:Int))/\CapsOk k v/\1<=k/\k<=24/\1<=v/\v<=108:=by obtain⟨u,y⟩:=h;have:t=0\/t=1\/t=2\/t=3\/t=4\/t=5\/t=6\/t=7:=(by omega);rcases this with rfl|rfl|rfl|rfl|rfl|rfl|rfl|rfl;exact⟨16,88,rfl,⟨by decide,by decide⟩,by decide,by decide,by decide,by decide⟩;exact⟨16,108,rfl,⟨by decide,by decide⟩,by decide,by decide,by decide,by decide⟩;exact⟨16,1,rfl,⟨by decide,by decide⟩,by decide,by decide,by decide,by decide⟩;exact⟨16,16,rfl,⟨by decide,by decide⟩,by decide,by decide,by decide,by decide⟩;exact⟨24,16,rfl,⟨by decide,by decide⟩,by decide,by decide,by decide,by decide⟩;exact⟨24,16,rfl,⟨by decide,by decide⟩,by decide,by decide,by decide,by decide⟩;exact⟨24,65,rfl,⟨by decide,by decide⟩,by decide,by decide,by decide,by decide⟩;exact⟨1,8,rfl,⟨by decide,by decide⟩,by decide,by decide,by decide,by decide⟩
structure Sole (D:DiskM) (M:PgM) (k v c:Nat) (t:Int) (L:Prs) (P:List Int):Prop where
 tree:TreeIs D M k v t L P
 wf:M.Wf
 over:M.over=false
 len:M.roots.length=24
 nodup:P.Nodup
 named:M.Named
 many:M.named.length=c
 use:∀ x,InUse M x->x∈P
section
variable {D:DiskM} {M M':PgM} {k v c:Nat} {t:Int} {L L':Prs} {P P':List Int}
theorem Sole.next(h:Sole D M k v c t L P)(z:TreeIs D M' k v t L' P')(u:RStep D M M' t P P'):Sole D M' k v c t L' P' where
 tree:=z
 wf:=u.wf
 over:=u.step.over
 len:=u.len
 nodup:=u.step.nodup
 named:=u.step.Named h.named
 many:=by have:=u.step.named;rw[<- h.many,<- this]
 use:=fun x A=>(u.step.use x A).elim id fun y=>absurd (h.use x y.1) y.2
end
theorem qme{D:DiskM}{n k v:Nat}{t:Int}(K:0<=t/\t<8)(Q:8<=n)(R:n<=4096)(G:(madeM n).Wf):Sole D (madeM n) k v ((n-2)-needP (n-2)) t [] []:=by
 have C:(madeM n).roots=zs 24:=rfl;have u:(zs 24).length=24:=(by simp[zs]);have z:∀i,(zs 24).getD i 0=0:=fun i=>by rw[yQ];unfold zs;rw[List.getElem?_replicate];split<;>rfl
 refine⟨.inl ⟨?_,rfl,rfl⟩,G,rfl,by rw[C];exact u,.nil,qjt _ _ _ _ _,?_,fun x y=>?_⟩;unfold rootM;split;rfl;rw[C,z,z,z];show (nums n).length=_;unfold nums;rw[yB,qdf];rcases y with y|y;cases y;obtain⟨I,E,J,A,U,_⟩:=qaH.1 y;have e:(madeM n).sup.2.getD 0 0=n:=(by show IntKind.wrap .u32 (n:Int)=_;exact qaZ _ (by omega));rw[e] at E;have h:=qc8.2 ⟨I,E⟩;rw[<- xC (needP (allV n).length) (allV n)] at h;rcases zD.1 h with h|h;exact absurd h J;exact absurd h A
section
section
variable {D:DiskM} {M M':PgM} {k v c:Nat} {t:Int} {L L':Prs} {P P':List Int}
theorem Has.pages_lt(E:4<=(capsV k v).1):∀ {h:Nat} {s:Seg},Has D M k v h s->minOf k v h<=s.size->s.pages.length+1<=s.prs.length
 | 0,s,z,A=>by have C:(capsV k v).1 / 2<=s.size:=A;rw[z.2.1] at C;rw[z.1,xI];omega
 | h+1,s,⟨G,R,C,I,J,u,U,V,K⟩,A=>by
  have h8:=u.right.innerTwo.1;rw[I,J];have key:∀l:List Ent,(∀e∈l,Has D M k v h e.2/\minOf k v h<=e.2.size)->(l.flatMap (·.2.pages)).length+l.length<=(l.flatMap (·.2.prs)).length:=by
   intro l;induction l with
   | nil=>intro _;simp
   | cons a l ih=>
    intro y;have i:=ih fun e Q=>y e (zN _ Q);have j:=Has.pages_lt E (y a (by simp)).1 (y a (by simp)).2;rw[yG,yG,zF,zF,yH];omega
  have:=key G K
  rw[yH];omega
theorem Has.pages_le(A:4<=(capsV k v).1){h:Nat}{s:Seg}(u:Has D M k v h s):s.pages.length<=s.prs.length:=by
 cases h with
 | zero=>
  have:=length_pos_iff.2 u.ne
  rw[u.1,xI];omega
 | succ h=>
  obtain⟨C,K,Q,E,G,y,R,U,I⟩:=u;have V:=y.right.innerTwo.1;rw[E,G];have key:∀l:List Ent,(∀e∈l,Has D M k v h e.2/\minOf k v h<=e.2.size)->(l.flatMap (·.2.pages)).length+l.length<=(l.flatMap (·.2.prs)).length:=by
   intro l;induction l with
   | nil=>intro _;simp
   | cons a l ih=>
    intro z;have i:=ih fun e J=>z e (zN _ J);have j:=Has.pages_lt A (z a (by simp)).1 (z a (by simp)).2;rw[yG,yG,zF,zF,yH];omega
  have:=key C I
  rw[yH];omega
theorem TreeIs.pages_le(u:4<=(capsV k v).1)(y:TreeIs D M k v t L P):P.length<=L.length:=by rcases y with ⟨z,rfl,rfl⟩|⟨h,n,p,C,z,A⟩;exact zM _;exact A.pages_le u
theorem Sole.room3(h:Sole D M k v c t L P)(u:4<=(capsV k v).1)(A:3*L.length+1<=c):2*(rootM M t).2.2.toNat+1<=M.free.length:=by have y:=h.named.length_eq;rw[zF,h.many] at y;have C:(M.fresh.map (·.1)).length<=P.length:=List.Nodup.length_le_of_subset h.wf.keysNodup fun x z=>h.use x (.inl z);have E:=h.tree.pages_le u;have G:=(qa3 h.tree).1;omega
theorem Sole.insert3{key val:Key}(h:Sole D M k v c t L P)(u:CapsOk k v)(y:4<=(capsV k v).1)(z:0<=t/\t<8)(A:key.length=k/\IsB key)(C:val.length=v/\IsB val)(E:3*L.length+1<=c)(J:L.length<=100000): ∃M' P',insertN D k v t key val (rootM M t).2.2.toNat M=(0,M')/\Sole D M' k v c t (insP key val L) P':=by obtain⟨M',P',e,G,I,_⟩:=qmn u z A C h.tree h.wf h.over h.len h.nodup (by omega) (h.room3 y E);exact⟨M',P',e,h.next G I⟩
end
end
end Go.Proofs.YtmmkegapckbomaaGreatDoor
end
