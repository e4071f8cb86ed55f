/- Conditions: those that stand in each line. -/
import Derived.Test.YtgjidjnaigkdfaaGreatDoorCTV3
import Derived.Test.YtgjidjnaigkdfaaGreatDoorCTV1
import Derived.Laws.IdiomStrings
import Derived.Laws.BytesString
set_option linter.unusedVariables false
set_option linter.unusedSimpArgs false
namespace Go.Proofs.YtgjidjnaigkdfaaGreatDoor
open Go Go.Pt
attribute [local irreducible] ld ldA ldV fld fldA newZ st new idx idxS idxA slc slcS slcP mkS chk nn call callV inv run runQ runU join loop held ext rng undefer s2a nxt ent IntKind.wrap
open Go.Proofs.Tryz (prog)
section
open Go Go.Pt List
open Go.IntKind (wrap)
variable {D:DiskM} {F F1 FD S:List Nat} {K:Int->WP} {M:PgM} {a b body l named numbers pages roots:List Int} {db:Option Addr} {f:DiskM->DiskM×Int} {k:Nat} {n:Int} {next:Sup} {r:DiskM×Int} {s:Sl} {u w:World}
structure Lim (D:DiskM) (k:Nat):Prop where
 ok:D.Ok
 waits:D.waits.length<=k
 writes:D.writes<=k
theorem qrJ(h:D.Ok):(actM D).1.Ok/\(actM D).1.writes=D.writes:=by have u:=h.fuse;unfold actM;split;exact⟨⟨h.at_,u,h.safe,h.waits,h.writes,h.bytesS,h.bytesW⟩,rfl⟩;split;exact⟨⟨h.at_,⟨by show -1<=D.fuse-1;omega,by show D.fuse-1<=_;omega⟩,h.safe,h.waits,h.writes,h.bytesS,h.bytesW⟩,rfl⟩;exact⟨h,rfl⟩
theorem Lim.mono{k':Nat}(h:Lim D k)(u:k<=k'):Lim D k':=⟨h.ok,zL h.waits u,by have:=h.writes;omega⟩
theorem Lim.write(h:Lim D k)(G:k<1000000)(z:IsB l):Lim (writeM D n l).1 (k+1):=by
 unfold writeM;split;exact h.mono oJ;split;exact h.mono oJ;split;rename_i I J y;have A:(addW D n ⟨l,y⟩).Ok:={
  at_:=fun x u=>by rcases zD.1 u with u|u;exact h.ok.at_ x u;simp at u;subst u;show 0<=n/\n<(D.safe.length:Int);omega
  fuse:=h.ok.fuse
  safe:=h.ok.safe
  waits:=by show (D.waits++[_]).length<=_;have:=h.waits;simp;omega
  writes:=⟨by show 0<=D.writes+1;have:=h.ok.writes;omega,by show D.writes+1<=_;have:=h.writes;omega⟩
  bytesS:=h.ok.bytesS
  bytesW:=fun x u=>by rcases zD.1 u with u|u;exact h.ok.bytesW x u;simp at u;subst u;exact z }
 obtain⟨C,E⟩:=qrJ A;refine⟨C,?_,?_⟩;show (actM (addW D n ⟨l,y⟩)).1.waits.length<=k+1;rw[(qcP _).2];show (D.waits++[_]).length<=_
 have:=h.waits
 simp;omega;show (actM (addW D n ⟨l,y⟩)).1.writes<=((k+1:Nat):Int);rw[E];show D.writes+1<=_
 have:=h.writes
 omega;exact h.mono oJ
theorem qr8:∀(l:List (Int×Blk)) (s:List Blk),(∀x∈l,IsB x.2.1)->(∀b∈s,IsB b.1)->∀b∈l.foldl laySafe s,IsB b.1
 | [],s,_,h=>h
 | x::l,s,z,h=>qr8 l (laySafe s x) (fun y A=>z y (zN _ A)) fun b u=>by rcases mem_or_eq_of_mem_set u with u|rfl;exact h b u;exact z x oL
theorem Lim.sync(h:Lim D k):Lim (syncM D).1 k:=by obtain⟨u,z⟩:=qrJ h.ok;unfold syncM;split;exact h;split;exact⟨u,by show (actM D).1.waits.length<=k;rw[(qcP D).2];exact h.waits,by show (actM D).1.writes<=_;rw[z];exact h.writes⟩;refine⟨⟨(fun x y=>by cases y),u.fuse,?_,oL,u.writes,?_,(fun x y=>by cases y)⟩,oL,by show (actM D).1.writes<=_;rw[z];exact h.writes⟩;show (D.waits.foldl laySafe D.safe).length<=4096;rw[qcC];exact h.ok.safe;exact qr8 _ _ h.ok.bytesW h.ok.bytesS
theorem Lim.then{k':Nat}(h:Lim r.1 k)(u:k<=k')(y:∀D,Lim D k->Lim (f D).1 k'):Lim (andThen r f).1 k':=by unfold andThen;split;exact y _ h;exact h.mono u
theorem Lim.writes':∀ {l:List (Int×List Int)} {D:DiskM} {k:Nat},Lim D k->k+l.length<=1000000->(∀x∈l,IsB x.2)->Lim (writesM l D).1 (k+l.length)
 | [],D,k,h,_,_=>h
 | x::l,D,k,h,z,u=>by
  rw[yH] at z⊢;refine Lim.then (k:=k+1) (h.write oJ (u x oL)) oJ fun D' A=>?_
  have:=Lim.writes' (l:=l) A oJ (fun y C=>u y (zN _ C))
  rw[Nat.add_right_comm] at this;exact this
theorem qil:(writeM D n l).1.safe.length=D.safe.length:=by unfold writeM;split;rfl;split;rfl;split;show (actM _).1.safe.length=_;rw[(qcP _).1];rfl;rfl
theorem qoz:(syncM D).1.safe.length=D.safe.length:=by unfold syncM;split;rfl;split;show (actM _).1.safe.length=_;rw[(qcP _).1];show (D.waits.foldl laySafe D.safe).length=_;rw[qcC]
theorem qoA{n:Nat}(h:r.1.safe.length=n)(u:∀D:DiskM,D.safe.length=n->(f D).1.safe.length=n):(andThen r f).1.safe.length=n:=by unfold andThen;split;exact u _ h;exact h
theorem qk5:∀ {l:List (Int×List Int)} {D:DiskM},(writesM l D).1.safe.length=D.safe.length
 | [],D=>rfl
 | x::l,D=>qoA qil fun D' h=>by rw[qk5,h]
theorem qrv:(spreadM D a b).1.safe.length=D.safe.length:=by unfold spreadM;split;rfl;exact qoA qk5 fun D' h=>by rw[qoz,h]
theorem qrx:∀x∈(pages.zip (bodiesV numbers pages).1).map fun x=>(x.1,sealV x.1 2 x.2),IsB x.2:=by intro x u;obtain⟨y,h,rfl⟩:=mem_map.1 u;refine qc6 oM ?_;have h:=(of_mem_zip h).2;unfold bodiesV at h;split at h;cases h;split at h;cases h;obtain⟨i,_,z⟩:=mem_map.1 h;rw[<- z];exact qnP _ _
theorem qm8{α β:Type}(a:List α)(b:List β):(a.zip b).length<=a.length:=by rw[length_zip];exact Nat.min_le_left _ _
theorem Lim.spread(h:Lim D k)(z:k+pages.length<=1000000):Lim (spreadM D numbers pages).1 (k+pages.length):=by
 unfold spreadM;split;exact h.mono oJ;have u:=qm8 pages (bodiesV numbers pages).1;refine Lim.then (k:=k+pages.length) ?_ (zM _) fun D' y=>y.sync
 refine (Lim.writes' h (by rw[zK];omega) qrx).mono ?_;rw[zK];omega
theorem qm0(s:Sup):IsB (superP s).2:=qc6 oM (qts _ _)
theorem Lim.sealOk{s:Sup}(h:Lim D k)(u:k<1000000):Lim (sealM D s).1 (k+1):=
 Lim.then (h.write u (qm0 s)) (zM _) fun D' y=>y.sync
theorem qo3{numbers pages:List Int}{i:Nat}{h:List (List Int)}(u:i<pages.length)(y:i<h.length):(pages.zip h).drop i=(pages[i],h[i])::(pages.zip h).drop (i+1):=by rw[zX (by rw[length_zip];omega)];simp
theorem qsq{dbk:Nat}{sn sp:Sl}(h:DiskAt w dbk FD D)(hD:Lim D k)(aQ:k+pages.length<=1000000)(hv:Hv w)(hg:HG∉FD)(hn:Rd FD w sn numbers)(hp:Rd FD w sp pages)(av:numbers.length<=100000)(aw:pages.length<=100000)(ax:∀x∈pages,U32 x)(V:∀F' w',DiskAt w' dbk F' (spreadM D numbers pages).1->Fr FD w w'->(∀b∈F',b∈FD\/w.heap.size<=b)->K (spreadM D numbers pages).2 w'): cW 84 [.pointer (pW dbk),sn.v,sp.v] [.one .i] w K:=by
 refine qmL ?_;unfold qiB;refine qsk (G:=FD) hn hp av aw h.lt fun s1 B1 w1 b1 f1 n1=>?_;apply qaa<;>intro z;have z:(bodiesV numbers pages).2≠0:=by simpa using z
 have:=V FD w1 (by rw[spreadM,if_pos z];exact h.frame0 f1) (f1.mono fun b u=>by cases u) (fun b u=>.inl u)
 rw[spreadM,if_pos z] at this;exact this;have C:¬(bodiesV numbers pages).2≠0:=(oP z);rw[spreadM,if_neg C] at V;have J:(bodiesV numbers pages).1.length=pages.length/\∀b∈(bodiesV numbers pages).1,b.length<=500/\IsB b:=by
  unfold bodiesV at C⊢;split;rename_i h1;rw[if_pos h1] at C;exact absurd oM C;rename_i h1;rw[if_neg h1] at C;split;rename_i h1;rw[if_pos h1] at C;exact absurd oM C;refine⟨qgG _ _ _,fun b u=>?_⟩;obtain⟨i,_,rfl⟩:=mem_map.1 u;rw[qf0]
  have:=qi6 numbers i
  unfold chunk at this;exact⟨oJ,qnP _ _⟩
 generalize (bodiesV numbers pages).1=A at V J b1;obtain⟨I,q1,q2,q3⟩:=b1;have aW:=q1.len;have aM:=J.1;have aX:=hp.1;refine qag (fun x w'=>∃(i j:Nat) (F':List Nat) (D':DiskM),x=i/\i<=pages.length/\DiskAt w' dbk F' D'/\Lim D' (k+i)/\Fr FD w w'/\Fr FD w1 w'/\(∀b∈F',b∈FD\/w1.heap.size<=b)/\
   andThen (writesM ((pages.zip A).map fun x=>(x.1,sealV x.1 2 x.2)) D) syncM=andThen (writesM (((pages.zip A).drop i).map fun x=>(x.1,sealV x.1 2 x.2)) D') syncM) (fun x _=>((pages.length:Int)-x).toNat)
  ⟨0,0,FD,D,rfl,oJ,h.frame0 f1,hD,f1.mono (fun b u=>by cases u),.refl _ _,fun b u=>.inl u,rfl⟩ ?_
 rintro x w2 ⟨i,j,F',D',rfl,hi,ag,ab,f2,O,n2,he⟩ X hX;have ay:=hv.frame f2 hg;have aZ:=f1.size;apply qaa<;>intro z;have Q:i<pages.length:=(by have:=zC z;dsimp only at this;omega);have R:i<A.length:=oJ;have ai:i<I.length:=oJ;have az:Rds encS 1 FD w1 s1 I:=q1.rds qpD (fun b u hm=>by have:=h.lt b hm;have:=n1 b u;omega);have aj:Rds encS 1 FD w2 s1 I:=az.frame O (fun b u=>.inl u);have ak:Rd FD w2 sp pages:=hp.frame f2 (fun b u=>.inl u);refine Rds.get (y:=I[i]) aj i rfl (zA ai) rfl<|Rd.at ak i rfl (zA Q) ?_;have al:RdB FD w1 I[i] A[i]:=(q3 i _ _ (zA ai) (zA R)).weak fun b u=>.inl (zH _ u);have ac:RdB FD w2 I[i] A[i]:=al.frame O (fun b u=>.inl u);have aA:=(J.2 _ (zW R)).1;have a1:=ax _ (zW Q);refine qnz ac ay oJ (fun h=>oJ) fun _ b3 T3 w3 c3 f3 n3=>Rd.at (ak.frame0 f3) i rfl (zA Q) ?_;rw[wi' pages[i] oJ];have U:=qck (number:=pages[i]) (kind:=2) aA;refine qnK (S:=[]) (ag.frame0 f3) ab.ok (qfa (o:=0) (n:=512) c3 (by rw[U];exact zM _) (zM _)) fun F4 w4 d4 f4 n4=>?_;rw[xD,zS (by rw[U];exact zM _)] at d4⊢;have E:∀b∈F',b∈FD\/w.heap.size<=b:=fun b u=>by rcases n2 b u with h|h;exact .inl h;exact .inr oJ
 have a4:w2.heap.size<=w3.heap.size:=f3.size;have a5:=O.size;have am:Fr FD w w4:=(f2.trans' f3 oL).trans' f4 E;have aF:Fr FD w1 w4:=(O.trans' f3 oL).trans' f4 n2;have an:∀b∈F4,b∈FD\/w1.heap.size<=b:=fun b u=>by rcases n4 b u with h|h;exact n2 b h;exact .inr oJ
 rw[qo3 Q R (numbers:=numbers),xK,writesM] at he;apply qaa<;>intro z;have z:(writeM D' pages[i] (sealV pages[i] 2 A[i])).2≠0:=(oP z);have aG:andThen (writesM ((pages.zip A).map fun x=>(x.1,sealV x.1 2 x.2)) D) syncM=writeM D' pages[i] (sealV pages[i] 2 A[i]):=by rw[he];show andThen (andThen (writeM D' pages[i] (sealV pages[i] 2 A[i])) _) syncM=_;rw[show ∀f,andThen (writeM D' pages[i] (sealV pages[i] 2 A[i])) f=writeM D' pages[i] (sealV pages[i] 2 A[i]) from fun f=>if_neg z];exact if_neg z
 rw[aG] at V;exact V F4 w4 d4 am (fun b u=>by rcases an b u with h|h;exact .inl h;exact .inr oJ);have z:(writeM D' pages[i] (sealV pages[i] 2 A[i])).2=0:=(oP z);rw[wi' _ oJ];refine hX _ _ ⟨i+1,0,F4,(writeM D' pages[i] (sealV pages[i] 2 A[i])).1,oL,oJ,d4,?_,am,aF,an,?_⟩ oJ
 have:=ab.write (n:=pages[i]) (l:=sealV pages[i] 2 A[i]) oJ (qc6 oM (J.2 _ (zW R)).2)
 rw[Nat.add_assoc] at this;exact this;rw[he];show andThen (andThen (writeM D' pages[i] (sealV pages[i] 2 A[i])) _) syncM=_;rw[show ∀f,andThen (writeM D' pages[i] (sealV pages[i] 2 A[i])) f=f (writeM D' pages[i] (sealV pages[i] 2 A[i])).1 from fun f=>if_pos z];have:i=pages.length:=(by have:=zB z;dsimp only at this;omega);subst this;have aH:(pages.zip A).drop pages.length=[]:=xZ (qm8 _ _);rw[aH] at he;have aI:andThen (writesM ((pages.zip A).map fun x=>(x.1,sealV x.1 2 x.2)) D) syncM=syncM D':=he;rw[aI] at V;refine qpa ag ab.ok fun F3 w3 d3 f3 n3=>?_;have E:∀b∈F',b∈FD\/w.heap.size<=b:=fun b u=>by rcases n2 b u with h|h;exact .inl h;exact .inr oJ
 exact V F3 w3 d3 (f2.trans' f3 E) fun b u=>E b (n3 b u)
section
structure DS (dbk:Nat) (w:World) (FD:List Nat) (w':World) (F':List Nat) (D':DiskM) (k:Nat):Prop where
 at_:DiskAt w' dbk F' D'
 lim:Lim D' k
 fr:Fr FD w w'
 nw:∀ b∈F',b∈FD\/w.heap.size<=b
variable {dbk:Nat}
theorem DS.refl{w:World}{FD:List Nat}{D:DiskM}{k:Nat}(h:DiskAt w dbk FD D)(u:Lim D k):DS dbk w FD w FD D k:=⟨h,u,.refl _ _,fun b y=>.inl y⟩
theorem DS.trans{y z:World}{F2:List Nat}{C A:DiskM}{E k2:Nat}(h:DS dbk w FD y F1 C E)(g:DS dbk y F1 z F2 A k2):DS dbk w FD z F2 A k2:=
 ⟨g.at_,g.lim,h.fr.trans' g.fr h.nw,fun b G=>by rcases g.nw b G with u|u;exact h.nw b u;exact .inr (zL h.fr.size u)⟩
theorem DS.frame0{w u y:World}{FD F1:List Nat}{z:DiskM}{A:Nat}(h:DS dbk w FD u F1 z A)(f:Fr [] u y):DS dbk w FD y F1 z A:=
 ⟨h.at_.frame0 f,h.lim,h.fr.trans' f oL,h.nw⟩
theorem DS.hv{C:DiskM}{E:Nat}(h:DS dbk w FD u F1 C E)(y:Hv w)(z:HG∉FD):Hv u/\HG∉F1:=
 ⟨y.frame h.fr z,fun G=>by
  rcases h.nw _ G with A|A;exact z A
  have:=y.lt;omega⟩
theorem DS.rd{y:DiskM}{z:Nat}(h:DS dbk w FD u F1 y z)(A:Rd FD w s l):Rd F1 u s l:=A.frame h.fr h.nw
theorem DS.lims{y:DiskM}{z k2:Nat}(h:DS dbk w FD u F1 y z)(A:z<=k2):DS dbk w FD u F1 y k2:=⟨h.at_,h.lim.mono A,h.fr,h.nw⟩
theorem qfX(h:DS dbk w FD u F1 D k)(E:k<1000000)(G:RdB S u s l)(I:IsB l)(J:∀y z,DS dbk w FD y z (writeM D n l).1 (k+1)->Fr F1 u y->(∀b∈z,b∈F1\/u.heap.size<=b)->K (writeM D n l).2 y): cW 56 [.pointer (pW dbk),.i n,s.v] [.one .i] u K:=by exact qnK h.at_ h.lim.ok G fun z y O A C=>J y z (h.trans ⟨O,h.lim.write E I,A,C⟩) A C
theorem qo9{y:World}(h:DS dbk w FD y F1 D k)(G:∀u z,DS dbk w FD u z (syncM D).1 k->Fr F1 y u->(∀b∈z,b∈F1\/y.heap.size<=b)->K (syncM D).2 u): cW 101 [.pointer (pW dbk)] [.one .i] y K:=by exact qpa h.at_ h.lim.ok fun z u I C E=>G u z (h.trans ⟨I,h.lim.sync,C,fun b A=>.inl (E b A)⟩) C (fun b A=>.inl (E b A))
theorem qpi{z:World}{s:Sup}(h:DS dbk w FD z F1 D k)(hk:k<1000000)(hv:Hv z)(O:s.2.length=27)(hq:0<=s.1)(E:∀G U,DS dbk w FD G U (sealM D s).1 (k+1)->Fr F1 z G->(∀b∈U,b∈F1\/z.heap.size<=b)->K (sealM D s).2 G): cW 85 [.pointer (pW dbk),.agg (supV s.1 s.2).toArray] [.one .i] z K:=by
 refine qoV ?_;unfold qkZ;refine oB (oE [] z) fun r G e2 f2 I=>?_;have V:(supV s.1 s.2).toArray[0]?=some (.int .u64 s.1):=rfl;refine oA I.drew 0 rfl s.1 V<|qeX (I.drew.at (i:=0) rfl) O<|qtI (hv.frame0 I.drew.fr) O fun b T w3 c3 f3 n3=>?_;have u:=I.drew.frame0 f3;refine qaj (u.cell 0 rfl V) ?_;have ht:=Int.tmod_eq_emod_of_nonneg (b:=2) hq;rw[wi' (Int.tmod s.1 2) oJ];have y:(sealV (wrap .u32 (Int.tmod s.1 2)) 1 (superB s.1 s.2)).length=512:=qck (by rw[qcw O];decide);have Q:RdB [] w3 ⟨pW b,512,512⟩ (superP s).2:=by
  have:=qfa (S:=[]) (o:=0) (n:=512) (cap:=512) c3 (by rw[y];exact zM _) (zM _)
  rw[xD,zS (Nat.le_of_eq y)] at this;exact this
 show cW 56 [.pointer (pW dbk),.i (superP s).1,_] _ _ _;refine qfX (h.frame0 u.fr) hk Q (qm0 s) fun w4 F4 J f4 n4=>?_;have al:=u.fr.size;apply qaa<;>intro A;have A:(writeM D (superP s).1 (superP s).2).2≠0:=(oP A);have e:sealM D s=writeM D (superP s).1 (superP s).2:=if_neg A;rw[e] at E;exact E w4 F4 J ((u.fr.mono fun b C=>by cases C).trans f4) fun b C=>by rcases n4 b C with h|h;exact .inl h;exact .inr oJ
 have A:(writeM D (superP s).1 (superP s).2).2=0:=(oP A);have e:sealM D s=syncM (writeM D (superP s).1 (superP s).2).1:=if_pos A;rw[e] at E;refine qo9 J fun w5 F5 R f5 n5=>?_;have g4:DS dbk z F1 w4 F4 (writeM D (superP s).1 (superP s).2).1 (k+1):=⟨J.at_,J.lim,(u.fr.mono (T:=F1) fun b C=>by cases C).trans f4,fun b C=>by rcases n4 b C with h|h;exact .inl h;exact .inr oJ⟩;have g5:=g4.trans ⟨R.at_,R.lim,f5,n5⟩;exact E w5 F5 R g5.fr g5.nw
theorem ql2{sn I:Sl}(h:DS dbk w FD u F1 D k)(y:k+pages.length<=1000000)(Q:Hv u)(R:HG∉F1)(U:Rd F1 u sn numbers)(V:Rd F1 u I pages)(C:numbers.length<=100000)(E:pages.length<=100000)(G:∀x∈pages,U32 x)(kk:∀z A,DS dbk w FD z A (spreadM D numbers pages).1 (k+pages.length)->Fr F1 u z->(∀b∈A,b∈F1\/u.heap.size<=b)->K (spreadM D numbers pages).2 z): cW 84 [.pointer (pW dbk),sn.v,I.v] [.one .i] u K:=by exact qsq h.at_ h.lim y Q R U V C E G fun A z d2 J O=>kk z A (h.trans ⟨d2,h.lim.spread y,J,O⟩) J O
theorem qiq(a:DiskM×Int)(f g:DiskM->DiskM×Int):andThen (andThen a f) g=andThen a fun D=>andThen (f D) g:=by unfold andThen;by_cases h:a.2=0;rw[if_pos h,if_pos h];rw[if_neg h,if_neg h,if_neg h]
theorem qbX{a:DiskM×Int}(h:a.2≠0):andThen a f=a:=if_neg h
theorem qcn{a:DiskM×Int}(h:a.2=0):andThen a f=f a.1:=if_pos h
theorem qsy{a b c:Int}(w:World):(Instr.build 92 #[(0,.int .u64 1),(1,.u a),(2,.u b),(3,.u c)]).run prog w=.ok (.agg (supV 1 ([a,b,c]++zs 24)).toArray) w:=by obtain⟨z,A,h⟩:=yS.1 qfE;have y:z.cells=(supV 0 (zs 27)).toArray:=(by rw[<- h]);refine qc5 (parts:=[(0,.int .u64 1),(1,.u a),(2,.u b),(3,.u c)]) (offs:=#[(0,1),(1,1),(2,1),(3,1),(4,24)]) A oK (fun w=>oK) ?_ w;rw[y,qaF (o:=0) (s:=1) rfl rfl (zO rfl),qaF (o:=1) (s:=1) rfl rfl (zO rfl),qaF (o:=2) (s:=1) rfl rfl (zO rfl),qaF (o:=3) (s:=1) rfl rfl (zO rfl)];rfl
theorem qso(h:DiskAt w dbk FD D)(hl:Lim D k)(hk:k<=900000)(h8:2<=D.safe.length)(hv:Hv w)(hg:HG∉FD)(y:∀w' F',DS dbk w FD w' F' (formatM D).1 (k+5000)->K (formatM D).2 w'): cW 62 [.pointer (pW dbk)] [.one .i] w K:=by
 refine qmJ ?_;unfold qiz;have ag:=hl.ok.safe;have h0:=DS.refl h hl;have A:(zs 512).length=512:=qaK _;have I:∀ {S0:List Nat} {w0 w':World} {L:List (Nat×Obj)} {b:Nat} {T:TypeId},Own S0 w0 w' ((b,.cells (List.replicate (512:Int).toNat (Value.int .u8 0)).toArray T (0,0))::L)->RdB [] w' ⟨pW b,(512:Int).toNat,(512:Int).toNat⟩ (zs 512):=fun ho=>by
  have z:=ho.at (i:=0) rfl;rw[qqU] at z
  have:=qfa (S:=[]) (o:=0) (n:=512) (cap:=512) z (by rw[show (512:Int).toNat=512 from rfl,A];exact zM _) (zM _)
  rw[xD,zS (by rw[show (512:Int).toNat=512 from rfl,A];exact zM _)] at this;exact this
 refine qc0 fun X hX=>cond_true rfl<|Own.mk1 (oE [] w) oM oM oM oM fun b1 w1 e1 J=>qfX (h0.frame0 J.fr) oJ (I J) (IsB.zs 512) fun w2 F2 d2 f2 n2=>?_;apply qaa<;>intro u;have u:(writeM D 0 (zs 512)).2≠0:=(oP u);have e:formatM D=writeM D 0 (zs 512):=qbX u;rw[e] at y;exact y w2 F2 (d2.lims oJ);have ai:(writeM D 0 (zs 512)).2=0:=(oP u);rw[formatM,qcn ai] at y;have aj:=qil (D:=D) (n:=0) (l:=zs 512);generalize (writeM D 0 (zs 512)).1=D2 at d2 y aj;rw[wi' (0+1) oM];refine hX _ _ (qoc 1 rfl fun X hX=>?_);refine cond_true rfl<|Own.mk1 (oE [] w2) oM oM oM oM fun b3 w3 e3 O=>qfX (d2.frame0 O.fr) oJ (I O) (IsB.zs 512) fun w4 F4 d4 f4 n4=>?_;apply qaa<;>intro u;have u:(writeM D2 1 (zs 512)).2≠0:=(oP u);rw[qbX u] at y;exact y w4 F4 (d4.lims oJ);have am:(writeM D2 1 (zs 512)).2=0:=(oP u);rw[qcn am] at y;have an:=qil (D:=D2) (n:=1) (l:=zs 512);generalize (writeM D2 1 (zs 512)).1=D4 at d4 y an;rw[wi' (1+1) oM];refine hX _ _ (qoc 2 rfl fun X hX=>?_);refine cond_false rfl<|qo9 d4 fun w5 F5 Q f5 n5=>?_;apply qaa<;>intro u;have u:(syncM D4).2≠0:=(oP u);rw[qbX u] at y;exact y w5 F5 (Q.lims oJ);have aq:(syncM D4).2=0:=(oP u);rw[qcn aq] at y;have ar:=qoz (D:=D4);generalize (syncM D4).1=R at Q y ar;have au:R.safe.length=D.safe.length:=oJ;have al:=qhJ D.safe.length;obtain⟨av,aw⟩:=Q.hv hv hg;refine qag (fun x w'=>∃(i:Nat) (B:List Nat),x.2=((i+2:Nat):Int)/\i<=D.safe.length-2/\BufU w' x.1 ((allV D.safe.length).take i) B/\Fr [] w5 w'/\∀b∈B,w5.heap.size<=b) (fun x _=>((D.safe.length:Int)-x.2).toNat)
  ⟨0,[],rfl,oJ,.nil _ _ _,.refl _ _,oL⟩ ?_
 rintro⟨s,x⟩ w6 ⟨i,B,hx,hi,z,f6,n6⟩ Y hY;simp only at hx z;subst hx;have d6:=Q.frame0 f6;refine qiZ d6.at_ ?_;dsimp only;apply qaa<;>intro u;have ay:i<D.safe.length-2:=(by have:=zC u;omega);rw[qaQ ((i+2:Nat):Int)];refine pushU z (by rw[yK];omega) fun s7 B7 w7 b7 f7 n7=>?_;rw[wi' _ oJ];refine hY _ _ ⟨i+1,B7,by simp;omega,oJ,?_,f6.trans' f7 (fun b z=>.inr (n6 b z)),fun b z=>?_⟩ oN;have e:(allV D.safe.length).take (i+1)=(allV D.safe.length).take i++[((i+2:Nat):Int)]:=by rw[yF oJ];congr 2;have h1:=qrK ay;have h2:=zA (l:=allV D.safe.length) (i:=i) oJ;rw[h2] at h1;rw[yN h1];simp
 rw[e];exact b7;rcases n7 b z with h|h;exact n6 b h;exact zL f6.size h;have az:i=D.safe.length-2:=(by have:=zB u;omega);subst az;rw[zS oJ] at z;have aA:=z.len;rw[aA];refine qpb oJ ?_;have U:=qlA (n:=(allV D.safe.length).length);have V:∀b∈B,b∉F5:=fun b z hm=>by have:=n6 b z;have:=Q.at_.lt b hm;omega
 have C:Rd F5 w6.drew s (allV D.safe.length):=(z.frame0 (Fr.refl [] w6).drew).rds qaE V;refine Rds.part (k:=1) C (needP (allV D.safe.length).length) (allV D.safe.length).length rfl (by show (s.len:Int)=_;omega) U (zM _) fun sn a0 rn _=>Rds.part (k:=1) C 0 (needP (allV D.safe.length).length) rfl rfl oJ U fun sp a1 rp _=>?_;rw[xX] at rn;rw[xD] at rp;have aB:=d6.frame0 (Fr.refl [] w6).drew;have aC:=(av.frame0 f6).frame0 (Fr.refl [] w6).drew;rw[au] at y;refine ql2 aB (by rw[yK];omega) aC aw rn rp (by rw[yB];omega) (by rw[yK];omega) (fun x hx=>by
  have:=qhK.1 (yU hx)
  constructor<;>omega) fun w7 F7 E f7 n7=>?_
 have E:=E.lims (k2:=k+2+4096) (by rw[yK];omega);apply qaa<;>intro u;have u:(spreadM R ((allV D.safe.length).drop (needP (allV D.safe.length).length)) ((allV D.safe.length).take (needP (allV D.safe.length).length))).2≠0:=(oP u);rw[qbX u] at y;exact y w7 F7 (E.lims oJ);have aD:(spreadM R ((allV D.safe.length).drop (needP (allV D.safe.length).length)) ((allV D.safe.length).take (needP (allV D.safe.length).length))).2=0:=(oP u);rw[qcn aD] at y;have aE:=qrv (D:=R) (a:=(allV D.safe.length).drop (needP (allV D.safe.length).length)) (b:=(allV D.safe.length).take (needP (allV D.safe.length).length));generalize (spreadM R ((allV D.safe.length).drop (needP (allV D.safe.length).length)) ((allV D.safe.length).take (needP (allV D.safe.length).length))).1=D7 at E y aE;have aF:D7.safe.length=D.safe.length:=oJ;refine qiZ E.at_ ?_;rw[aF] at y⊢;have G:wrap .i64 (((allV D.safe.length).length:Int)-(needP (allV D.safe.length).length:Int))=((allV D.safe.length).length:Int)-(needP (allV D.safe.length).length:Int):=wi' _ oJ;rw[G];exact qaN (ts:=[Ty1.raw]) (supV (fmtSup D.safe.length).1 (fmtSup D.safe.length).2) (qsy w7)<|qpi (s:=fmtSup D.safe.length) E oJ (E.hv hv hg).1 rfl (by show (0:Int)<=1;decide) fun w8 F8 d8 f8 n8=>y w8 F8 (d8.lims oJ)
end
section
structure PgM.Wf (M:PgM):Prop where
 n4:M.sup.2.getD 0 0<=4096
 u32:∀ x∈M.sup.2,U32 x
 roots:∀ x∈M.roots,U32 x
 namedS:M.named.Pairwise (· < ·)
 named:∀ x∈M.named,2<=x/\x<M.sup.2.getD 0 0
 freeS:M.free.Pairwise (· < ·)
 defS:M.deferred.Pairwise (· < ·)
 nodup:(M.free++(M.deferred++(M.lists++M.fresh.map (·.1)))).Nodup
 range:∀ x∈M.free++(M.deferred++(M.lists++M.fresh.map (·.1))),2<=x/\x<M.sup.2.getD 0 0
 body:∀ e∈M.fresh,(0<=e.2.1/\e.2.1<256)/\e.2.2.length<=500/\IsB e.2.2
theorem qkb(u:l.Nodup)(h:∀x∈l,2<=x/\x<n)(y:n<=4096):l.length<=4096:=by rcases qbR u h with h|h;omega;rw[h];simp
theorem PgM.Wf.all(M:PgM)(h:M.Wf):M.free.length+M.deferred.length+M.lists.length+M.fresh.length<=4096:=by
 have:=qkb h.nodup h.range h.n4
 simp only[zF,zK] at this;omega
theorem PgM.Wf.named4(h:M.Wf):M.named.length<=4096:=qkb (qbP h.namedS) h.named h.n4
section
variable {w:World} {X:List Nat} {pb:Nat} {db:Option Addr} {F:List Nat} {M:PgM}
theorem Rds.part3{α:Type}{enc:α->List Value}{w:World}{l:List α}(h:Rds enc k S w s l){hi:Int}(b:Nat){K:Sl->Prop}(y:hi=b)(U:b<=l.length)(E:∀C,Rds enc k S w C (l.take b)->K C):slc s none (some hi) (some hi) k K:=by
 subst y;obtain⟨V,h2,z⟩:=h;unfold slc;refine⟨by simp;omega,E _ ?_⟩;simp only[xT,xS,Int.toNat_zero,zJ,Nat.zero_mul,Nat.sub_zero];have e:(if b=0 then s.a else s.a.map (·.add 0))=s.a:=by
  split;rfl;cases s.a with
  | none=>rfl
  | some a=>simp[qi2]
 rw[e];refine⟨by rw[yK];dsimp only;omega,zM _,?_⟩;rcases z with z|⟨G,o,I,T,J,O,A,Q,R⟩;left;rw[z];simp;refine .inr ⟨G,o,I,T,J,O,A,Q,fun i x u=>?_⟩;rw[xA] at u;split at u;exact R i x u;cases u
theorem qlT{w:World}{K:Sl->WP}(h:Rd S w s l)(Q:l.length<=1000000)(E:∀u B w',BufU w' u l B->Fr [] w w'->(∀b∈B,w.heap.size<=b)->K u w'):cW 48 [s.v] [.one .slice] w K:=by
 obtain⟨R,hi,hz,U,V⟩:=qdu;have G:=h.1;refine qdA ?_;unfold qcH;apply qaa<;>intro I;have hn:s.a=none:=(oP I);have:l=[]:=by rcases h.2.2 with h|⟨b,o,cs,T,fr,J,_⟩;exact h;rw[hn] at J;cases J
 subst this;exact E ⟨none,0,0⟩ [] w (.nil _ _ _) (.refl _ _) oL;refine oB (oE [] w) fun y w1 et A ho=>?_;have C:BufU w1 ⟨pW y,0,0⟩ [] [y]:=.inr ⟨y,0,_,_,rfl,rfl,rfl,ho.at (i:=0) rfl,rfl,zM _,oL,oL⟩;refine qpq (s:=⟨pW y,0,0⟩) (src:=s) C (h.frame0 A) (oP Q) fun u B' w' O f' n'=>?_;rw[xG] at O;refine E u B' w' O (A.trans' f' fun b z=>by simp at z;subst z;exact .inr oJ) fun b z=>?_;rcases n' b z with h|h;simp at h;subst h;omega;exact zL A.size h
theorem qtC{K:Sl->WP}(h:PagerAt w X pb db F M)(y:M.lists.length<=1000000)(z:∀s B w',BufU w' s M.lists B->Fr [] w w'->(∀b∈B,w.heap.size<=b)->K s w'): cW 15 [.pointer (pW pb)] [.one .slice] w K:=by obtain⟨fb,defb,mb,sl,sn,A,C,E,rfl,u⟩:=h;refine qia ?_;unfold qeq;refine qae (qah u.cell sl (qig u.suplen) ?_);exact qlT u.rows.lists y z
theorem qsn(h:PagerAt w X pb db F M)(z:U32 (M.sup.2.getD 0 0))(y:K (M.sup.2.getD 0 0) w):cW 16 [.pointer (pW pb)] [.one .i] w K:=by obtain⟨fb,defb,mb,sl,sn,A,C,E,rfl,u⟩:=h;refine qhh ?_;unfold qdN;refine qae (qah u.cell (M.sup.2.getD 0 0) (qmM u.suplen 0) ?_);rw[wi' _ oJ];exact y
theorem PagerAt.xlt{w:World}{X:List Nat}{pb:Nat}{db:Option Addr}{F:List Nat}{M:PgM}(h:PagerAt w X pb db F M):∀b∈X,b<w.heap.size:=by obtain⟨fb,defb,mb,sl,sn,y,z,A,rfl,u⟩:=h;exact u.xlt
theorem qtz{K:Unit->WP}(h:PagerAt w X pb db F M)(A:0<=M.turn/\M.turn<=1000000000)(C:M.named.length<=100000)(E:∀F' w',PagerAt w' X pb db F' (begunM M.sup M.lists M.named (M.turn+1) M.over (insAll M.named))->Fr F w w'->(∀b∈F',b∈F\/w.heap.size<=b)->K () w'): cW 29 [.pointer (pW pb)] [] w K:=by
 obtain⟨fb,defb,mb,sl,sn,G,I,O,rfl,y⟩:=h;refine qh8 ?_;unfold qeo;have z:∀b∈X++[pb],b∈X++pb::mb::(G++I):=fun b u=>by rcases zD.1 u with h|h;exact zH _ h;simp at h;subst h;simp
 exact qfY (X:=X) (wk:=workV (pW fb) (pW defb) (some mb) M.roots) (by rw[qbw];exact y.cell) y.suplen (qaw y.rootlen) A (fun b u=>⟨y.xlt b u,fun e=>y.xsep b u (by rw[e];simp)⟩) (y.rows.lists.weak fun b u=>.inl (z b u)) (y.rows.named.weak fun b u=>.inl (z b u)) C fun F' w' J f n=>E F' w' J (f.mono fun b u _=>by simp at u;subst u;simp) fun b u=>by rcases n b u with h|h;exact .inl (by rw[h];simp);exact .inr h
theorem qve{K:Sl×Sl×Bool->WP}(h:PagerAt w X pb db F M)(hW:M.Wf)(aj:planM M=none->∀w',Fr [] w w'->K (⟨none,0,0⟩,⟨none,0,0⟩,false) w')(hk:∀sp sn pages named w',planM M=some (pages,named)->Fr [] w w'->(∀G:List Nat,(∀b∈G,b<w.heap.size)->Rd G w' sp pages/\Rd G w' sn named)->K (sp,sn,true) w'): cW 50 [.pointer (pW pb)] [.one .slice,.one .slice,.one .bool] w K:=by
 have ay:=PgM.Wf.all M hW;obtain⟨fb,defb,mb,sl,sn,F1,F2,fs,rfl,A⟩:=h;refine qiT ?_;unfold qeQ;refine qae (qah A.cell (pW fb) (qe9 A.suplen) ?_);refine qnb A.free oJ fun C y t1 f1=>?_;obtain⟨B1,b1,n1⟩:=qlW t1;have V:Fr [] w y.drew:=f1.drew;have E:=A.frame0 V;refine qae (qah (w:=y.drew) (c:=.ptr) E.cell (pW defb) (qjt A.suplen) ?_);refine qae (qah (w:=y.drew) (c:=.slice) E.cell sl (qig A.suplen) ?_);refine qnb E.deferred oJ fun s2 w2 t2 f2=>?_;obtain⟨B2,b2,n2⟩:=qlW t2;have aa:=V.trans f2;have ab:=A.frame0 aa;refine qaj (by show _=_;rw[qai ab.cell];exact qig A.suplen)<|qpq b2 ab.rows.lists oJ fun s3 B3 w3 b3 f3 n3=>?_;have I:∀b∈B1,b<y.drew.heap.size:=fun b u=>(b1.frame0 (Fr.refl [] y).drew).lt b u;have an:=(b1.frame0 (Fr.refl [] y).drew).frame0 f2;have J:BufU w3 C M.free B1:=an.frame f3 (fun b u z=>by have:=I b u;have:=n2 b z;omega);have aO:w.heap.size<=y.heap.size:=f1.size;have aP:=f2.size;have aQ:y.drew.heap.size=y.heap.size:=rfl;have O:∀b∈B3,y.drew.heap.size<=b:=fun b u=>by rcases n3 b u with h|h;exact n2 b h;omega
 have ac:Fr [] w w3:=aa.trans' f3 fun b u=>.inr (by have:=n2 b u;omega);have l1:=J.len;have l3:=b3.len;rw[zF] at l3;rw[wi' _ oJ];have e:(C.len:Int)+(s3.len:Int)=((M.free.length+(M.deferred++M.lists).length:Nat):Int):=(by rw[zF];omega);rw[e];refine qpb (by rw[zF];omega) ?_;generalize ad:needP (M.free.length+(M.deferred++M.lists).length)=k;apply qaa<;>intro hc
 have:=zC hc
 exact aj (by rw[planM,ad,iP]) w3 ac;have ae:k<=M.free.length:=(by have:=zB hc;omega);have Q:planM M=some (M.free.take k,insAll ((M.deferred++M.lists)++M.free.drop k)):=(by rw[planM,ad,iN]);have R:Rd [] w3 C M.free:=J.rds qaE oL;refine Rds.part (k:=1) R k M.free.length rfl (by show (C.len:Int)=_;omega) ae (zM _) fun s4 aS r4 _=>?_;rw[xX] at r4;refine qpq b3 r4 (by rw[zF,yB];omega) fun s5 B5 w5 b5 f5 n5=>?_;have U:∀b∈B5,y.drew.heap.size<=b/\b∉B1:=fun b u=>by
  have hh:y.drew.heap.size<=b:=by
   rcases n5 b u with h|h;exact O b h
   have:=f3.size;omega
  exact⟨hh,fun z=>by have:=I b z;omega⟩
 have ap:BufU w5 C M.free B1:=J.frame f5 (fun b u z=>by have:=I b u;have:=O b z;omega);refine qpm b5 (by rw[zF,zF,yB];omega) fun l6 w6 b6 p6 o6 f6=>?_;have aq:BufU w6 C M.free B1:=ap.frame f6 (fun b u z=>(U b z).2 u);have ar:((M.deferred++M.lists)++M.free.drop k).Nodup:=by
  have h:=hW.nodup;have hp:(M.free++(M.deferred++(M.lists++M.fresh.map (·.1)))).Perm (((M.deferred++M.lists)++M.free)++M.fresh.map (·.1)):=by rw[<- zV M.deferred,<- zV M.free];exact perm_append_comm.append_right _
  have h2:=(hp.nodup_iff.1 h).sublist (sublist_append_left _ _);exact h2.sublist ((List.Sublist.refl _).append (drop_sublist _ _))
 have au:l6=insAll ((M.deferred++M.lists)++M.free.drop k):=qdT p6 o6 ar;rw[au] at b6;have av:Fr [] w w6:=(ac.trans' f5 fun b u=>.inr (by have:=O b u;omega)).trans' f6 fun b u=>.inr (by have:=(U b u).1;omega);have ag:∀G:List Nat,(∀b∈G,b<w.heap.size)->Rd G w6 C M.free/\Rd G w6 s5 (insAll ((M.deferred++M.lists)++M.free.drop k)):=fun G hG=>
  ⟨aq.rds qaE fun b u z=>by have:=hG b z;have:=n1 b u;omega,b6.rds qaE fun b u z=>by have:=hG b z;have:=(U b u).1;omega⟩
 exact Rds.part3 (ag (List.range w.heap.size) oL).1 k rfl ae fun s7 r7=>hk s7 s5 _ _ w6 Q av fun G hG=>⟨r7.weak fun b u=>.inl (mem_range.2 (hG b u)),(ag G hG).2⟩
end
theorem qp4{mb:Nat}{y:List (Int×Leaf)}{K:Int×Sl->Prop}(h:MapAt u32V w mb (y.map fun e=>(e.1,leafV e.2)))(A:∀q,look n y=some q->K (q.2.1,q.2.2.1))(C:look n y≠none): runQ [Ty1.agg [Cell.int .u8,Cell.slice]] (fun w'=>(Instr.lookup MLT (.map (some mb)) (.u n) false).run prog w') w K:=by
 have:=qe3 (P:=prog) qno qxN qcr h n
 rw[qbS,qci] at this;cases z:look n y with
 | none=>exact absurd z C
 | some q=>
  rw[z] at this;exact qaN (ts:=[Ty1.agg [Cell.int .u8,Cell.slice]]) (q.2.1,q.2.2.1) this (A q z)
theorem qtA{dbk:Nat}{C:World}{pb:Nat}{sp sn:Sl}(h:DS dbk w FD C F1 D k)(hp:PagerAt C F1 pb (pW dbk) F M)(ab:∀e∈M.fresh,(0<=e.2.1/\e.2.1<256)/\e.2.2.length<=500/\IsB e.2.2)(aC:(M.fresh.map (·.1)).Nodup)(aD:∀x∈M.fresh.map (·.1),U32 x)(aE:M.fresh.length<=100000)(bg:k+M.fresh.length+pages.length+1<=1000000)(hv:Hv C)(hg:HG∉F1)(hn:Rd F1 C sn named)(aG:Rd F1 C sp pages)(aH:named.length<=100000)(aI:pages.length<=100000)(aJ:∀x∈pages,U32 x)(hs:next.2.length=27)(hq:0<=next.1)(U:∀w2 F2,DS dbk w FD w2 F2 (flushM D M.fresh pages named next).1 (k+M.fresh.length+pages.length+1)->Fr F1 C w2->(∀b∈F2,b∈F1\/C.heap.size<=b)->K (flushM D M.fresh pages named next).2 w2): cW 51 [.pointer (pW pb),sp.v,sn.v,.agg (supV next.1 next.2).toArray] [.one .i] C K:=by
 refine qic ?_;unfold qes;refine oB (oE [] C) fun r w2 e2 f2 ho=>qtB (hp.frame0 f2) aE fun s3 B3 y w3 b3 p3 o3 f3 n3=>?_;have aM:y=insAll (M.fresh.map (·.1)):=qdT p3 o3 aC;have aN:y.length=M.fresh.length:=(by have:=p3.length_eq;rw[zK] at this;exact this);have ac:∀x∈y,x∈M.fresh.map (·.1):=fun x J=>p3.mem_iff.1 J;have z:Fr [] C w3:=f2.trans f3;have hW:freshW M.fresh=y.map fun n=>(n,sealV n (leafOf M.fresh n).1 (leafOf M.fresh n).2):=(by rw[freshW,<- aM]);have aO:=ho.frame0 f3;have bn:=b3.len;have a9:=f2.size;have ar:∀b∈F1,b<C.heap.size:=h.at_.lt;have r3:Rd F1 w3 s3 y:=b3.rds qaE fun b hb hm=>by have:=n3 b hb;have:=ar b hm;omega
 have V:w3.heap[r]?=some (.cells (supV next.1 next.2).toArray 92 (0,0)):=aO.at (i:=0) rfl;have hr:r∉F1:=fun hm=>by have:=ar r hm;omega
 rw[flushM,hW] at U;refine qag (fun x w'=>∃(i:Nat) (F':List Nat) (D':DiskM),x=i/\i<=y.length/\DS dbk w3 F1 w' F' D' (k+i)/\
   andThen (writesM (y.map fun n=>(n,sealV n (leafOf M.fresh n).1 (leafOf M.fresh n).2)) D) (fun D=>andThen (spreadM D named pages) fun D=>sealM D next) =
    andThen (writesM ((y.drop i).map fun n=>(n,sealV n (leafOf M.fresh n).1 (leafOf M.fresh n).2)) D') (fun D=>andThen (spreadM D named pages) fun D=>sealM D next)) (fun x _=>((y.length:Int)-x).toNat)
  ⟨0,F1,D,rfl,oJ,DS.refl (h.at_.frame0 z) h.lim,rfl⟩ ?_
 rintro x w4 ⟨i,F',D',rfl,hi,O,he⟩ Y hY;have af:PagerAt w4 F' pb (pW dbk) F M:=(hp.frame0 z).frameX O.fr O.at_.lt O.nw;have ag:=O.hv (hv.frame0 z) hg;have E:∀ {A:World} {F5:List Nat} {D5:DiskM} {k5:Nat},DS dbk w3 F1 A F5 D5 k5->DS dbk w FD A F5 D5 k5/\Fr F1 C A/\∀b∈F5,b∈F1\/C.heap.size<=b:=fun d5=>by have g:DS dbk C F1 _ _ _ _:=(DS.refl h.at_ h.lim).frame0 z |>.trans d5;exact⟨h.trans g,g.fr,g.nw⟩
 apply qaa<;>intro u;have ai:i<y.length:=(by have:=zC u;omega);refine Rd.at (O.rd r3) i rfl (zA ai) ?_;have aj:=ac _ (zW ai);have aP:=aD _ aj;have G:y.drop i=y[i]::y.drop (i+1):=zX ai;generalize y[i]=x at aj aP G;obtain⟨fb,defb,mb,sl,sm,G1,G2,fs,rfl,J⟩:=af;have I:=J.frame0 (Fr.refl [] w4).drew;have Q:=J.fresh_look x;have au:look x fs≠none:=fun hn=>by rw[hn] at Q;exact qbh.1 Q aj
 refine qae (qah (w:=w4.drew) (c:=.map) I.cell (some mb) (qbG J.suplen) ?_);refine qp4 I.map.at (fun q ak=>?_) au;refine qae (qah (w:=w4.drew) (c:=.map) I.cell (some mb) (qbG J.suplen) ?_);refine qp4 I.map.at (fun q' av=>?_) au;rw[ak] at av;cases av;rw[ak] at Q;have aR:leafOf M.fresh x=(q.2.1,q.2.2.2):=(by rw[leafOf,Q];rfl);have hm:=(qa1 ak).2;have aa:=I.rows.bodies _ hm;have R:=ab (x,q.2.1,q.2.2.2) (by rw[J.fresh];exact mem_map.2 ⟨_,hm,rfl⟩);dsimp only at aa R;refine qnz aa (ag.1.frame0 (Fr.refl [] w4).drew) oJ (fun h=>oJ) fun _ b5 T5 A c5 f5 n5=>?_;have aw:Fr [] w4 A:=(Fr.refl [] w4).drew.trans f5;have al:=J.frame0 aw;refine qae (qah al.cell (pW dbk) qs4 ?_);rw[wi' x oJ];have ax:=qck (number:=x) (kind:=q.2.1) R.2.1;have aT:RdB [] A ⟨pW b5,512,512⟩ (sealV x q.2.1 q.2.2.2):=by
  have:=qfa (S:=[]) (o:=0) (n:=512) (cap:=512) c5 (by rw[ax];exact zM _) (zM _)
  rw[xD,zS (Nat.le_of_eq ax)] at this;exact this
 rw[G,xK,aR] at he;refine qfX (O.frame0 aw) oJ aT (qc6 R.1 R.2.2) fun w6 F6 d6 f6 n6=>?_;apply qaa<;>intro u;have u:(writeM D' x (sealV x q.2.1 q.2.2.2)).2≠0:=(oP u);rw[writesM,qiq,qbX u] at he;rw[he] at U;have a6:=E d6;exact U w6 F6 (a6.1.lims oJ) a6.2.1 a6.2.2;have u:(writeM D' x (sealV x q.2.1 q.2.2.2)).2=0:=(oP u);rw[writesM,qiq,qcn u] at he;rw[wi' _ oJ];exact hY _ _ ⟨i+1,F6,_,oL,oJ,d6,he⟩ oJ
 ·have:i=y.length:=(by have:=zB u;omega);subst this;rw[drop_length,map_nil,writesM,andThen_ok] at he;rw[he] at U;obtain⟨fb,defb,mb,sl,sm,G1,G2,fs,hF,J⟩:=id af;refine qae (qah J.cell (pW dbk) qs4 ?_);have aV:=O.rd (hn.frame0 z);have ay:=O.rd (aG.frame0 z);refine ql2 O oJ ag.1 ag.2 aV ay aH aI aJ fun A F5 d5 f5 n5=>?_;apply qaa<;>intro u;have u:(spreadM D' named pages).2≠0:=(oP u);rw[qbX u] at U;have a5:=E d5;exact U A F5 (a5.1.lims oJ) a5.2.1 a5.2.2
  ·have u:(spreadM D' named pages).2=0:=(oP u);rw[qcn u] at U;have aX:PagerAt A F5 pb (pW dbk) F M:=af.frameX f5 d5.at_.lt n5;obtain⟨fb,defb,mb,sl,sm,G1,G2,fs,hF,al⟩:=id aX;have aY:=al.frame0 (Fr.refl [] A).drew;refine qae (qah (w:=A.drew) (c:=.ptr) aY.cell (pW dbk) qs4 ?_);have an:A.drew.heap[r]?=some (.cells (supV next.1 next.2).toArray 92 (0,0)):=(by show A.heap[r]?=_;rw[d5.fr.block r (qac V) hr];exact V);refine qeX an hs<|qpi (d5.frame0 (Fr.refl [] A).drew) oJ ((d5.hv (hv.frame0 z) hg).1.frame0 (Fr.refl [] A).drew) hs hq fun w6 F6 d6 f6 n6=>?_;have a6:=E d6;exact U w6 F6 (a6.1.lims oJ) a6.2.1 a6.2.2
end
def Ats (D:DiskM):Prop:=∀x∈D.waits,0<=x.1/\x.1<D.safe.length
theorem qnN(h:(actM D).2=false)(u:D.down=false):(actM D).1.down=false:=by unfold actM at h⊢;split;rename_i y;rw[if_pos y] at h;cases h;split<;>exact u
theorem qlf(I:Ats D)(h:(writeM D n l).2=0): (writeM D n l).1.down=false/\Ats (writeM D n l).1/\(0<=n/\n<D.size)/\∀m,view (writeM D n l).1 m=if m=n then l else view D m:=by
 unfold writeM at h⊢;split;rename_i A;rw[if_pos A] at h;cases h;rename_i A;rw[if_neg A] at h;split;rename_i E;rw[if_pos E] at h;cases h;rename_i E;rw[if_neg E] at h;split;rename_i u;rw[dif_pos u] at h;have z:(actM (addW D n ⟨l,u⟩)).2=false:=by
  cases J:(actM (addW D n ⟨l,u⟩)).2 with
  | false=>rfl
  | true=>simp only[J,if_true] at h;cases h
 have C:=qcP (addW D n ⟨l,u⟩);have G:0<=n/\n<(D.safe.length:Int):=oJ;refine⟨qnN z (show D.down=false by simpa using A),fun x y=>?_,G,fun m=>?_⟩;show 0<=x.1/\x.1<((actM (addW D n ⟨l,u⟩)).1.safe.length:Int);rw[C.1];have y:x∈(actM (addW D n ⟨l,u⟩)).1.waits:=y;rw[C.2] at y;rcases zD.1 y with y|y;exact I x y;simp at y;subst y;exact G;show view (actM (addW D n ⟨l,u⟩)).1 m=_;rw[view,C.1,C.2,addW];dsimp only;rw[qfr];by_cases hm:m=n;rw[if_pos hm,if_pos hm.symm];rw[if_neg hm,if_neg (fun e=>hm e.symm),view];rename_i u;rw[dif_neg u] at h;cases h
theorem qm3(A:Ats D)(h:(syncM D).2=0):(syncM D).1.down=false/\(syncM D).1.waits=[]/\∀m,0<=m->view (syncM D).1 m=view D m:=by unfold syncM at h⊢;split;rename_i y;rw[if_pos y] at h;cases h;rename_i y;rw[if_neg y] at h;split;rename_i z;rw[if_pos z] at h;cases h;rename_i z;have u:(actM D).2=false:=(oP z);refine⟨qnN u (oP y),rfl,fun m C=>?_⟩;obtain⟨k,rfl⟩:∃k:Nat,m=k:=⟨m.toNat,oJ⟩;show ((D.waits.foldl laySafe D.safe).getD (k:Int).toNat .zero).1=_;rw[zJ,qly k _ _ A,view,zJ];cases lastW (k:Int) D.waits<;>rfl
theorem qrN(h:D.waits=[]):Ats D:=fun x u=>by rw[h] at u;cases u
theorem qhz(h:(andThen r f).2=0):r.2=0/\(f r.1).2=0/\andThen r f=f r.1:=by unfold andThen at h⊢;by_cases h0:r.2=0;rw[if_pos h0] at h⊢;exact⟨h0,h,rfl⟩;rw[if_neg h0] at h;exact absurd h h0
theorem qfO:∀ {l:List (Int×List Int)} {D:DiskM},Ats D->D.down=false->(writesM l D).2=0->(l.map (·.1)).Nodup-> (writesM l D).1.down=false/\Ats (writesM l D).1/\(∀x∈l,view (writesM l D).1 x.1=x.2)/\∀m,m∉l.map (·.1)->view (writesM l D).1 m=view D m
 | [],D,z,E,_,_=>⟨E,z,(fun x u=>by cases u),fun m _=>rfl⟩
 | y::l,D,z,E,h,A=>by obtain⟨J,K,O⟩:=qhz (show (andThen (writeM D y.1 y.2) (writesM l)).2=0 from h);obtain⟨Q,R,_,G⟩:=qlf z J;rw[xK,nodup_cons] at A;obtain⟨U,V,v2,I⟩:=qfO (l:=l) R Q K A.2;rw[show writesM (y::l) D=writesM l (writeM D y.1 y.2).1 from O];refine⟨U,V,fun x u=>?_,fun m C=>?_⟩;rcases zG.1 u with rfl|u;rw[I _ A.1,G,if_pos rfl];exact v2 x u;rw[xK,zG,not_or] at C;rw[I m C.2,G,if_neg C.1]
theorem qqH(I:Ats D)(J:D.down=false)(y:ListOk n numbers pages)(h:(spreadM D numbers pages).2=0): (spreadM D numbers pages).1.down=false/\(spreadM D numbers pages).1.waits=[]/\Listed (spreadM D numbers pages).1 numbers pages/\∀m,0<=m->m∉pages->view (spreadM D numbers pages).1 m=view D m:=by have C:((pages.zip (bodiesL numbers pages pages.length)).map fun x=>(x.1,sealV x.1 2 x.2)).map (·.1)=pages:=(by rw[map_map];exact qnJ (by rw[qgG]));have e:spreadM D numbers pages=andThen (writesM ((pages.zip (bodiesL numbers pages pages.length)).map fun x=>(x.1,sealV x.1 2 x.2)) D) syncM:=(by rw[spreadM,y.bodies];exact if_neg oL);rw[e] at h;obtain⟨K,O,Q⟩:=qhz h;obtain⟨d1,R,U,E⟩:=qfO I J K (by rw[C];exact y.nodup);rw[C] at E;obtain⟨V,w2,G⟩:=qm3 R O;rw[e,Q];refine⟨V,w2,fun i p z=>?_,fun m hm A=>by rw[G m hm,E m A]⟩;have hi:=(zP.1 z).1;have u:(p,sealV p 2 (bodyV (pages.getD (i+1) 0) (chunk numbers i)))∈(pages.zip (bodiesL numbers pages pages.length)).map fun x=>(x.1,sealV x.1 2 x.2):=(by refine mem_map.2 ⟨(p,bodyV (pages.getD (i+1) 0) (chunk numbers i)),?_,rfl⟩;refine yE (i:=i) ?_;rw[List.getElem?_zip_eq_some];exact⟨z,by rw[qhP,if_pos hi]⟩);have ad:=y.pgs _ (yE z);rw[G p oJ];exact U _ u
theorem qtn{s:Sup}(E:Ats D)(G:SupOk s)(h:(sealM D s).2=0): (sealM D s).1.down=false/\(sealM D s).1.waits=[]/\view (sealM D s).1 (s.1%2)=sealV (s.1%2) 1 (superB s.1 s.2)/\∀m,0<=m->m≠s.1%2->view (sealM D s).1 m=view D m:=by obtain⟨I,J,K⟩:=qhz (show (andThen (writeM D (superP s).1 (superP s).2) syncM).2=0 from h);obtain⟨R,O,_,u⟩:=qlf E I;obtain⟨A,C,y⟩:=qm3 O J;rw[show sealM D s=syncM (writeM D (superP s).1 (superP s).2).1 from K];rw[G.superP] at u y A C⊢;refine⟨A,C,by rw[y _ oJ,u,if_pos rfl],fun m Q z=>by rw[y m Q,u,if_neg z]⟩
theorem qe0(h:planM M=some (pages,named)): ∃k,k=needP (M.free.length+(M.deferred++M.lists).length)/\k<=M.free.length/\pages=M.free.take k/\named=insAll ((M.deferred++M.lists)++M.free.drop k):=by unfold planM at h;split at h;cases h;rename_i y;have u:=yN h;exact⟨_,rfl,oJ,(congrArg Prod.fst u).symm,(congrArg Prod.snd u).symm⟩
theorem PgM.Wf.planNodup(h:M.Wf)(k:Nat):(M.free.take k++((M.deferred++M.lists)++M.free.drop k)).Nodup:=by
 have u:(M.free++(M.deferred++(M.lists++M.fresh.map (·.1)))).Perm ((M.free.take k++((M.deferred++M.lists)++M.free.drop k))++M.fresh.map (·.1)):=by
  conv=>lhs;lhs;rw[<- xC k M.free]
  rw[<- zV M.deferred];have:(M.free.drop k++((M.deferred++M.lists)++M.fresh.map (·.1))).Perm (((M.deferred++M.lists)++M.free.drop k)++M.fresh.map (·.1)):=by rw[<- zV];exact perm_append_comm.append_right _
  rw[zV,zV (M.free.take k)];exact this.append_left _
 exact (u.nodup_iff.1 h.nodup).sublist (sublist_append_left _ _)
theorem qb1(z:M.Wf)(h:planM M=some (pages,named)):ListOk (M.sup.2.getD 0 0) named pages:=by obtain⟨k,C,A,rfl,rfl⟩:=qe0 h;have y:=z.planNodup k;rw[yL] at y;have E:∀x∈(M.deferred++M.lists)++M.free.drop k,2<=x/\x<M.sup.2.getD 0 0:=fun x u=>z.range x (by simp only[zD] at u⊢;rcases u with (u|u)|u;exact .inr (.inl u);exact .inr (.inr (.inl u));exact .inl (yT u));refine⟨qbV _,fun x u=>E x (qbQ.1 u),fun x u=>z.range x (zH _ (yU u)),y.1,fun x u G=>y.2.2 x u x (qbQ.1 G) rfl,?_⟩;have I:=(qgN y.2.1).length_eq;have J:=qh5 (n:=M.free.length+(M.deferred++M.lists).length);rw[<- C] at J;rw[I,zF,yB,yK,xN A];omega
theorem qmN(G:M.Wf)(h:planM M=some (pages,named)):∀x∈M.fresh.map (·.1),x∉pages/\x∉named:=by obtain⟨k,O,I,rfl,rfl⟩:=qe0 h;intro x z;have y:=G.nodup;rw[yL] at y;have A:=y.2.1;rw[yL] at A;have C:=A.2.1;rw[yL] at C;have E:x∉M.free:=fun u=>y.2.2 x u x (zI _ (zI _ z)) rfl;have J:x∉M.deferred:=fun u=>A.2.2 x u x (zI _ z) rfl;have K:x∉M.lists:=fun u=>C.2.2 x u x z rfl;refine⟨fun u=>E (yU u),fun u=>?_⟩;have u:=qbQ.1 u;simp only[zD] at u;rcases u with (u|u)|u;exact J u;exact K u;exact E (yT u)
theorem qh0(fresh:List (Int×Int×List Int)):(freshW fresh).map (·.1)=insAll (fresh.map (·.1)):=by rw[freshW,map_map];exact map_id _
theorem qd6{β:Type}:∀ {l:List (Int×β)} {e:Int×β},(l.map (·.1)).Nodup->e∈l->∃i,look e.1 l=some (i,e.2)
 | p::r,e,y,u=>by rw[xK,nodup_cons] at y;simp only[look];rcases zG.1 u with rfl|u;exact⟨0,by rw[if_pos rfl]⟩;have z:e.1≠p.1:=fun h=>y.1 (h▸zY u);obtain⟨i,A⟩:=qd6 y.2 u;exact⟨i+1,by rw[if_neg z,A];rfl⟩
theorem qsJ{fresh:List (Int×Int×List Int)}(u:(fresh.map (·.1)).Nodup){e:Int×Int×List Int}(h:e∈fresh):(e.1,sealV e.1 e.2.1 e.2.2)∈freshW fresh:=by refine mem_map.2 ⟨e.1,qbQ.2 (zY h),?_⟩;obtain⟨i,y⟩:=qd6 u h;rw[leafOf,y]
structure Flushed (D D':DiskM) (M:PgM) (pages named:List Int) (next:Sup):Prop where
 down:D'.down=false
 waits:D'.waits=[]
 listed:Listed D' named pages
 super:view D' (next.1%2)=sealV (next.1%2) 1 (superB next.1 next.2)
 fresh:∀ e∈M.fresh,view D' e.1=sealV e.1 e.2.1 e.2.2
 rest:∀ m,0<=m->m∉M.fresh.map (·.1)->m∉pages->m≠next.1%2->view D' m=view D m
theorem PgM.Wf.keysNodup(h:M.Wf):(M.fresh.map (·.1)).Nodup:=h.nodup.sublist (((sublist_append_right _ _).trans (sublist_append_right _ _)).trans (sublist_append_right _ _))
theorem PgM.Wf.keys(h:M.Wf):∀x∈M.fresh.map (·.1),2<=x/\x<M.sup.2.getD 0 0:=fun x u=>h.range x (zI _ (zI _ (zI _ u)))
theorem qrc(O:Ats D)(Q:D.down=false)(A:M.Wf)(u:planM M=some (pages,named))(R:SupOk next)(h:(flushM D M.fresh pages named next).2=0): Flushed D (flushM D M.fresh pages named next).1 M pages named next:=by
 obtain⟨U,V,h3⟩:=qhz (show (andThen (writesM (freshW M.fresh) D) fun D=>andThen (spreadM D named pages) fun D=>sealM D next).2=0 from h);obtain⟨h4,h5,h6⟩:=qhz V;have C:((freshW M.fresh).map (·.1)).Nodup:=(by rw[qh0];exact qbP (qbV _));obtain⟨d1,a1,v1,u1⟩:=qfO O Q U C;have y:=qb1 A u;obtain⟨d2,w2,l2,I⟩:=qqH a1 d1 y h4;obtain⟨d3,w3,p3,E⟩:=qtn (qrN w2) R h5;have e:flushM D M.fresh pages named next=sealM (spreadM (writesM (freshW M.fresh) D).1 named pages).1 next:=h3.trans h6
 rw[e];have an:next.1%2=0\/next.1%2=1:=by omega
 refine⟨d3,w3,fun i p J=>?_,p3,fun x G=>?_,fun m K h7 h8 h9=>?_⟩
 have:=y.pgs p (yE J)
 rw[E p oJ oJ];exact l2 i p J;have hk:=A.keys x.1 (zY G);have hf:=qmN A u x.1 (zY G);rw[E _ oJ oJ,I _ oJ hf.1];exact v1 _ (qsJ A.keysNodup G);rw[E m K h9,I m K h8];refine u1 m fun z=>h7 ?_;rw[qh0] at z;exact qbQ.1 z
theorem Quiet.flushed(h:Quiet D)(z:M.Wf)(I:M.sup.2.getD 0 0=D.size)(h8:8<=D.size)(u:planM M=some (pages,named))(J:SupOk next): (flushM D M.fresh pages named next).2=0/\Quiet (flushM D M.fresh pages named next).1/\(flushM D M.fresh pages named next).1.size=D.size:=by
 have C:((freshW M.fresh).map (·.1)).Nodup:=(by rw[qh0];exact qbP (qbV _));obtain⟨D1,e1,K,O,_⟩:=h.writes (l:=freshW M.fresh) (fun x Q=>by obtain⟨n,A,rfl⟩:=mem_map.1 Q;have A:=qbQ.1 A;have hk:=z.keys n A;refine⟨by dsimp only;omega,qck ?_⟩;obtain⟨e,E,rfl⟩:=mem_map.1 A;obtain⟨i,R⟩:=qd6 z.keysNodup E;rw[leafOf,R];exact (z.body e E).2.1) C;have y:=qb1 z u;rw[I,<- O] at y;obtain⟨D2,U,V,s2,_⟩:=K.spread y;obtain⟨G,e3,q3,s3,_⟩:=V.sealOk J oJ;have:flushM D M.fresh pages named next=(G,0):=by rw[flushM,e1,andThen_ok,U,andThen_ok,e3]
 rw[this];exact⟨rfl,q3,by show G.size=D.size;omega⟩
def PgM.all (M:PgM):List Int:=M.free++(M.deferred++(M.lists++M.fresh.map (·.1)))
theorem qhN{s:Sup}{t:Int}{ov:Bool}(h:ListOk (s.2.getD 0 0) numbers pages)(A:s.2.getD 0 0<=4096)(z:∀x∈s.2,U32 x):(begunM s pages numbers t ov numbers).Wf where
 n4:=A
 u32:=z
 roots:=fun x u=>z x (yT u)
 namedS:=h.rises
 named:=h.nums
 freeS:=h.rises
 defS:=.nil
 nodup:=by show (numbers++([]++(pages++[]))).Nodup;rw[xG,xF,yL];exact⟨qbP h.rises,h.nodup,fun x u y C e=>h.apart y C (e▸u)⟩
 range:=fun x u=>by have u:x∈numbers++([]++(pages++[])):=u;rw[xG,xF,zD] at u;rcases u with u|u;exact h.nums x u;exact h.pgs x u
 body:=fun e E=>by cases E
theorem qxc:overM.Wf:=by
 have u:∀x∈supZero.2,U32 x:=fun x h=>by
  have:=eq_of_mem_replicate (show x∈List.replicate 27 (0:Int) from h)
  subst this;exact⟨oM,oM⟩
 exact qhN (s:=supZero) (pages:=[]) (numbers:=[]) ⟨.nil,(fun x h=>by cases h),(fun x h=>by cases h),.nil,(fun x h=>by cases h),oM⟩ oM u
theorem qqD{β:Type}{v:β}{l:List (Int×β)}(h:n∉l.map (·.1)):setL n v l=l++[(n,v)]:=by rw[setL,qbh.2 h]
theorem qoy{β:Type}{v:β}{l:List (Int×β)}(h:n∈l.map (·.1)):(setL n v l).map (·.1)=l.map (·.1):=by
 unfold setL;cases y:look n l with
 | none=>exact absurd h (qbh.1 y)
 | some q=>
  dsimp only;rw[map_set];apply ext_getElem?;intro j;rw[xU];by_cases hj:q.1=j;subst hj;have z:=(qa1 y).1;obtain⟨u,A⟩:=zP.1 z;simp[u,A];rw[if_neg hj]
theorem qnV{β:Type}{l:List (Int×β)}(h:n∈l.map (·.1)):(l.map (·.1)).Perm (n::(delL n l).map (·.1)):=by
 unfold delL;cases z:look n l with
 | none=>exact absurd h (qbh.1 z)
 | some q=>
  dsimp only;have A:=(qa1 z).1;obtain⟨u,C⟩:=zP.1 A;rw[qbs];have E:(l.map (·.1))[q.1]'(oP u)=n:=(by simp[C]);have y:q.1<(l.map (·.1)).length:=(oP u);have G:l.map (·.1)=(l.map (·.1)).take q.1++n::(l.map (·.1)).drop (q.1+1):=by rw[<- E,<- zX y,xC]
  rw[eraseIdx_eq_take_drop_succ];conv=>lhs;rw[G]
  exact perm_middle
theorem qd2:usedV M n=true↔(2<=n/\n<M.sup.2.getD 0 0)/\n∉M.all:=by unfold usedV PgM.all;simp only[yA,zT,Bool.or_eq_false_iff,decide_eq_false_iff_not,Option.isNone_iff_eq_none,qbh,zD,not_or];constructor;rintro⟨⟨⟨⟨⟨A,C⟩,h⟩,u⟩,y⟩,z⟩;exact⟨⟨oJ,oJ⟩,u,y,h,z⟩;rintro⟨⟨A,C⟩,h,u,y,z⟩;exact⟨⟨⟨⟨⟨oJ,oJ⟩,y⟩,h⟩,u⟩,z⟩
theorem qut{r:List Int}{v:Int×List Int}(u:M.free=n::r)(z:M.Wf):(r++(M.deferred++(M.lists++(setL n v M.fresh).map (·.1)))).Perm M.all:=by
 have h:n∉M.fresh.map (·.1):=fun A=>by have y:=z.nodup;rw[u,xH,nodup_cons] at y;exact y.1 (zI _ (zI _ (zI _ A)))
 rw[qqD h,xJ,PgM.all,u];show (r++(M.deferred++(M.lists++(M.fresh.map (·.1)++[n])))).Perm (n::(r++(M.deferred++(M.lists++M.fresh.map (·.1)))));rw[<- zV M.lists,<- zV M.deferred,<- zV r];exact perm_append_singleton n _
theorem qhH{M':PgM}(h:M.Wf)(u:M'.sup=M.sup)(y:M'.named=M.named)(A:∀x∈M'.roots,U32 x)(z:M'.all.Perm M.all)(C:M'.free.Pairwise (· < ·))(E:M'.deferred.Pairwise (· < ·))(G:∀e∈M'.fresh,(0<=e.2.1/\e.2.1<256)/\e.2.2.length<=500/\IsB e.2.2):M'.Wf where
 n4:=by rw[u];exact h.n4
 u32:=by rw[u];exact h.u32
 roots:=A
 namedS:=by rw[y];exact h.namedS
 named:=by rw[y,u];exact h.named
 freeS:=C
 defS:=E
 nodup:=z.nodup_iff.2 h.nodup
 range:=fun x I=>by rw[u];exact h.range x (z.mem_iff.1 I)
 body:=G
theorem qsa{kind:Int}(u:M.Wf)(A:0<=kind/\kind<256)(C:IsB body):(makeV M kind body).2.Wf/\(makeV M kind body).2.all.Perm M.all:=by
 unfold makeV;split;exact⟨u,.refl _⟩;split;exact⟨u,.refl _⟩;rename_i G;split;exact⟨u,.refl _⟩;rename_i n r y;have z:=qut (v:=(kind,body)) y u;refine⟨qhH u rfl rfl u.roots z ?_ u.defS fun e E=>?_,z⟩
 have:=u.freeS
 rw[y,yI] at this;exact this.2;rcases qh3 E with h|h;exact u.body e h;rw[h];exact⟨A,by show body.length<=500;omega,C⟩
theorem quI{kind:Int}(u:M.Wf)(z:0<=kind/\kind<256)(A:IsB body):(putV M n kind body).2.Wf/\(putV M n kind body).2.all.Perm M.all:=by
 unfold putV;split;exact⟨u,.refl _⟩;split;exact⟨u,.refl _⟩;rename_i q C;split;exact⟨u,.refl _⟩;rename_i I;have E:n∈M.fresh.map (·.1):=mem_map.2 ⟨_,(qa1 C).2,rfl⟩;have y:({ M with fresh:=setL n (kind,body) M.fresh }:PgM).all=M.all:=by show M.free++(M.deferred++(M.lists++(setL n (kind,body) M.fresh).map (·.1)))=_;rw[qoy E];rfl
 refine⟨qhH u rfl rfl u.roots (by rw[y]) u.freeS u.defS fun e G=>?_,by rw[y]⟩;rcases qh3 G with h|h;exact u.body e h;rw[h];exact⟨z,by show body.length<=500;omega,A⟩
theorem qrS(u:M.Wf):(dropV M n).2.Wf:=by
 unfold dropV;split;exact u;split;rename_i q E;have G:n∈M.fresh.map (·.1):=mem_map.2 ⟨_,(qa1 E).2,rfl⟩;have I:=u.nodup;have A:n∉M.free:=fun h=>by rw[yL] at I;exact I.2.2 n h n (zI _ (zI _ G)) rfl
 have z:({ M with fresh:=delL n M.fresh,free:=ins n M.free }:PgM).all.Perm M.all:=by
  show (ins n M.free++(M.deferred++(M.lists++(delL n M.fresh).map (·.1)))).Perm (M.free++(M.deferred++(M.lists++M.fresh.map (·.1))));refine ((qcg A).append_right _).trans ?_;have J:=qnV G;have K:(M.deferred++(M.lists++M.fresh.map (·.1))).Perm (n::(M.deferred++(M.lists++(delL n M.fresh).map (·.1)))):=by refine ((J.append_left M.lists).append_left M.deferred).trans ?_;rw[<- zV,<- zV];exact perm_middle
  exact (perm_middle.symm.trans (K.symm.append_left M.free))
 exact qhH u rfl rfl u.roots z (qcq u.freeS) u.defS fun e O=>u.body e (qp9 O);rename_i E;split;rename_i y;have y:=qd2.1 y;have C:n∉M.deferred:=fun h=>y.2 (zI _ (zH _ h));have z:({ M with deferred:=ins n M.deferred }:PgM).all.Perm (n::M.all):=by show (M.free++(ins n M.deferred++(M.lists++M.fresh.map (·.1)))).Perm (n::(M.free++(M.deferred++(M.lists++M.fresh.map (·.1)))));exact (((qcg C).append_right _).append_left M.free).trans perm_middle
 refine { n4:=u.n4,u32:=u.u32,roots:=u.roots,namedS:=u.namedS,named:=u.named,freeS:=u.freeS,defS:=qcq u.defS,nodup:=z.nodup_iff.2 (nodup_cons.2 ⟨y.2,u.nodup⟩),range:=fun x Q=>?_,body:=u.body };rcases zG.1 (z.mem_iff.1 Q) with rfl|h;exact y.1;exact u.range x h;exact u
theorem qsc{s:Sup}{t:Int}{ov:Bool}(u:M.Wf)(h:planM M=some (pages,named))(y:s.2.getD 0 0=M.sup.2.getD 0 0)(z:∀x∈s.2,U32 x):(begunM s pages named t ov named).Wf:=
 qhN (by rw[y];exact qb1 u h) (by rw[y];exact u.n4) z
theorem qjl(u:M.Wf)(h:planM M=some (pages,named)):∀x∈(nextS M pages named).2,U32 x:=by
 have z:=qb1 u h;have A:=u.n4;intro x y;simp only[nextS,zD,zG,xV,or_false] at y;rcases y with (rfl|rfl|rfl)|y;exact qpQ u.u32 0;cases pages with
 | nil=>exact⟨oM,oM⟩
 | cons a r=>
  have:=z.pgs a oL
  show 0<=a/\a<4294967296;omega
 exact qaW _;exact u.roots x y
theorem qvU(u:M.Wf)(h:planM M=some (pages,named))(y:M.roots.length=24)(z:0<=M.sup.1/\M.sup.1<4611686018427387903):SupOk (nextS M pages named)/\(nextS M pages named).1=M.sup.1+1:=by have e:wrap .u64 (M.sup.1+1)=M.sup.1+1:=qqT _;refine⟨⟨?_,?_,qjl u h⟩,e⟩;show 0<=wrap .u64 (M.sup.1+1)/\wrap .u64 (M.sup.1+1)<_;rw[e];omega;show ([M.sup.2.getD 0 0,pages.headD 0,wrap .u32 (named.length:Int)]++M.roots).length=27;rw[zF,y];rfl
theorem qtO(h:M.Wf):(commitM D M).1.2.Wf:=by unfold commitM;split;exact h;split;exact h;split;exact h;rename_i x u;obtain⟨pages,named⟩:=x;split;exact qxc;exact qsc h u rfl (qjl h u)
section
def eq3:List Int->List Int->Bool
 | a::b::c::r,h::u::y::z=>bif (bif a==h then bif b==u then bif c==y then true else false else false else false) then eq3 r z else false
 | _,_=>true
theorem qrT:∀(n:Nat) (l l':List Int),l.length=3*n->l'.length=3*n->eq3 l l'=decide (l=l')
 | 0,l,l',h,u=>by have y:l=[]:=eq_nil_of_length_eq_zero oJ;have z:l'=[]:=eq_nil_of_length_eq_zero oJ;subst y z;simp[eq3]
 | n+1,l,l',h,u=>by
  match l,l',h,u with
  | a::b::c::r,C::E::G::A,h,u=>
   have:=qrT n r A (by simp at h;omega) (by simp at u;omega)
   rw[eq3,this];by_cases y:a=C<;>by_cases z:b=E<;>by_cases h3:c=G<;>by_cases h4:r=A<;>simp[y,z,h3,h4]
  | [],_,h,_=>simp at h
  | [_],_,h,_=>simp at h;omega
  | [_,_],_,h,_=>simp at h;omega
  | _::_::_::_,[],_,h=>simp at h
  | _::_::_::_,[_],_,h=>simp at h;omega
  | _::_::_::_,[_,_],_,h=>simp at h;omega
abbrev RAT:TypeId:=90
theorem qx3(a0 a1 a2 a3 a4 a5 a6 a7 a8 a9 h u y z A C E G I J K O Q R b0 b1 b2 b3 b4 b5 b6 b7 b8 b9 U V aa ab ac ad ae af ag ah ai aj ak al:Int): eqV prog 3 RAT (.agg (([a0,a1,a2,a3,a4,a5,a6,a7,a8,a9,h,u,y,z,A,C,E,G,I,J,K,O,Q,R]:List Int).map (Value.int .u32)).toArray) (.agg (([b0,b1,b2,b3,b4,b5,b6,b7,b8,b9,U,V,aa,ab,ac,ad,ae,af,ag,ah,ai,aj,ak,al]:List Int).map (Value.int .u32)).toArray) = some (eq3 [a0,a1,a2,a3,a4,a5,a6,a7,a8,a9,h,u,y,z,A,C,E,G,I,J,K,O,Q,R] [b0,b1,b2,b3,b4,b5,b6,b7,b8,b9,U,V,aa,ab,ac,ad,ae,af,ag,ah,ai,aj,ak,al]):=by kernel_rfl
theorem quq(h:l.length=24):∃V a1 a2 a3 a4 a5 a6 a7 a8 a9 u y z A C E G I J K O Q R U,l=[V,a1,a2,a3,a4,a5,a6,a7,a8,a9,u,y,z,A,C,E,G,I,J,K,O,Q,R,U]:=
 match l,h with
 | [V,a1,a2,a3,a4,a5,a6,a7,a8,a9,u,y,z,A,C,E,G,I,J,K,O,Q,R,U],_=>⟨_,_,_,_,_,_,_,_,_,_,_,_,_,_,_,_,_,_,_,_,_,_,_,_,rfl⟩
theorem qti{x y:Operand}{l':List Int}{K:Bool->Prop}(u:l.length=24)(h:l'.length=24)(k:K (decide (l=l'))): runQ [Ty1.one Cell.bool] (fun w'=>(do eqGuard .eql RAT x y (.agg (l.map (Value.int .u32)).toArray) (.agg (l'.map (Value.int .u32)).toArray);binOp .eql RAT (.agg (l.map (Value.int .u32)).toArray) (.agg (l'.map (Value.int .u32)).toArray):Sem Value).run prog w') w K:=by refine qxF 3 oM (eq3 l l') ?_ oK (by rw[qrT 8 l l' u h];exact k);obtain⟨a0,a1,a2,a3,a4,a5,a6,a7,a8,a9,z,A,C,E,G,I,J,O,Q,R,U,V,aa,ab,rfl⟩:=quq u;obtain⟨b0,b1,b2,b3,b4,b5,b6,b7,b8,b9,ac,ad,ae,af,ag,ah,ai,aj,ak,al,am,an,ao,ap,rfl⟩:=quq h;exact qx3 ..
theorem quu{mb:Nat}{f:List (Int×Value)}{K:Int->Prop}(h:MapS u32V w mb f)(k:K f.length): runQ [Ty1.one .i] (fun w'=>(Builtin.len_ #[MLT] 3 #[Value.map (some mb)]).run prog w') w K:=by
 obtain⟨u,c,y,z,_⟩:=h;have A:(u.size:Int)=f.length:=by
  have:=congrArg List.length z
  simp at this;omega
 refine qaN (ts:=[Ty1.one .i]) (u.size:Int) ?_ (by rw[A];exact k)
 have:=run_len_map (P:=prog) (w:=w) MLT 3 mb u c oK y
 exact this
section
variable {db:Option Addr} {sup:Sup} {sl sn:Sl} {turn:Int} {over:Bool} {fb defb mb:Nat} {roots:List Int} {wk:List Value}
theorem qih(u:sup.2.length=27)(y:roots.length=24):((pgCells db sup sl sn turn over fb defb mb roots).toList.drop 36).take 24=roots.map (Value.int .u32):=by have h:((Value.pointer db::supV sup.1 sup.2)++pgRest sl sn turn over fb defb mb).length=36:=(by rw[zF,qa2 u];rfl);show (((Value.pointer db::supV sup.1 sup.2)++pgRest sl sn turn over fb defb mb++roots.map (Value.int .u32)).drop 36).take 24=_;rw[<- h,drop_append_of_le_length (zM _),drop_length,xG,zS (by rw[zK,y];exact zM _)]
theorem quC(h:sup.2.length=27):((pgCells db sup sl sn turn over fb defb mb roots).toList.drop 5).take 24=(sup.2.drop 3).map (Value.int .u32):=by rw[<- qbw];exact qjw h
theorem qs9{h:Sup}(y:sup.2.length=27)(u:h.2.length=27):splice (pgRaw db sup sl sn turn over wk) 1 (supV h.1 h.2)=pgRaw db h sl sn turn over wk:=by
 have:=qa5 (A:=[Value.pointer db]) (X:=supV sup.1 sup.2) (Y:=supV h.1 h.2) (Z:=([sl.v,sn.v,.i turn,.bool over]:List Value)++wk) (by rw[qaH y,qaH u])
 simpa[pgRaw] using this
end
theorem qsz{q a c:Int}(C:roots.length=24)(w:World):(Instr.build 92 #[(0,.int .u64 q),(1,.u a),(3,.u c),(4,.agg (roots.map (Value.int .u32)).toArray)]).run prog w=.ok (.agg (supV q ([a,0,c]++roots)).toArray) w:=by
 obtain⟨z,E,h⟩:=yS.1 qfE;have y:z.cells=(supV 0 (zs 27)).toArray:=(by rw[<- h]);refine qc5 (parts:=[(0,.int .u64 q),(1,.u a),(3,.u c),(4,.agg (roots.map (Value.int .u32)).toArray)]) (offs:=#[(0,1),(1,1),(2,1),(3,1),(4,24)]) E oK (fun w=>oK) ?_ w;have G:(Value.agg (roots.map (Value.int .u32)).toArray).cells.size=24:=(by show (roots.map (Value.int .u32)).toArray.size=24;simp[C]);rw[y,qaF (o:=0) (s:=1) rfl rfl (zO rfl),qaF (o:=1) (s:=1) rfl rfl (zO rfl),qaF (o:=3) (s:=1) rfl rfl (zO rfl),qaF (o:=4) (s:=24) rfl G (zO rfl)];refine congrArg some ?_
 have:=qa5 (A:=[.int .u64 q,.u a,.u 0,.u c]) (X:=(zs 24).map (Value.int .u32)) (Z:=[]) (Y:=roots.map (Value.int .u32)) (by simp[C,qaK])
 refine Eq.trans ?_ (this.trans ?_);rfl;simp[supV]
theorem qsx(w:World):(Instr.build PGT #[(5,.bool true)]).run prog w=.ok (.agg (pgRaw none supZero ⟨none,0,0⟩ ⟨none,0,0⟩ 0 true (workV none none none (zs 24)))) w:=by refine qc5 (parts:=[(5,.bool true)]) (offs:=#[(0,1),(1,28),(29,1),(30,1),(31,1),(32,1),(33,27)]) pgZ oK (fun w=>oK) ?_ w;rw[qaF (o:=32) (s:=1) rfl rfl (zO rfl)];rfl
def dbOf (dbk:Nat) (M:PgM):Option Addr:=if M.over then none else pW dbk
structure Both (w:World) (dbk pb:Nat) (FD F:List Nat) (D:DiskM) (M:PgM) (k:Nat):Prop where
 disk:DiskAt w dbk FD D
 lim:Lim D k
 pager:PagerAt w FD pb (dbOf dbk M) F M
def Turn (S:List Nat) (w w':World) (S':List Nat):Prop:=Fr S w w'/\∀b∈S',b∈S\/w.heap.size<=b
theorem qxb:((l.map (Value.int .u32)).all Value.oneCell')=true:=by rw[all_eq_true];intro v h;obtain⟨x,_,rfl⟩:=mem_map.1 h;rfl
theorem qwj{x y:Option Addr}{m:Option Nat}:((workV x y m roots).all Value.oneCell')=true:=by rw[workV,all_append,qxb];rfl
theorem qxi{sup:Sup}{sl sn:Sl}{turn:Int}{over:Bool}{wk:List Value}(h:(wk.all Value.oneCell')=true):((pgRaw db sup sl sn turn over wk).toList.all Value.oneCell')=true:=by show ((((Value.pointer db::supV sup.1 sup.2)++([sl.v,sn.v,.i turn,.bool over]:List Value))++wk).all Value.oneCell')=true;rw[all_append,all_append,h,all_cons,qip];rfl
theorem PagerAt.weakX{X X':List Nat}{pb:Nat}(h:PagerAt w X pb db F M)(y:∀b∈X',b∈X):PagerAt w X' pb db F M:=
 h.frameX (.refl X w) (fun b u=>h.xlt b (y b u)) (fun b u=>.inl (y b u))
theorem qqX{dbk pb:Nat}{X:List Nat}(hdisk:DiskAt w dbk FD D)(hlim:Lim D k)(hpag:PagerAt w X pb (dbOf dbk M) F M)(hsub:∀b∈FD,b∈X)(hW:M.Wf)(hk6:k+5000<=1000000)(ht:0<=M.turn/\M.turn<=1000000000)(hv:Hv w)(hg:HG∉FD)(kk:∀FD' F' w',DiskAt w' dbk FD' (commitM D M).1.1->Lim (commitM D M).1.1 (k+5000)->PagerAt w' (FD'++X) pb (dbOf dbk (commitM D M).1.2) F' (commitM D M).1.2->Turn (FD++F) w w' (FD'++F')->K (commitM D M).2 w'): cW 20 [.pointer (pW pb)] [.one .i] w K:=by
 have hall:=PgM.Wf.all M hW;have same:∀ {e:Int} {w':World},commitM D M=((D,M),e)->Fr [] w w'->K e w':=by
  intro e w' he hf
  have:=kk FD F w' (by rw[he];exact hdisk.frame0 hf) (by rw[he];exact hlim.mono oJ) (by rw[he];exact (hpag.frame0 hf).weakX fun b hb=>(zD.1 hb).elim (hsub b) id) ⟨hf.mono (fun b hb=>by cases hb),fun b hb=>.inl hb⟩
  rw[he] at this;exact this
 have hpag0:=hpag;obtain⟨fb,defb,mb,sl,sn,F1,F2,fs,rfl,hx⟩:=hpag;refine qhi (p:=pW pb) ?_;unfold qdO;refine qae (qah (c:=.bool) hx.cell M.over (qc4 hx.suplen) ?_);refine qaa (fun hc=>same (by rw[commitM,if_pos hc]) (.refl _ _)) (fun hc=>?_);have ho:¬M.over=true:=(by rw[hc];decide);have hof:M.over=false:=hc;have hdb:dbOf dbk M=pW dbk:=if_neg ho;rw[hdb] at hx hpag0;have hxd:=hx.frame0 (Fr.refl [] w).drew;have hfl:fs.length=M.fresh.length:=(by rw[hx.fresh];simp);have hsr:(M.sup.2.drop 3).length=24:=(by rw[yB,hx.suplen]);refine qaf (fun b w'=>b=decide (M.fresh=[]/\M.deferred=[]/\M.roots=M.sup.2.drop 3)/\w'=w.drew) ?_ ?_;refine qae (qah (w:=w.drew) (c:=.map) hxd.cell (some mb) (qbG hx.suplen) ?_);refine quu hxd.map ?_;rw[zK,hfl];apply qaa<;>intro hc1;have h1:M.fresh=[]:=eq_nil_of_length_eq_zero (by have:(M.fresh.length:Int)=0:=(oP hc1);omega);refine qae (qah (w:=w.drew) (c:=.ptr) hxd.cell (pW defb) (qjt hx.suplen) ?_);refine qrE hxd.deferred ?_;apply qaa<;>intro hc2;have h2:M.deferred=[]:=eq_nil_of_length_eq_zero (by have:(M.deferred.length:Int)=0:=(oP hc2);omega);refine qae (qa0 (b:=pb) (off:=36) hxd.cell (M.roots.map (Value.int .u32)) (by rw[zK,hx.rootlen]) (qih hx.suplen hx.rootlen) ?_);refine qae (qa0 (b:=pb) (off:=5) hxd.cell ((M.sup.2.drop 3).map (Value.int .u32)) (by rw[zK,hsr]) (quC hx.suplen) ?_);refine qti hx.rootlen hsr ⟨?_,rfl⟩;simp[h1,h2];have h2:M.deferred≠[]:=fun e=>by rw[e] at hc2;simp at hc2
 exact⟨by simp[h2],rfl⟩;have h1:M.fresh≠[]:=fun e=>by rw[e] at hc1;simp at hc1
 exact⟨by simp[h1],rfl⟩;rintro b w1 ⟨rfl,rfl⟩;have f01:Fr [] w w.drew:=(Fr.refl [] w).drew;refine qaa (fun hc=>same (by rw[commitM,if_neg ho,if_pos (zC hc)]) f01) (fun hc=>?_);have hne:=zB hc;refine qve (hpag0.frame0 f01) hW (fun hpl w2 f2=>?_) (fun sp sm pages named w2 hpl f2 hrd=>?_);exact cond_true rfl<|same (by rw[commitM,if_neg ho,if_neg hne,hpl]) (f01.trans f2);refine cond_false rfl ?_;have hcm:commitM D M=if (flushM D M.fresh pages named (nextS M pages named)).2≠0 then (((flushM D M.fresh pages named (nextS M pages named)).1,overM),(flushM D M.fresh pages named (nextS M pages named)).2)
  else (((flushM D M.fresh pages named (nextS M pages named)).1,begunM (nextS M pages named) pages named (M.turn+1) false named),0):=by rw[commitM,if_neg ho,if_neg hne,hpl]
 have hplan:=hpl;unfold planM at hplan;split at hplan;cases hplan;rename_i hroom;have hpn:=yN hplan;have hpg:pages=M.free.take (needP (M.free.length+(M.deferred++M.lists).length)):=(congrArg Prod.fst hpn).symm;have hnm:named=insAll ((M.deferred++M.lists)++M.free.drop (needP (M.free.length+(M.deferred++M.lists).length))):=(congrArg Prod.snd hpn).symm;have hplf:pages.length<=M.free.length:=(by rw[hpg,yK];omega);have hpl4:pages.length<=4096:=oJ;have hnl4:named.length<=4096:=by
  have:=qmr ((M.deferred++M.lists)++M.free.drop (needP (M.free.length+(M.deferred++M.lists).length)))
  rw[<- hnm] at this;simp only[zF,yB] at this;omega
 have hpm:∀x∈pages,2<=x/\x<M.sup.2.getD 0 0:=fun x hx=>by rw[hpg] at hx;exact hW.range x (zH _ (yU hx))
 have hblk4:=hW.n4;have hpu:∀x∈pages,U32 x:=fun x hx=>by have:=hpm x hx;constructor<;>omega
 have hns:named.Pairwise (· < ·):=(by rw[hnm];exact qbV _);have f02:=f01.trans f2;have hx2:=hx.frame0 f02;have hx2d:=hx2.frame0 (Fr.refl [] w2).drew;refine qae (qah (w:=w2.drew) (c:=.int .u64) hx2d.cell M.sup.1 quB ?_);refine qae (qah (w:=w2.drew) (c:=.u) hx2d.cell (M.sup.2.getD 0 0) (qmM hx.suplen 0) ?_);refine qae (qa0 (b:=pb) (off:=36) hx2d.cell (M.roots.map (Value.int .u32)) (by rw[zK,hx.rootlen]) (qih hx.suplen hx.rootlen) ?_);have hmlen:sm.len=named.length:=(hrd [] oL).2.1;refine qaN (ts:=[Ty1.raw]) (supV (wrap .u64 (M.sup.1+1)) ([M.sup.2.getD 0 0,0,wrap .u32 (named.length:Int)]++M.roots)) (by rw[<- hmlen];exact qsz hx.rootlen _) ?_;have hplen:sp.len=pages.length:=(hrd [] oL).1.1;refine oI (oE [] w2.drew) qfE fun r w3 e3 ho3=>?_;have hx3:=hx2d.frame0 ho3.fr;refine qap (qbf hx3.cell _ 36 0 (by show _=_;rw[zK,hx.rootlen];exact qih hx.suplen hx.rootlen)) (by show _=_;simp only[Addr.add_mk];rw[qai hx3.cell];exact qmM hx.suplen 0) (by show _=_;rw[qai hx3.cell];exact quB) ?_;have l27:([M.sup.2.getD 0 0,0,wrap .u32 (named.length:Int)]++M.roots).length=27:=(by rw[zF,hx.rootlen];rfl);have n27:(nextS M pages named).2.length=27:=(by show ([M.sup.2.getD 0 0,pages.headD 0,wrap .u32 (named.length:Int)]++M.roots).length=27;rw[zF,hx.rootlen];rfl);have hG:∀b∈FD++pb::mb::(F1++F2),b<w.heap.size:=fun b hb=>by rcases zD.1 hb with h|h;exact hdisk.lt b h;exact hx.lt b h
 have hrdG:=hrd (FD++pb::mb::(F1++F2)) hG;refine qhp ho3 0 rfl rfl l27 fun w4 ho4=>qaf (fun _ w'=>Own [] w2.drew w' [(r,.cells (supV (nextS M pages named).1 (nextS M pages named).2).toArray 92 (0,0))]) ?_ ?_;apply qaa<;>intro hc;have hp0:0<pages.length:=(by have:=zC hc;dsimp only at this;omega);have f24:Fr [] w2 w4:=(Fr.refl [] w2).drew.trans ho4.fr;refine Rd.at ((hrd [] oL).1.frame0 f24) 0 rfl (zA hp0)<|oG ho4 0 rfl (supV (nextS M pages named).1 (nextS M pages named).2).toArray ?_ rfl (by rw[qgx l27];exact zO rfl) fun w5 ho5 f5=>ho5;have hh:pages.headD 0=pages[0]:=by
  cases pages with
  | nil=>simp at hp0
  | cons a r=>rfl
 show splice (supV _ ([M.sup.2.getD 0 0]++0::(wrap .u32 (named.length:Int)::M.roots))).toArray 2 [.u pages[0]]=_
 have:=qmZ (q:=wrap .u64 (M.sup.1+1)) (x:=0) (y:=pages[0]) (A:=[M.sup.2.getD 0 0]) (Z:=wrap .u32 (named.length:Int)::M.roots)
 refine this.trans ?_;rw[nextS,hh];rfl;have hp0:pages=[]:=eq_nil_of_length_eq_zero (by have:=zB hc;dsimp only at this;omega);have e:supV (nextS M pages named).1 (nextS M pages named).2=supV (wrap .u64 (M.sup.1+1)) ([M.sup.2.getD 0 0,0,wrap .u32 (named.length:Int)]++M.roots):=by rw[nextS,hp0];rfl
 rw[e];exact ho4;rintro _ w5 ho5;refine qeX (ho5.at (i:=0) rfl) n27 ?_;have f25:Fr [] w2 w5:=(Fr.refl [] w2).drew.trans ho5.fr;have f05:=f02.trans f25;have hd5:=hdisk.frame0 f05;have hp5:=hpag0.frame0 f05;have hq0:0<=(nextS M pages named).1:=by show 0<=wrap .u64 (M.sup.1+1);unfold wrap;have:(IntKind.u64.signed)=false:=rfl;simp only[this,Bool.false_and,Bool.false_eq_true,if_false];exact Int.emod_nonneg _ oM
 have hkeyU:∀x∈M.fresh.map (·.1),U32 x:=fun x hx=>by
  have:=hW.range x (zI _ (zI _ (zI _ hx)))
  constructor<;>omega
 have hkeyN:(M.fresh.map (·.1)).Nodup:=hW.nodup.sublist (((sublist_append_right _ _).trans (sublist_append_right _ _)).trans (sublist_append_right _ _));refine qtA (next:=nextS M pages named) (D:=D) (DS.refl hd5 hlim) (hp5.weakX hsub) hW.body hkeyN hkeyU oJ oJ (hv.frame0 f05) hg ((hrdG.2.frame0 f25).weak fun b hb=>.inl (zH _ hb)) ((hrdG.1.frame0 f25).weak fun b hb=>.inl (zH _ hb)) oJ oJ hpu n27 hq0 fun w6 FD6 d6 f6 n6=>?_;have hp6:=hp5.frameX (X':=FD6++X) (f6.mono fun b hb _=>hsub b hb) (fun b hb=>(zD.1 hb).elim (d6.at_.lt b) fun hb=>yC (hp5.xlt b hb) f6.size) fun b hb=>(zD.1 hb).elim (fun hb=>(n6 b hb).imp (hsub b) id) .inl;obtain⟨fb6,defb6,mb6,sl6,sn6,G1,G2,fs6,hF6,hx6⟩:=id hp6;have hpbn:pb∉FD6++X:=fun hm=>hx6.xsep pb hm oL;have hFD:∀b∈FD6,b∈FD++pb::mb::(F1++F2)\/w.heap.size<=b:=fun b hb=>by rcases n6 b hb with h|h;exact .inl (zH _ h);exact .inr (zL f05.size h)
 have hlt6:w.heap.size<=w6.heap.size:=zL f05.size f6.size;have f06:Fr (FD++pb::mb::(F1++F2)) w w6:=(f05.mono fun b hb=>by cases hb).trans (f6.mono fun b hb _=>zH _ hb);have hend:∀ {F':List Nat} {w8 w9:World},Fr [pb] w6 w8->Fr [pb] w8 w9->(∀b∈F',b=pb\/w8.heap.size<=b)->Turn (FD++pb::mb::(F1++F2)) w w9 (FD6++F')/\DiskAt w9 dbk FD6 (flushM D M.fresh pages named (nextS M pages named)).1:=by intro F' w8 w9 g8 g9 hF';have g69:=g8.trans g9;refine⟨⟨f06.trans (g69.mono fun b hb _=>by simp at hb;subst hb;simp),fun b hb=>?_⟩,d6.at_.frame g69 fun b hb=>by simp;rintro rfl;exact hpbn (zH _ hb)⟩;rcases zD.1 hb with hb|hb;exact hFD b hb;rcases hF' b hb with h|h;exact .inl (by rw[h];simp);exact .inr (zL (zL hlt6 g8.size) h)
 have hpX:∀ {w8:World},Fr [pb] w6 w8->∀b∈FD6++X,b<w8.heap.size/\b≠pb:=fun g8 b hb=>⟨yC (hp6.xlt b hb) g8.size,fun e=>hpbn (e▸hb)⟩;have hcell6:=hx6.cell;rw[<- qbw] at hcell6;have hwk:(workV (pW fb6) (pW defb6) (some mb6) M.roots).length=27:=qaw hx.rootlen;have hlim6:Lim (flushM D M.fresh pages named (nextS M pages named)).1 (k+5000):=d6.lim.mono oJ;apply qaa<;>intro hc;have hc:(flushM D M.fresh pages named (nextS M pages named)).2≠0:=(oP hc);rw[if_pos hc] at hcm;rw[hcm] at kk;refine qaN (ts:=[Ty1.raw]) (pgRaw none supZero ⟨none,0,0⟩ ⟨none,0,0⟩ 0 true (workV none none none (zs 24))).toList (qsx w6)<|qae ?_;have hsz60:(pgRaw none supZero ⟨none,0,0⟩ ⟨none,0,0⟩ 0 true (workV none none none (zs 24))).toList.length=60:=(by rw[Array.length_toList,qbx rfl];rfl);refine qaP hsz60<|qd9 (b:=pb) (off:=0) hcell6 (pgRaw none supZero ⟨none,0,0⟩ ⟨none,0,0⟩ 0 true (workV none none none (zs 24))) (by rw[qcv (by rw[hsz60,qbx hx.suplen,hwk])]) (qxi (qwj)) (by rw[hsz60,qbx hx.suplen,hwk];exact zO rfl) fun w7 c7 f7=>qfY (X:=FD6++X) (lists:=[]) (named:=[]) c7 rfl (qaw (qaK 24)) oM (hpX f7) (.nil _ _ _ _) (.nil _ _ _ _) oM fun F' w8 hp8 f8 n8=>?_;have he:=hend f7 f8 n8;exact kk FD6 F' w8 he.2 hlim6 hp8 he.1;have hc:¬(flushM D M.fresh pages named (nextS M pages named)).2≠0:=(oP hc);rw[if_neg hc] at hcm;rw[hcm] at kk;have hsup6:w6.heap[r]?=some (.cells (supV (nextS M pages named).1 (nextS M pages named).2).toArray 92 (0,0)):=(by rw[f6.block r (qac (ho5.at (i:=0) rfl)) (fun hm=>by have:=hd5.lt r hm;have:=hdisk.lt r hm;have h1:w.heap.size<=w2.drew.heap.size:=f02.size;omega)];exact ho5.at (i:=0) rfl);refine qeX hsup6 n27<|qae<|qaP (qaH n27)<|qd9 (b:=pb) (off:=1) hcell6 (pgRaw (pW dbk) (nextS M pages named) sl6 sn6 M.turn M.over (workV (pW fb6) (pW defb6) (some mb6) M.roots)) (qs9 hx.suplen n27) (qip _ _) (by rw[qaH n27,qbx hx.suplen,hwk];exact zO rfl) fun w7 c7 f7=>qae<|qd9 (b:=pb) (off:=29) c7 (pgRaw (pW dbk) (nextS M pages named) sp sn6 M.turn M.over (workV (pW fb6) (pW defb6) (some mb6) M.roots)) (qor n27) rfl (by rw[qbx n27,hwk];exact zO rfl) fun w8 c8 f8=>qae<|qd9 (b:=pb) (off:=30) c8 (pgRaw (pW dbk) (nextS M pages named) sp sm M.turn M.over (workV (pW fb6) (pW defb6) (some mb6) M.roots)) (qos n27) rfl (by rw[qbx n27,hwk];exact zO rfl) fun w9 c9 f9=>?_;have f69:=(f7.trans f8).trans f9;have hGX:∀b∈X++[pb],b<w.heap.size:=fun b hb=>by rcases zD.1 hb with h|h;exact hx.xlt b h;rw[zE.1 h];exact qac hx.cell
 have hrdX:=hrd (X++[pb]) hGX;have hst:∀ {s:Sl} {l:List Int},Rd (X++[pb]) w2 s l->Rd ((FD6++X)++[pb]) w9 s l:=fun hr=>by
  have h5:=hr.frame0 f25;have h6:Rd ((FD6++X)++[pb]) w6 _ _:=h5.frame (f6.mono fun b hb _=>zH _ (hsub b hb)) fun b hb=>by rcases zD.1 hb with hb|hb;rcases zD.1 hb with hb|hb;rcases n6 b hb with h|h;exact .inl (zH _ (hsub b h));exact .inr h;exact .inl (zH _ hb);exact .inl (zI _ hb)
  exact h6.frame (f69.mono fun b hb _=>zI _ hb) fun b hb=>.inl hb
 refine qfY (X:=FD6++X) (lists:=pages) (named:=named) c9 n27 hwk ht (hpX f69) (hst hrdX.1) (hst hrdX.2) oJ fun F' w10 hp10 f10 n10=>?_;rw[qje hns,hof] at hp10;have he:=hend f69 f10 n10;exact kk FD6 F' w10 he.2 hlim6 hp10 he.1
end
def setRootM (M:PgM) (t h r1 u:Int):Int×PgM:=
 if M.over then (7,M) else if t<0\/t>7 then (4,M) else (0,{ M with roots:=M.roots.take (3*t.toNat)++[h,r1,u]++M.roots.drop (3*t.toNat+3) })
def pagerReadM (D:DiskM) (M:PgM) (n:Int):Int×List Int×Int:=
 if M.over then (0,[],7) else match look n M.fresh with
 | some q=>(q.2.1,q.2.2,0)
 | none=>if usedV M n=false then (0,[],10) else if (readV D n).2≠0 then (0,[],(readV D n).2) else openV n (readV D n).1
theorem qnv(u:D.Ok)(y:∀e∈M.fresh,IsB e.2.2)(n:Int):IsB (pagerReadM D M n).2.1:=by have h:IsB ([]:List Int):=fun x z=>nomatch z;unfold pagerReadM;split;exact h;split;rename_i q A;exact y _ (qa1 A).2;split;exact h;split;exact h;exact (qoh (qbL u n).1 n).1
def PgM.Named (M:PgM):Prop:=(M.free++M.fresh.map (·.1)).Perm M.named
theorem qgF(s:Sup)(pages numbers:List Int)(t:Int)(ov:Bool):(begunM s pages numbers t ov numbers).Named:=by show (numbers++[]).Perm numbers;rw[xF]
theorem qsY{kd:Int}(A:M.Wf)(h:M.Named):(makeV M kd l).2.Named:=by
 unfold makeV;split;exact h;split;exact h;split;exact h;rename_i n r y;have u:n∉M.fresh.map (·.1):=fun C=>by have z:=A.nodup;rw[y,xH,nodup_cons] at z;exact z.1 (zI _ (zI _ (zI _ C)))
 show (r++(setL n (kd,l) M.fresh).map (·.1)).Perm M.named;rw[qqD u,xJ,<- zV];refine (perm_append_singleton n _).trans ?_
 have:=h
 rw[PgM.Named,y] at this;exact this
theorem quG{kd:Int}(h:M.Named):(putV M n kd l).2.Named:=by unfold putV;split;exact h;split;exact h;rename_i q u;split;exact h;have y:n∈M.fresh.map (·.1):=mem_map.2 ⟨_,(qa1 u).2,rfl⟩;show (M.free++(setL n (kd,l) M.fresh).map (·.1)).Perm M.named;rw[qoy y];exact h
theorem qsI(A:M.Wf)(h:M.Named):(dropV M n).2.Named:=by
 unfold dropV;split;exact h;split;rename_i q C;have y:n∈M.fresh.map (·.1):=mem_map.2 ⟨_,(qa1 C).2,rfl⟩;have z:=A.nodup;have u:n∉M.free:=fun h=>by rw[yL] at z;exact z.2.2 n h n (zI _ (zI _ y)) rfl
 show (ins n M.free++(delL n M.fresh).map (·.1)).Perm M.named;refine (((qcg u).append_right _).trans ?_).trans h;exact perm_middle.symm.trans ((qnV y).symm.append_left M.free);split;exact h;exact h
theorem PgM.Named.mem(h:M.Named)(x:Int):x∈M.named↔x∈M.free\/x∈M.fresh.map (·.1):=by rw[<- h.mem_iff,zD]
def strL (l:List Int):ByteArray:=⟨(Lib.bytesOf l).toArray⟩
theorem qau(l:List Int):(strL l).size=l.length:=by simp[strL,ByteArray.size,Lib.bytesOf]
theorem qdX(a b:List Int):strL a++strL b=strL (a++b):=by apply ByteArray.ext;simp[strL,Lib.bytesOf]
theorem qk7(l:List Int):(strL l).data.toList=Lib.bytesOf l:=by simp[strL]
theorem qwd(u:IsB l){n:Nat}(h:n<l.length):∃b,(strL l)[n]?=some b/\(b.toNat:Int)=l[n]:=by have y:=u l[n] (zW h);refine⟨UInt8.ofNat l[n].toNat,?_,?_⟩;show (if h:n<(strL l).size then some _ else none)=_;rw[dif_pos (by rw[qau];exact h)];show some ((strL l).data[n]'_)=_;simp[strL,Lib.bytesOf];simp;omega
theorem qqJ(l:List Int)(i j:Nat)(h:i<=j)(u:j<=l.length):(strL l).extract i j=strL ((l.take j).drop i):=by apply ByteArray.ext;simp[strL,Lib.bytesOf,drop_take]
theorem qq1(A:IsB a)(C:IsB b)(h:Lib.bytesOf a=Lib.bytesOf b):a=b:=by
 induction a generalizing b with
 | nil=>cases b with
  | nil=>rfl
  | cons y b=>simp[Lib.bytesOf] at h
 | cons x a ih=>cases b with
  | nil=>simp[Lib.bytesOf] at h
  | cons y b=>
   have E:=congrArg (·.head?) h;have G:=congrArg List.tail h;simp[Lib.bytesOf] at E;have I:=A x oL;have J:=C y oL;have e:x.toNat=y.toNat:=by
    have:=congrArg UInt8.toNat E
    simp at this;omega
   rw[ih (fun z u=>A z (zN _ u)) (fun z u=>C z (zN _ u)) G,show x=y by omega]
theorem qwe(u:IsB a)(y:IsB b)(h:strL a=strL b):a=b:=
 qq1 u y (by rw[<- qk7,<- qk7,h])
theorem qwf:strL []=⟨#[]⟩:=rfl
theorem qxW{src dst e:TypeId}(h:RdB S w s l)(hB:IsB l)(hs:prog.underlying src=some (.slice e))(he:prog.underlying e=some (.int .u8))(hd:prog.underlying dst=some .string): (convert src dst (.slice s.a s.len s.cap)).run prog w=.ok (.string (strL l)) w:=by
 cases ha:s.a with
 | none=>
  have hl0:l=[]:=by rcases h.2.2 with h3|⟨b,o,cs,T,fr,ha',_⟩;exact h3;rw[ha] at ha';cases ha'
  subst hl0;rw[run_convert_bytes_string w src dst e none s.len s.cap hs he hd,h.1];rfl
 | some a=>
  have hc:=h.cells qas ha;have hlen:s.len=(Lib.bytesOf l).length:=(by rw[h.1];simp[Lib.bytesOf]);rw[hlen];refine run_convert_bytes_back w src dst e a s.cap (Lib.bytesOf l) hs he hd fun j hj=>?_;have hj':j<l.length:=(by simpa[Lib.bytesOf] using hj);have hx:=hB l[j] (zW hj');rw[hc j (.int .u8 l[j]) (by rw[qaJ,zQ,zA hj'];rfl)];simp[Lib.bytesOf];omega
theorem qqy{src dst e:TypeId}{K:ByteArray->Prop}(h:RdB S w s l)(hB:IsB l)(hs:prog.underlying src=some (.slice e))(he:prog.underlying e=some (.int .u8))(hd:prog.underlying dst=some .string)(k:K (strL l)): runQ [.one .str] (fun w'=>(convert src dst (.slice s.a s.len s.cap)).run prog w') w K:=by unfold runQ;exact⟨strL l,qxW h hB hs he hd,k⟩
theorem qfw{K:ByteArray->Prop}(h:RdB S w s l)(hB:IsB l)(k:K (strL l)): runQ [.one .str] (fun w'=>(convert 27 9 (.slice s.a s.len s.cap)).run prog w') w K:=qqy (e:=5) h hB oK oK oK k
theorem quR{src dst e:TypeId}{K:Sl->World->Prop}(hB:IsB l)(hs:prog.underlying src=some .string)(hd:prog.underlying dst=some (.slice e))(he:prog.underlying e=some (.int .u8))(k:∀s w',(∀G:List Nat,(∀b∈G,b<w.heap.size)->RdB G w' s l)->Fr [] w w'->K s w'): Pt.run [Ty1.one Cell.slice] ((convert src dst (.string (strL l))).run prog w) K:=by
 have hrun:=run_bytes_of_string (P:=prog) w src dst e (strL l) hs hd he;have hsz:=qau l;have hge:(strL l).size<=grownCap w (strL l).size 0 e:=grownCap_ge w (strL l).size 0 e;generalize grownCap w (strL l).size 0 e=G at hrun hge;refine qdx ⟨_,_,_⟩ _ hrun<|k _ _ (fun g hg=>⟨hsz,hge,?_⟩) ((Fr.refl [] w).drew.alloc _);by_cases hl:l=[];exact .inl hl;refine .inr ⟨w.heap.size,0,bytesRow (strL l) G,e,_,rfl,by rw[qbp];exact if_pos rfl,fun hm=>absurd (hg _ hm) (Nat.lt_irrefl _),fun i x hx=>?_⟩;have hi:=(zP.1 hx).1;have hxB:=hB x (yE hx);have e1:(bytesRow (strL l) G).toList[i]?=some (.int .u8 x):=by unfold bytesRow;rw[Array.toList_append,yY (by simp[strL,Lib.bytesOf];exact hi)];simp[strL,Lib.bytesOf,hx];omega
 rw[xO,xQ];apply List.ext_getElem?;intro j;rw[xA,yZ];cases j with
 | zero=>rw[if_pos oM,xP,e1];rfl
 | succ j=>rw[iN];rfl
theorem qfD{i:Int}{K:Int->Prop}(h:IsB l)(n:Nat)(hi:i=n)(u:n<l.length)(k:K l[n]):idxS (strL l) i K:=by subst hi;obtain⟨b,y,z⟩:=qwd h u;unfold idxS;exact⟨b,⟨oJ,by rw[zJ];exact y⟩,by rw[z];exact k⟩
theorem qhx{lo hi:Option Int}{K:ByteArray->Prop}(a b:Nat)(h:lo.getD 0=a)(u:hi.getD l.length=b)(y:a<=b)(z:b<=l.length)(k:K (strL ((l.take b).drop a))):slcS (strL l) lo hi K:=by unfold slcS;rw[qau];refine⟨⟨oJ,oJ,oJ⟩,?_⟩;rw[h,u,zJ,zJ,qqJ l a b y z];exact k
theorem qdY(u:IsB a)(y:IsB b):((strL a).toList==(strL b).toList)=decide (a=b):=by
 rw[Bool.eq_iff_iff,yO,yM];constructor;intro h;refine qwe u y ?_;have z:(strL a).data.toList=(strL b).data.toList:=by rw[<- Go.ByteArray.toList_eq,<- Go.ByteArray.toList_eq,h]
 exact ByteArray.ext (Array.toList_inj.1 z);rintro rfl;rfl
end
section
open Go Go.Pt List
open Go.IntKind (wrap)
open Classical
variable {D:DiskM} {L L1 L2:Prs} {M:PgM} {N Nl Nr:NodeM} {R R1 R2 b:List Int} {h n1 n2:Nat} {kd n p q:Int} {key m:Key} {r:Int×List Int}
def lookv {β:Type} (n:Int) (l:List (Int×β)):Option β:=(look n l).map (·.2)
theorem qbr{β:Type}(n:Int)(p:Int×β)(r:List (Int×β)):lookv n (p::r)=if n=p.1 then some p.2 else lookv n r:=by unfold lookv;rw[look];split;rfl;cases look n r<;>rfl
theorem quT{β:Type}(n:Int)(v:β)(p:Int×β)(r:List (Int×β)):setL n v (p::r)=if n=p.1 then (n,v)::r else p::setL n v r:=by by_cases h:n=p.1;rw[if_pos h];unfold setL;rw[look,if_pos h];rfl;rw[if_neg h];unfold setL;rw[look,if_neg h];cases look n r<;>rfl
theorem qtX{β:Type}(n:Int)(p:Int×β)(r:List (Int×β)):delL n (p::r)=if n=p.1 then r else p::delL n r:=by by_cases h:n=p.1;rw[if_pos h];unfold delL;rw[look,if_pos h];rfl;rw[if_neg h];unfold delL;rw[look,if_neg h];cases look n r<;>rfl
theorem qgj{β:Type}(n q:Int)(v:β):∀l:List (Int×β),lookv q (setL n v l)=if q=n then some v else lookv q l
 | []=>by show lookv q [(n,v)]=_;rw[qbr]
 | p::r=>by rw[quT];by_cases h:n=p.1;rw[if_pos h,qbr,qbr,<- h];by_cases h2:q=n;rw[if_pos h2,if_pos h2];rw[if_neg h2,if_neg h2,if_neg h2];rw[if_neg h,qbr,qgj n q v r,qbr];by_cases h2:q=p.1;rw[if_pos h2,if_neg (fun e=>h (by rw[<- e,h2])),if_pos h2];rw[if_neg h2,if_neg h2]
theorem qcs{β:Type}{l:List (Int×β)}:lookv n l=none↔n∉l.map (·.1):=by unfold lookv;rw[Option.map_eq_none_iff,qbh]
theorem qob{β:Type}(n q:Int):∀l:List (Int×β),(l.map (·.1)).Nodup->lookv q (delL n l)=if q=n then none else lookv q l
 | [],_=>by show lookv q []=_;split<;>rfl
 | p::r,y=>by have u:=nodup_cons.1 (show (p.1::r.map (·.1)).Nodup from y);rw[qtX];by_cases h:n=p.1;rw[if_pos h,qbr];by_cases h2:q=n;rw[if_pos h2,h2,h];exact qcs.2 u.1;rw[if_neg h2,if_neg (fun e=>h2 (by rw[e,h]))];rw[if_neg h,qbr,qob n q r u.2,qbr];by_cases h2:q=p.1;rw[if_pos h2,if_neg (fun e=>h (by rw[<- e,h2])),if_pos h2];rw[if_neg h2,if_neg h2]
theorem quh(n:Int):∀l:List Int,l.length<=(ins n l).length
 | []=>yW _
 | a::l=>by
  have:=quh n l
  simp only[ins];split;simp;split;exact zM _;simp only[yH];omega
theorem qay:usedV M n=true↔2<=n/\n<M.sup.2.getD 0 0/\n∉M.lists/\n∉M.free/\n∉M.deferred/\lookv n M.fresh=none:=by unfold usedV lookv;rw[Option.map_eq_none_iff];simp only[yA,zT,Bool.or_eq_false_iff,decide_eq_false_iff_not,Option.isNone_iff_eq_none];constructor;rintro⟨⟨⟨⟨⟨A,C⟩,h⟩,u⟩,y⟩,z⟩;exact⟨oJ,oJ,h,u,y,z⟩;rintro⟨A,C,h,u,y,z⟩;exact⟨⟨⟨⟨⟨oJ,oJ⟩,h⟩,u⟩,y⟩,z⟩
def InUse (M:PgM) (x:Int):Prop:=x∈M.fresh.map (·.1)\/usedV M x=true
theorem fresh_look{x:Int}:x∈M.fresh.map (·.1)↔∃q,lookv x M.fresh=some q:=by
 constructor;intro h;cases e:lookv x M.fresh with
 | none=>exact absurd h (qcs.1 e)
 | some q=>exact⟨q,rfl⟩
 rintro⟨q,e⟩;exact Classical.byContradiction fun h=>by rw[qcs.2 h] at e;cases e
theorem qo5(h:M.over=false)(n:Int):pagerReadM D M n=match lookv n M.fresh with
  | some q=>(q.1,q.2,0)
  | none=>if usedV M n=false then (0,[],10) else if (readV D n).2≠0 then (0,[],(readV D n).2) else openV n (readV D n).1:=by
 unfold pagerReadM lookv;rw[if_neg (by rw[h];decide)];cases look n M.fresh<;>rfl
theorem qjx(u:M.over=false)(h:(pagerReadM D M n).2.2=0):InUse M n:=by
 rw[qo5 u] at h;cases e:lookv n M.fresh with
 | some q=>exact .inl (fresh_look.2 ⟨q,e⟩)
 | none=>
  rw[e] at h;dsimp only at h;split at h;cases h;rename_i y;exact .inr (oP y)
theorem quK(M:PgM)(u:M.over=false){q:Int×List Int}(h:lookv n M.fresh=some q):pagerReadM D M n=(q.1,q.2,0):=by rw[qo5 u,h]
theorem qfb(M':PgM)(u:M.over=false)(h:M'.over=false)(y:lookv n M'.fresh=lookv n M.fresh)(z:usedV M' n=usedV M n):pagerReadM D M' n=pagerReadM D M n:=by rw[qo5 u,qo5 h,y,z]
theorem qd0(M':PgM)(h:lookv n M'.fresh=lookv n M.fresh)(u:usedV M' n=usedV M n):InUse M' n↔InUse M n:=by unfold InUse;rw[fresh_look,fresh_look,h,u]
theorem qd1(u:M.Wf){x:Int}(h:InUse M x):2<=x/\x<M.sup.2.getD 0 0:=by rcases h with h|h;exact u.range x (by simp only[zD];exact .inr (.inr (.inr h)));exact⟨(qay.1 h).1,(qay.1 h).2.1⟩
structure Turned (D:DiskM) (M M':PgM) (q p:Int) (r:Option (Int×List Int)):Prop where
 wf:M'.Wf
 over:M'.over=false
 roots:M'.roots=M.roots
 sup:M'.sup=M.sup
 lists:M'.lists=M.lists
 named:M'.named=M.named
 Named:M.Named->M'.Named
 turn:M'.turn=M.turn
 rest:∀ x,x≠q->x≠p->pagerReadM D M' x=pagerReadM D M x
 use:∀ x,x≠q->x≠p->(InUse M' x↔InUse M x)
 old:∀ x,usedV M' x=true->usedV M x=true
 wrote:∀ y,r=some y->pagerReadM D M' q=(y.1,y.2,0)/\InUse M' q
 left:p≠q->¬ InUse M' p
section
variable {D:DiskM} {M:PgM}
theorem qri{A:List Int}(I:M.Wf)(E:M.over=false)(hk:0<=kd/\kd<256)(hB:IsB b)(hl:b.length<=500)(G:M.free=n::A): ∃M',makeV M kd b=((n,0),M')/\Turned D M M' n n (some (kd,b))/\¬InUse M n/\M'.free=A/\M'.deferred=M.deferred:=by
 have e:makeV M kd b=((n,0),{ M with free:=A,fresh:=setL n (kd,b) M.fresh }):=(by rw[makeV,if_neg (by rw[E];decide),iN,G]);have hw:=(qsa (kind:=kd) (body:=b) I hk hB).1;rw[e] at hw;have J:(n::(A++(M.deferred++(M.lists++M.fresh.map (·.1))))).Nodup:=(by have:=I.nodup;rw[G] at this;exact this);have K:=nodup_cons.1 J;have O:n∉M.fresh.map (·.1):=fun h=>K.1 (by simp only[zD];exact .inr (.inr (.inr h)));have Q:¬InUse M n:=fun h=>by rcases h with h|h;exact O h;exact (qay.1 h).2.2.2.1 (by rw[G];simp)
 have u:∀x,lookv x (setL n (kd,b) M.fresh)=if x=n then some (kd,b) else lookv x M.fresh:=fun x=>qgj n x _ _
 have C:∀x,x≠n->usedV { M with free:=A,fresh:=setL n (kd,b) M.fresh } x=usedV M x:=fun x z=>by rw[Bool.eq_iff_iff,qay,qay];dsimp only;rw[u,if_neg z,G,zG];constructor;rintro⟨R,U,V,h4,h5⟩;exact⟨R,U,V,fun h=>h.elim z h4,h5⟩;rintro⟨R,U,V,h4,h5⟩;exact⟨R,U,V,fun h=>h4 (.inr h),h5⟩
 refine⟨_,e,⟨hw,E,rfl,rfl,rfl,rfl,fun h=>?_,rfl,fun x z _=>qfb { M with free:=A,fresh:=setL n (kd,b) M.fresh } E E (by dsimp only;rw[u,if_neg z]) (C x z),fun x z _=>qd0 { M with free:=A,fresh:=setL n (kd,b) M.fresh } (by dsimp only;rw[u,if_neg z]) (C x z),fun x z=>?_,fun y hy=>?_,fun h=>absurd rfl h⟩,Q,rfl,rfl⟩
 have:=qsY (kd:=kd) (l:=b) I h
 rw[e] at this;exact this;by_cases hxn:x=n
 have:=(qay.1 z).2.2.2.2.2
 dsimp only at this;rw[u,if_pos hxn] at this;cases this;rw[C x hxn] at z;exact z;cases hy;refine⟨?_,.inl (fresh_look.2 ⟨(kd,b),by dsimp only;rw[u,if_pos rfl]⟩)⟩;exact quK { M with free:=A,fresh:=setL n (kd,b) M.fresh } E (by dsimp only;rw[u,if_pos rfl])
theorem qs8(I:M.Wf)(C:M.over=false)(J:0<=kd/\kd<256)(K:IsB b)(U:b.length<=500)(O:n∈M.fresh.map (·.1)): ∃M',putV M n kd b=(0,M')/\Turned D M M' n n (some (kd,b))/\M'.free=M.free/\M'.deferred=M.deferred:=by
 obtain⟨v,E⟩:=fresh_look.1 O;have e:putV M n kd b=(0,{ M with fresh:=setL n (kd,b) M.fresh }):=by unfold lookv at E;obtain⟨q,Q,_⟩:=yS.1 E;rw[putV,if_neg (by rw[C];decide),Q];dsimp only;rw[iN]
 have G:=(quI (n:=n) (kind:=kd) (body:=b) I J K).1;rw[e] at G;have u:∀x,lookv x (setL n (kd,b) M.fresh)=if x=n then some (kd,b) else lookv x M.fresh:=fun x=>qgj n x _ _
 have A:∀x,usedV { M with fresh:=setL n (kd,b) M.fresh } x=usedV M x:=fun x=>by rw[Bool.eq_iff_iff,qay,qay];dsimp only;rw[u];by_cases z:x=n;rw[if_pos z,z,E];simp;rw[if_neg z]
 refine⟨_,e,⟨G,C,rfl,rfl,rfl,rfl,fun h=>?_,rfl,fun x z _=>qfb { M with fresh:=setL n (kd,b) M.fresh } C C (by dsimp only;rw[u,if_neg z]) (A x),fun x z _=>qd0 { M with fresh:=setL n (kd,b) M.fresh } (by dsimp only;rw[u,if_neg z]) (A x),fun x z=>by rw[A x] at z;exact z,fun y R=>?_,fun h=>absurd rfl h⟩,rfl,rfl⟩
 have:=quG (n:=n) (kd:=kd) (l:=b) h
 rw[e] at this;exact this;cases R;refine⟨?_,.inl (fresh_look.2 ⟨(kd,b),by dsimp only;rw[u,if_pos rfl]⟩)⟩;exact quK { M with fresh:=setL n (kd,b) M.fresh } C (by dsimp only;rw[u,if_pos rfl])
theorem quH(h:M.over=false)(u:n∉M.fresh.map (·.1)):putV M n kd b=(10,M):=by rw[putV,if_neg (by rw[h];decide),qbh.2 u]
theorem qkD(hW:M.Wf)(K:M.over=false)(hu:InUse M n)(G:n≠q:=by omega): ∃M',dropV M n=(0,M')/\Turned D M M' q n none/\(pagerReadM D M' q=pagerReadM D M q)/\(InUse M' q↔InUse M q)/\M.free.length<=M'.free.length:=by
 have hw:=qrS (n:=n) hW;by_cases hf:n∈M.fresh.map (·.1);obtain⟨v,hv⟩:=fresh_look.1 hf;have ad:(M.fresh.map (·.1)).Nodup:=hW.keysNodup;have e:dropV M n=(0,{ M with fresh:=delL n M.fresh,free:=ins n M.free }):=by unfold lookv at hv;obtain⟨y,I,_⟩:=yS.1 hv;rw[dropV,if_neg (by rw[K];decide),I]
 rw[e] at hw;have J:∀x,lookv x (delL n M.fresh)=if x=n then none else lookv x M.fresh:=fun x=>qob n x _ ad
 have A:∀x,x≠n->usedV { M with fresh:=delL n M.fresh,free:=ins n M.free } x=usedV M x:=fun x u=>by rw[Bool.eq_iff_iff,qay,qay];dsimp only;rw[J,if_neg u,qdV];constructor;rintro⟨O,Q,R,U,V⟩;exact⟨O,Q,R,fun h=>U (.inr h),V⟩;rintro⟨O,Q,R,U,V⟩;exact⟨O,Q,R,fun h=>h.elim u U,V⟩
 have C:¬InUse { M with fresh:=delL n M.fresh,free:=ins n M.free } n:=fun h=>by rcases h with h|h;obtain⟨y,I⟩:=fresh_look.1 h;dsimp only at I;rw[J,if_pos rfl] at I;cases I;exact (qay.1 h).2.2.2.1 (qdV.2 (.inl rfl))
 have E:∀x,x≠n->pagerReadM D { M with fresh:=delL n M.fresh,free:=ins n M.free } x=pagerReadM D M x:=fun x u=>qfb { M with fresh:=delL n M.fresh,free:=ins n M.free } K K (by dsimp only;rw[J,if_neg u]) (A x u);have z:∀x,x≠n->(InUse { M with fresh:=delL n M.fresh,free:=ins n M.free } x↔InUse M x):=fun x u=>qd0 { M with fresh:=delL n M.fresh,free:=ins n M.free } (by dsimp only;rw[J,if_neg u]) (A x u);refine⟨_,e,⟨hw,K,rfl,rfl,rfl,rfl,fun h=>?_,rfl,fun x _ u=>E x u,fun x _ u=>z x u,fun x u=>?_,fun y I=>(nomatch I),fun _=>C⟩,E q fun e=>G e.symm,z q fun e=>G e.symm,?_⟩
 have:=qsI (n:=n) hW h
 rw[e] at this;exact this;by_cases hxn:x=n;subst hxn;exact absurd (.inr u) C;rw[A x hxn] at u;exact u;exact quh n M.free;have aa:usedV M n=true:=hu.resolve_left hf;have e:dropV M n=(0,{ M with deferred:=ins n M.deferred }):=by rw[dropV,if_neg (by rw[K];decide),qbh.2 hf];dsimp only;rw[if_pos aa]
 rw[e] at hw;have A:∀x,x≠n->usedV { M with deferred:=ins n M.deferred } x=usedV M x:=fun x u=>by rw[Bool.eq_iff_iff,qay,qay];dsimp only;rw[qdV];constructor;rintro⟨O,Q,R,U,V,h6⟩;exact⟨O,Q,R,U,fun h=>V (.inr h),h6⟩;rintro⟨O,Q,R,U,V,h6⟩;exact⟨O,Q,R,U,fun h=>h.elim u V,h6⟩
 have C:¬InUse { M with deferred:=ins n M.deferred } n:=fun h=>by rcases h with h|h;exact hf h;exact (qay.1 h).2.2.2.2.1 (qdV.2 (.inl rfl))
 have E:∀x,x≠n->pagerReadM D { M with deferred:=ins n M.deferred } x=pagerReadM D M x:=fun x u=>qfb { M with deferred:=ins n M.deferred } K K rfl (A x u);have z:∀x,x≠n->(InUse { M with deferred:=ins n M.deferred } x↔InUse M x):=fun x u=>qd0 { M with deferred:=ins n M.deferred } rfl (A x u);refine⟨_,e,⟨hw,K,rfl,rfl,rfl,rfl,fun h=>?_,rfl,fun x _ u=>E x u,fun x _ u=>z x u,fun x u=>?_,fun y I=>(nomatch I),fun _=>C⟩,E q fun e=>G e.symm,z q fun e=>G e.symm,zM _⟩;exact h;by_cases hxn:x=n;subst hxn;exact absurd (.inr u) C;rw[A x hxn] at u;exact u
end
noncomputable def loadN (D:DiskM) (M:PgM) (k v:Nat) (p:Int):NodeM×Int:=
 if (pagerReadM D M p).2.2≠0 then (zeroN,(pagerReadM D M p).2.2) else readNV (pagerReadM D M p).1 (pagerReadM D M p).2.1 k v
noncomputable def storeN (k v:Nat) (M:PgM) (p:Int) (n:NodeM):(Int×Int)×PgM:=
 if (writeNV n k v).2.2≠0 then ((0,2),M)
 else if p≠0/\(putV M p (writeNV n k v).1 (writeNV n k v).2.1).1≠10 then ((p,(putV M p (writeNV n k v).1 (writeNV n k v).2.1).1),(putV M p (writeNV n k v).1 (writeNV n k v).2.1).2)
 else if (makeV M (writeNV n k v).1 (writeNV n k v).2.1).1.2=0/\p≠0 then (((makeV M (writeNV n k v).1 (writeNV n k v).2.1).1.1,(dropV (makeV M (writeNV n k v).1 (writeNV n k v).2.1).2 p).1),(dropV (makeV M (writeNV n k v).1 (writeNV n k v).2.1).2 p).2)
 else makeV M (writeNV n k v).1 (writeNV n k v).2.1
structure NodeOk (n:NodeM) (k v:Nat):Prop where
 right:rightV n k v
 keys:∀ a∈n.keys,IsB a
 vals:∀ a∈n.vals,IsB a
 kids:∀ x∈n.kids,x<4294967296
theorem NodeOk.load{k v:Nat}{n:NodeM}(h:NodeOk n k v)(u:pagerReadM D M p=(kindN n,bodyN n,0)):loadN D M k v p=(n,0):=by unfold loadN;rw[u];exact (if_neg (fun h=>h rfl)).trans (qtc h.right h.kids)
theorem qqI{k v:Nat}{n:NodeM}(R:M.Wf)(ho:M.over=false)(U:NodeOk n k v)(O:p=0\/InUse M p)(hf:M.free≠[]): ∃q M',storeN k v M p n=((q,0),M')/\Turned D M M' q (if p=0 then q else p) (some (kindN n,bodyN n))/\(q=p\/¬InUse M q)/\M.free.length<=M'.free.length+1/\(p∈M.fresh.map (·.1)->q=p/\M'.free=M.free):=by
 have hw:writeNV n k v=(kindN n,bodyN n,0):=(by unfold writeNV;rw[if_pos U.right]);have hB:=qfZ U.keys U.vals;have hl:=(qef U.right).2;have hk:0<=kindN n/\kindN n<256:=(by unfold kindN;split<;>exact⟨oM,oM⟩);unfold storeN;rw[hw];dsimp only;rw[if_neg (fun h=>h rfl)];obtain⟨q,V,E⟩:∃q V,M.free=q::V:=by
  cases e:M.free with
  | nil=>exact absurd e hf
  | cons q V=>exact⟨q,V,rfl⟩
 obtain⟨M1,e1,u,G,Q,_⟩:=qri (D:=D) R ho hk hB hl E;rcases O with rfl|O;rw[if_neg (fun h=>h.1 rfl),if_neg (fun h=>h.2 rfl),e1];refine⟨q,M1,rfl,by rw[if_pos rfl];exact u,.inr G,by rw[E,Q];exact zM _,fun h=>?_⟩
 have:=(qd1 R (.inl h)).1
 omega;have A:p≠0:=(by have:=(qd1 R O).1;omega);by_cases hfp:p∈M.fresh.map (·.1);obtain⟨M2,e2,z,I,_⟩:=qs8 (D:=D) R ho hk hB hl hfp;rw[e2,if_pos ⟨A,(show (0:Int)≠10 by decide)⟩];exact⟨p,M2,rfl,by rw[if_neg A];exact z,.inl rfl,by rw[I];omega,fun _=>⟨rfl,I⟩⟩;rw[quH ho hfp,if_neg (fun h=>h.2 rfl),e1,if_pos ⟨rfl,A⟩];have J:p≠q:=fun e=>G (e▸O);have ad:InUse M1 p:=(u.use p J J).2 O;obtain⟨M2,e2,z,ae,af,I⟩:=qkD (D:=D) u.wf u.over ad J;dsimp only;rw[e2];refine⟨q,M2,rfl,?_,.inr G,by rw[E,yH,<- Q];omega,fun h=>absurd h hfp⟩;rw[if_neg A];exact⟨z.wf,z.over,z.roots.trans u.roots,z.sup.trans u.sup,z.lists.trans u.lists,z.named.trans u.named,fun h=>z.Named (u.Named h),z.turn.trans u.turn,fun x C K=>(z.rest x C K).trans (u.rest x C C),fun x C K=>(z.use x C K).trans (u.use x C C),fun x C=>u.old x (z.old x C),fun y hy=>by
  have:=u.wrote y hy
  exact⟨ae.trans this.1,af.2 this.2⟩,fun h=>z.left h⟩
section
structure Grown where
 page:Int
 fresh:Bool
 key:Key
 other:Int
def zeroG:Grown:=⟨0,false,[],0⟩
def insAt {α:Type} (l:List α) (i:Nat) (x:α):List α:=l.take i++[x]++l.drop i
def sizeN (n:NodeM) (k v:Nat):Nat×Nat:=if n.leaf then (n.keys.length,(capsV k v).1) else (n.kids.length,(capsV k v).2)
def halvesN (n:NodeM) (mid:Nat):NodeM×NodeM×Key:=
 if n.leaf then ({ n with keys:=n.keys.take mid,vals:=n.vals.take mid },{ n with keys:=n.keys.drop mid,vals:=n.vals.drop mid },n.keys.getD mid [])
 else ({ n with kids:=n.kids.take mid,keys:=n.keys.take (mid-1) },{ n with kids:=n.kids.drop mid,keys:=n.keys.drop mid },n.keys.getD (mid-1) [])
noncomputable def splitN (k v:Nat) (M:PgM) (p:Int) (n:NodeM) (fresh:Bool):(Grown×Int)×PgM:=
 if (sizeN n k v).1>(sizeN n k v).2 then
  if (storeN k v M 0 (halvesN n ((sizeN n k v).1 / 2)).2.1).1.2≠0 then ((zeroG,(storeN k v M 0 (halvesN n ((sizeN n k v).1 / 2)).2.1).1.2),(storeN k v M 0 (halvesN n ((sizeN n k v).1 / 2)).2.1).2)
  else ((⟨(storeN k v (storeN k v M 0 (halvesN n ((sizeN n k v).1 / 2)).2.1).2 p (halvesN n ((sizeN n k v).1 / 2)).1).1.1,fresh,(halvesN n ((sizeN n k v).1 / 2)).2.2,(storeN k v M 0 (halvesN n ((sizeN n k v).1 / 2)).2.1).1.1⟩,
    (storeN k v (storeN k v M 0 (halvesN n ((sizeN n k v).1 / 2)).2.1).2 p (halvesN n ((sizeN n k v).1 / 2)).1).1.2),
    (storeN k v (storeN k v M 0 (halvesN n ((sizeN n k v).1 / 2)).2.1).2 p (halvesN n ((sizeN n k v).1 / 2)).1).2)
 else ((⟨(storeN k v M p n).1.1,fresh,[],0⟩,(storeN k v M p n).1.2),(storeN k v M p n).2)
def grownN (n:NodeM) (c:Nat) (g:Grown):NodeM:=
 if g.other≠0 then { n with kids:=insAt (n.kids.set c g.page) (c+1) g.other,keys:=insAt n.keys c g.key } else { n with kids:=n.kids.set c g.page }
noncomputable def putN (D:DiskM) (k v:Nat) (key val:Key):Nat->PgM->Int->(Grown×Int)×PgM
 | 0,M,_=>((zeroG,-1),M)
 | f+1,M,p=>
  if (loadN D M k v p).2≠0 then ((zeroG,(loadN D M k v p).2),M)
  else if (loadN D M k v p).1.leaf then
   if (loadN D M k v p).1.keys[placeV (loadN D M k v p).1.keys key]?=some key then splitN k v M p { (loadN D M k v p).1 with vals:=(loadN D M k v p).1.vals.set (placeV (loadN D M k v p).1.keys key) val } false
   else splitN k v M p { (loadN D M k v p).1 with keys:=insAt (loadN D M k v p).1.keys (placeV (loadN D M k v p).1.keys key) key,vals:=insAt (loadN D M k v p).1.vals (placeV (loadN D M k v p).1.keys key) val } true
  else if (putN D k v key val f M ((loadN D M k v p).1.kids.getD (kidV (loadN D M k v p).1.keys key) 0)).1.2≠0 then
   ((zeroG,(putN D k v key val f M ((loadN D M k v p).1.kids.getD (kidV (loadN D M k v p).1.keys key) 0)).1.2),(putN D k v key val f M ((loadN D M k v p).1.kids.getD (kidV (loadN D M k v p).1.keys key) 0)).2)
  else if (putN D k v key val f M ((loadN D M k v p).1.kids.getD (kidV (loadN D M k v p).1.keys key) 0)).1.1.page=(loadN D M k v p).1.kids.getD (kidV (loadN D M k v p).1.keys key) 0/\(putN D k v key val f M ((loadN D M k v p).1.kids.getD (kidV (loadN D M k v p).1.keys key) 0)).1.1.other=0 then
   ((⟨p,(putN D k v key val f M ((loadN D M k v p).1.kids.getD (kidV (loadN D M k v p).1.keys key) 0)).1.1.fresh,[],0⟩,0),(putN D k v key val f M ((loadN D M k v p).1.kids.getD (kidV (loadN D M k v p).1.keys key) 0)).2)
  else splitN k v (putN D k v key val f M ((loadN D M k v p).1.kids.getD (kidV (loadN D M k v p).1.keys key) 0)).2 p (grownN (loadN D M k v p).1 (kidV (loadN D M k v p).1.keys key) (putN D k v key val f M ((loadN D M k v p).1.kids.getD (kidV (loadN D M k v p).1.keys key) 0)).1.1) (putN D k v key val f M ((loadN D M k v p).1.kids.getD (kidV (loadN D M k v p).1.keys key) 0)).1.1.fresh
structure Seg where
 page:Int
 size:Nat
 prs:Prs
 pages:List Int
abbrev Ent:=Key×Seg
def lfOf (L:Prs):NodeM:=⟨true,L.map (·.1),L.map (·.2),[]⟩
def inOf (es:List Ent):NodeM:=⟨false,(es.map (·.1)).tail,[],es.map (·.2.page)⟩
structure SepE (es:List Ent):Prop where
 pair:es.Pairwise fun a b=>KLt a.1 b.1/\∀ x∈a.2.prs,KLt x.1 b.1
 low:∀ e∈es,∀ x∈e.2.prs,KLe e.1 x.1
def minOf (k v:Nat) (h:Nat):Nat:=if h=0 then (capsV k v).1 / 2 else (capsV k v).2 / 2
def Has (D:DiskM) (M:PgM) (k v:Nat):Nat->Seg->Prop
 | 0,s=>s.pages=[s.page]/\s.size=s.prs.length/\NodeOk (lfOf s.prs) k v/\pagerReadM D M s.page=(3,bodyN (lfOf s.prs),0)
 | h+1,s=>∃u:List Ent,(u.map (·.1)).head?=some []/\s.size=u.length/\s.prs=u.flatMap (·.2.prs)/\s.pages=s.page::u.flatMap (·.2.pages)/\NodeOk (inOf u) k v/\pagerReadM D M s.page=(4,bodyN (inOf u),0)/\SepE u/\
   ∀e∈u,Has D M k v h e.2/\minOf k v h<=e.2.size
theorem qe8(x:Key):KLe [] x:=by unfold KLe KLt;cases x<;>simp[cmpL]
theorem qkX{x:Key}:¬KLt x []:=qe8 x
section
variable {D:DiskM} {M M':PgM} {k v:Nat}
theorem Has.mem:∀ {h:Nat} {s:Seg},Has D M k v h s->s.page∈s.pages
 | 0,s,u=>by rw[u.1];simp
 | h+1,s,⟨z,_,_,_,y,_⟩=>by rw[y];simp
theorem Has.frame:∀ {h:Nat} {s:Seg},Has D M k v h s->(∀x∈s.pages,pagerReadM D M' x=pagerReadM D M x)->Has D M' k v h s
 | 0,s,⟨y,A,u,C⟩,z=>⟨y,A,u,by rw[z s.page (by rw[y];simp)];exact C⟩
 | h+1,s,⟨I,J,y,A,u,C,K,O,G⟩,z=>⟨I,J,y,A,u,C,by rw[z s.page (by rw[u];simp)];exact K,O,fun e E=>⟨(G e E).1.frame fun x Q=>z x (by rw[u];exact zN _ (yJ.2 ⟨e,E,Q⟩)),(G e E).2⟩⟩
theorem Has.read:∀ {h:Nat} {s:Seg},Has D M k v h s->∀x∈s.pages,(pagerReadM D M x).2.2=0
 | 0,s,⟨y,C,z,A⟩,x,u=>by rw[y] at u;rw[zE.1 u,A]
 | h+1,s,⟨J,K,y,C,z,A,E,O,G⟩,x,u=>by rw[z] at u;rcases zG.1 u with rfl|u;rw[E];obtain⟨e,I,u⟩:=yJ.1 u;exact (G e I).1.read x u
theorem Has.used(u:M.over=false){s:Seg}(y:Has D M k v h s):∀x∈s.pages,InUse M x:=fun x z=>qjx u (y.read x z)
theorem rightV.leafNe(h:rightV (lfOf L) k v):L≠[]:=fun e=>by
 have:=h.2.2.2
 rw[if_pos (show (lfOf L).leaf=true from rfl)] at this;have u:=this.2.1;rw[e] at u;exact absurd u oM
theorem rightV.innerTwo{es:List Ent}(h:rightV (inOf es) k v):2<=es.length/\es.length<=(capsV k v).2:=by
 have:=h.2.2.2
 rw[if_neg (show ¬(inOf es).leaf=true from fun e=>nomatch e)] at this;have u:=this.2.2.1;have y:=this.2.2.2.1;have e:(inOf es).kids.length=es.length:=(by show (es.map _).length=_;rw[zK]);rw[e] at u y;exact⟨u,y⟩
theorem Has.ne:∀ {h:Nat} {s:Seg},Has D M k v h s->s.prs≠[]
 | 0,s,⟨A,u,y,z⟩=>y.right.leafNe
 | h+1,s,⟨C,G,A,u,y,z,I,J,E⟩=>fun e=>by
  have:=z.right.innerTwo
  cases C with
  | nil=>simp at this
  | cons a r=>
   rw[u,yG] at e;exact (E a oL).1.ne (append_eq_nil_iff.1 e).1
theorem SepE.mid{A B:List Ent}{e:Ent}(h:SepE (A++e::B)):(∀a∈A,∀x∈a.2.prs,KLt x.1 e.1)/\(∀b∈B,KLt e.1 b.1/\(∀x∈e.2.prs,KLt x.1 b.1)/\∀y∈b.2.prs,KLe b.1 y.1):=by
 have u:=pairwise_append.1 h.pair;refine⟨fun a C x E=>(u.2.2 a C e oL).2 x E,fun b z=>?_⟩
 have:=(yI.1 u.2.1).1 b z
 exact⟨this.1,this.2,h.low b (by simp[z])⟩
theorem SepE.sort:∀ {es:List Ent},SepE es->(∀e∈es,SortP e.2.prs)->SortP (es.flatMap (·.2.prs))
 | [],_,_=>.nil
 | e::es,h,A=>by rw[yG,SortP.app];have C:=yI.1 h.pair;refine⟨A e oL,SepE.sort ⟨C.2,fun e u=>h.low e (zN _ u)⟩ fun e u=>A e (zN _ u),fun x G y z=>?_⟩;obtain⟨b,E,z⟩:=yJ.1 z;exact qbq ((C.1 b E).2 x G) (h.low b (zN _ E) y z)
theorem Has.sort:∀ {h:Nat} {s:Seg},Has D M k v h s->SortP s.prs
 | 0,s,⟨z,u,y,A⟩=>y.right.2.2.1
 | h+1,s,⟨I,J,z,u,y,A,K,C,E⟩=>by rw[u];exact C.sort fun e G=>(E e G).1.sort
def PrsOk (k v:Nat) (L:Prs):Prop:=∀x∈L,x.1.length=k/\x.2.length=v/\IsB x.1/\IsB x.2
theorem Has.prsOk:∀ {h:Nat} {s:Seg},Has D M k v h s->PrsOk k v s.prs
 | 0,s,⟨A,z,y,C⟩=>fun x u=>⟨y.right.1 x.1 (zY u),y.right.2.1 x.2 (zY u),y.keys x.1 (zY u),y.vals x.2 (zY u)⟩
 | h+1,s,⟨I,J,A,z,y,C,K,O,E⟩=>fun x u=>by rw[z] at u;obtain⟨e,G,u⟩:=yJ.1 u;exact (E e G).1.prsOk x u
theorem qhb(y:PrsOk k v L)(z:SortP L)(A:1<=L.length)(C:L.length<=(capsV k v).1):NodeOk (lfOf L) k v:=by refine⟨⟨fun a u=>?_,fun a u=>?_,z,?_⟩,fun a u=>?_,fun a u=>?_,fun x h=>nomatch h⟩;obtain⟨x,h,rfl⟩:=mem_map.1 u;exact (y x h).1;obtain⟨x,h,rfl⟩:=mem_map.1 u;exact (y x h).2.1;rw[if_pos (show (lfOf L).leaf=true from rfl)];refine⟨rfl,?_,?_,?_⟩;show 1<=(L.map _).length;rw[zK];exact A;show (L.map _).length<=_;rw[zK];exact C;show (L.map _).length=(L.map _).length;rw[zK,zK];obtain⟨x,h,rfl⟩:=mem_map.1 u;exact (y x h).2.2.1;obtain⟨x,h,rfl⟩:=mem_map.1 u;exact (y x h).2.2.2
theorem qwT{es:List Ent}(z:∀a∈(es.map (·.1)).tail,a.length=k/\IsB a)(C:Rising (es.map (·.1)).tail)(E:2<=es.length)(G:es.length<=(capsV k v).2)(A:∀e∈es,2<=e.2.page/\e.2.page<4294967296):NodeOk (inOf es) k v:=by refine⟨⟨fun a h=>(z a h).1,fun a h=>(nomatch h),C,?_⟩,fun a h=>(z a h).2,fun a h=>(nomatch h),fun x u=>?_⟩;rw[if_neg (show ¬(inOf es).leaf=true from fun e=>nomatch e)];have e1:(inOf es).kids.length=es.length:=(by show (es.map _).length=_;rw[zK]);have I:(inOf es).keys.length=es.length-1:=(by show ((es.map _).tail).length=_;rw[length_tail,zK]);refine⟨fun x u=>?_,rfl,by rw[e1];exact E,by rw[e1];exact G,by rw[e1,I];omega⟩;obtain⟨e,y,rfl⟩:=mem_map.1 u;exact (A e y).1;obtain⟨e,y,rfl⟩:=mem_map.1 u;exact (A e y).2
theorem SepE.rising{es:List Ent}(h:SepE es):Rising (es.map (·.1)).tail:=by have u:(es.map (·.1)).Pairwise KLt:=pairwise_map.2 (h.pair.imp fun h=>h.1);exact List.Pairwise.sublist (tail_sublist _) u
structure Step (D:DiskM) (M M':PgM) (P P':List Int):Prop where
 wf:M'.Wf
 over:M'.over=false
 roots:M'.roots=M.roots
 sup:M'.sup=M.sup
 lists:M'.lists=M.lists
 named:M'.named=M.named
 Named:M.Named->M'.Named
 turn:M'.turn=M.turn
 rest:∀ x,InUse M x->x∉P->pagerReadM D M' x=pagerReadM D M x/\InUse M' x/\x∉P'
 use:∀ x,InUse M' x->x∈P'\/(InUse M x/\x∉P)
 has:∀ x∈P',InUse M' x
 new:∀ x∈P',x∈P\/¬ InUse M x
 nodup:P'.Nodup
 old:∀ x,usedV M' x=true->usedV M x=true
theorem Step.refl(y:M.Wf)(z:M.over=false){P:List Int}(A:∀x∈P,InUse M x)(C:P.Nodup):Step D M M P P:=
 ⟨y,z,rfl,rfl,rfl,rfl,id,rfl,fun x u E=>⟨rfl,u,E⟩,fun x u=>by by_cases h:x∈P;exact .inl h;exact .inr ⟨u,h⟩,A,fun x u=>.inl u,C,fun x u=>u⟩
theorem Step.perm{P P' Q C:List Int}(h:Step D M M' P P')(A:P.Perm Q)(u:P'.Perm C):Step D M M' Q C:=
 ⟨h.wf,h.over,h.roots,h.sup,h.lists,h.named,h.Named,h.turn,fun x y E=>by obtain⟨G,I,J⟩:=h.rest x y (fun z=>E (A.mem_iff.1 z));exact⟨G,I,fun z=>J (u.mem_iff.2 z)⟩,fun x y=>(h.use x y).imp (fun h=>u.mem_iff.1 h) fun h=>⟨h.1,fun z=>h.2 (A.mem_iff.2 z)⟩,fun x y=>h.has x (u.mem_iff.2 y),fun x y=>(h.new x (u.mem_iff.2 y)).imp (fun h=>A.mem_iff.1 h) id,u.nodup_iff.1 h.nodup,h.old⟩
theorem Step.beside{P P' Z:List Int}(h:Step D M M' P P')(I:∀x∈Z,InUse M x)(K:(Z++P).Nodup):Step D M M' (Z++P) (Z++P'):=by have J:=yL.1 K;have A:∀x∈Z,x∉P:=fun x u E=>J.2.2 x u x E rfl;refine⟨h.wf,h.over,h.roots,h.sup,h.lists,h.named,h.Named,h.turn,fun x u E=>?_,fun x u=>?_,fun x u=>?_,fun x u=>?_,?_,h.old⟩;obtain⟨C,G,O⟩:=h.rest x u (fun z=>E (zI _ z));exact⟨C,G,fun z=>(zD.1 z).elim (fun z=>E (zH _ z)) O⟩;rcases h.use x u with C|⟨C,G⟩;exact .inl (zI _ C);by_cases hz:x∈Z;exact .inl (zH _ hz);exact .inr ⟨C,fun z=>(zD.1 z).elim hz G⟩;rcases zD.1 u with u|u;exact (h.rest x (I x u) (A x u)).2.1;exact h.has x u;rcases zD.1 u with u|u;exact .inl (zH _ u);exact (h.new x u).imp (fun h=>zI _ h) id;rw[yL];exact⟨J.1,h.nodup,fun x u y Q e=>(h.rest x (I x u) (A x u)).2.2 (e▸Q)⟩
theorem Step.trans{M1:PgM}{P Q R:List Int}(h:Step D M M1 P Q)(g:Step D M1 M' Q R):Step D M M' P R:=
 ⟨g.wf,g.over,g.roots.trans h.roots,g.sup.trans h.sup,g.lists.trans h.lists,g.named.trans h.named,fun x=>g.Named (h.Named x),g.turn.trans h.turn,fun x y C=>by
  obtain⟨u,z,A⟩:=h.rest x y C;obtain⟨E,G,I⟩:=g.rest x z A;exact⟨E.trans u,G,I⟩,fun x y=>by
  rcases g.use x y with u|⟨u,z⟩;exact .inl u;exact (h.use x u).elim (fun A=>absurd A z) .inr,g.has,fun x y=>by
  rcases g.new x y with u|u;exact h.new x u;by_cases hP:x∈P;exact .inl hP;by_cases hu:InUse M x;exact absurd (h.rest x hu hP).2.1 u;exact .inr hu,g.nodup,fun x y=>h.old x (g.old x y)⟩
theorem Turned.step(E:M.over=false)(h:Turned D M M' q p (some r))(G:InUse M p)(z:q=p\/¬InUse M q):Step D M M' [p] [q]:=by
 have C:=h.wrote r rfl;refine⟨h.wf,h.over,h.roots,h.sup,h.lists,h.named,h.Named,h.turn,fun x A u=>?_,fun x A=>?_,fun x A=>?_,fun x A=>?_,oL,h.old⟩;have u:x≠p:=(oP u);have y:x≠q:=fun e=>by rcases z with z|z;exact u (e.trans z);exact z (e▸A)
 exact⟨h.rest x y u,(h.use x y u).2 A,by simpa using y⟩;by_cases y:x=q;exact .inl (by simp[y]);by_cases u:x=p;subst u;exact absurd A (h.left (fun e=>y e));exact .inr ⟨(h.use x y u).1 A,by simpa using u⟩;rw[zE.1 A];exact C.2;rw[zE.1 A];rcases z with z|z;exact .inl (by simp[z]);exact .inr z
theorem Turned.fresh(C:M.over=false)(h:Turned D M M' q q (some r))(z:¬InUse M q):Step D M M' [] [q]:=by have A:=h.wrote r rfl;refine⟨h.wf,h.over,h.roots,h.sup,h.lists,h.named,h.Named,h.turn,fun x y _=>?_,fun x y=>?_,fun x y=>?_,fun x y=>?_,oL,h.old⟩;have u:x≠q:=fun e=>z (e▸y);exact⟨h.rest x u u,(h.use x u u).2 y,by simpa using u⟩;by_cases u:x=q;exact .inl (by simp[u]);exact .inr ⟨(h.use x u u).1 y,oL⟩;rw[zE.1 y];exact A.2;rw[zE.1 y];exact .inr z
end
end
section
section
variable {D:DiskM} {M M':PgM} {k v:Nat}
theorem qio{n:NodeM}(y:M.Wf)(z:M.over=false)(A:NodeOk n k v)(h:InUse M p)(C:M.free≠[]): ∃q M',storeN k v M p n=((q,0),M')/\Step D M M' [p] [q]/\pagerReadM D M' q=(kindN n,bodyN n,0)/\M.free.length<=M'.free.length+1/\(p∈M.fresh.map (·.1)->q=p/\M'.free=M.free):=by obtain⟨q,M',e,t,E,G,I⟩:=qqI (D:=D) y z A (.inr h) C;have u:p≠0:=(by have:=(qd1 y h).1;omega);rw[if_neg u] at t;exact⟨q,M',e,t.step z h E,(t.wrote _ rfl).1,G,I⟩
theorem qjJ{n:NodeM}(z:M.Wf)(u:M.over=false)(A:NodeOk n k v)(C:M.free≠[]): ∃q M',storeN k v M 0 n=((q,0),M')/\Step D M M' [] [q]/\pagerReadM D M' q=(kindN n,bodyN n,0)/\M.free.length<=M'.free.length+1/\q≠0:=by obtain⟨q,M',e,t,E,G,_⟩:=qqI (D:=D) z u A (.inl rfl) C;rw[if_pos rfl] at t;have y:=t.wrote _ rfl;have I:=(qd1 t.wf y.2).1;have h:¬InUse M q:=E.resolve_left oJ;exact⟨q,M',e,t.fresh u h,y.1,G,oJ⟩
theorem qk6{n:NodeM}{fresh:Bool}(h:M.Wf)(u:M.over=false)(y:NodeOk n k v)(G:(sizeN n k v).1<=(sizeN n k v).2)(z:InUse M p)(A:M.free≠[]): ∃q M',splitN k v M p n fresh=((⟨q,fresh,[],0⟩,0),M')/\Step D M M' [p] [q]/\pagerReadM D M' q=(kindN n,bodyN n,0)/\M.free.length<=M'.free.length+1:=by obtain⟨q,M',e,st,C,E,_⟩:=qio (D:=D) h u y z A;refine⟨q,M',?_,st,C,E⟩;unfold splitN;rw[iN,e]
theorem qoC{n:NodeM}{fresh:Bool}{mid:Nat}(V:M.Wf)(ho:M.over=false)(y:(sizeN n k v).1 / 2=mid)(h1:NodeOk (halvesN n mid).1 k v)(h2:NodeOk (halvesN n mid).2.1 k v)(hs:(sizeN n k v).1>(sizeN n k v).2)(Q:InUse M p)(R:2<=M.free.length): ∃q o M',splitN k v M p n fresh=((⟨q,fresh,(halvesN n mid).2.2,o⟩,0),M')/\o≠0/\Step D M M' [p] [q,o]/\pagerReadM D M' q=(kindN (halvesN n mid).1,bodyN (halvesN n mid).1,0)/\pagerReadM D M' o=(kindN (halvesN n mid).2.1,bodyN (halvesN n mid).2.1,0)/\M.free.length<=M'.free.length+2:=by
 subst y;obtain⟨o,M1,e1,u,G,z,I⟩:=qjJ (D:=D) V ho h2 (fun e=>by rw[e] at R;exact absurd R oM);have U:=u.beside (Z:=[p]) (fun x J=>by rw[zE.1 J];exact Q) oL;have K:InUse M1 p:=U.has p oL;obtain⟨q,M2,e2,A,O,ag,_⟩:=qio (D:=D) u.wf u.over h1 K (fun e=>by rw[e] at z;simp at z;omega);have C:o≠p:=fun e=>by rcases u.new o oL with h|h;cases h;exact h (e▸Q)
 have E:InUse M1 o:=u.has o oL;have s2:=A.beside (Z:=[o]) (fun x J=>by rw[zE.1 J];exact E) (oP C);refine⟨q,o,M2,?_,I,(U.perm (.refl _) (List.Perm.swap _ _ _)).trans (s2.perm (.refl _) (List.Perm.swap _ _ _)),O,?_,oJ⟩;unfold splitN;rw[if_pos hs,e1];dsimp only;rw[if_neg (fun h=>h rfl),e2];rw[(A.rest o E (oP C)).1];exact G
theorem qxJ{val:Key}{i:Nat}(h:(keysP L)[i]?=some key):(⟨(lfOf L).leaf,keysP L,(lfOf L).vals.set i val,(lfOf L).kids⟩:NodeM)=lfOf (L.set i (key,val)):=by
 unfold lfOf;rw[map_set,map_set];have:(L.map (·.1)).set i key=L.map (·.1):=by obtain⟨u,y⟩:=zP.1 h;rw[<- y];exact set_getElem_self u
 rw[this]
theorem qw3{val:Key}{i:Nat}:(⟨(lfOf L).leaf,insAt (keysP L) i key,insAt (lfOf L).vals i val,(lfOf L).kids⟩:NodeM)=lfOf (L.take i++[(key,val)]++L.drop i):=by unfold lfOf insAt;simp only[xJ,xL,xM,xK,map_nil]
theorem qup{mid:Nat}(h:mid<L.length):halvesN (lfOf L) mid=(lfOf (L.take mid),lfOf (L.drop mid),L[mid].1):=by unfold halvesN;rw[if_pos (show (lfOf L).leaf=true from rfl)];unfold lfOf;simp only[xL,xM,Prod.mk.injEq,true_and];rw[yQ,zQ,zA h];rfl
theorem qj5:sizeN (lfOf L) k v=(L.length,(capsV k v).1):=by unfold sizeN;rw[if_pos (show (lfOf L).leaf=true from rfl)];show ((L.map _).length,_)=_;rw[zK]
theorem PrsOk.sub{L':Prs}(h:PrsOk k v L)(u:∀x∈L',x∈L):PrsOk k v L':=fun x y=>h x (u x y)
theorem SortP.take{L:Prs}(h:SortP L)(n:Nat):SortP (L.take n):=by unfold SortP keysP;rw[xL];exact Rising.take h n
theorem SortP.drop{L:Prs}(h:SortP L)(n:Nat):SortP (L.drop n):=by unfold SortP keysP;rw[xM];exact Rising.drop h n
theorem qfp(h:NodeOk (lfOf L) k v)(u:pagerReadM D M q=(3,bodyN (lfOf L),0)):Has D M k v 0 ⟨q,L.length,L,[q]⟩:=⟨rfl,rfl,h,u⟩
structure PutOk (D:DiskM) (M:PgM) (k v:Nat) (h:Nat) (s:Seg) (key val:Key) (g:Grown) (M':PgM):Prop where
 fresh:g.fresh=decide (key∉keysP s.prs)
 free:M.free.length<=M'.free.length+2*(h+1)
 res:(g.other=0/\∃ n P,Has D M' k v h ⟨g.page,n,insP key val s.prs,P⟩/\Step D M M' s.pages P/\s.size<=n)\/
  (g.other≠0/\∃ n1 L1 P1 n2 L2 P2,Has D M' k v h ⟨g.page,n1,L1,P1⟩/\Has D M' k v h ⟨g.other,n2,L2,P2⟩/\L1++L2=insP key val s.prs/\(∀ x∈L1,KLt x.1 g.key)/\(∀ y∈L2,KLe g.key y.1)/\g.key.length=k/\IsB g.key/\minOf k v h<=n1/\minOf k v h<=n2/\Step D M M' s.pages (P1++P2))
structure CapsOk (k v:Nat):Prop where
 leaf:2<=(capsV k v).1
 inner:4<=(capsV k v).2
theorem qqr{L':Prs}{val:Key}{fresh:Bool}(hc:CapsOk k v)(V:M.Wf)(ho:M.over=false)(hp:InUse M p)(Q:2<=M.free.length)(J:PrsOk k v L')(K:SortP L')(h1:1<=L'.length)(h2:L'.length<=(capsV k v).1+1)(h3:L.length<=L'.length)(he:L'=insP key val L)(z:fresh=decide (key∉keysP L)): ∃g M',splitN k v M p (lfOf L') fresh=((g,0),M')/\PutOk D M k v 0 ⟨p,L.length,L,[p]⟩ key val g M':=by by_cases hb:L'.length<=(capsV k v).1;have hn:=qhb J K h1 hb;obtain⟨q,M',e,st,hr,hl⟩:=qk6 (D:=D) (fresh:=fresh) V ho hn (by rw[qj5];exact hb) hp (fun e=>by rw[e] at Q;exact absurd Q oM);refine⟨_,M',e,z,by show M.free.length<=M'.free.length+2;omega,.inl ⟨rfl,L'.length,[q],?_,st,h3⟩⟩;rw[<- he];exact qfp hn hr;have ae:L'.length=(capsV k v).1+1:=oJ;have ao:=hc.leaf;have h:L'.length / 2<L'.length:=oJ;have R:=qup h;have n1:NodeOk (lfOf (L'.take (L'.length / 2))) k v:=qhb (J.sub fun x A=>yU A) (K.take _) (by rw[yK];omega) (by rw[yK];omega);have n2:NodeOk (lfOf (L'.drop (L'.length / 2))) k v:=qhb (J.sub fun x A=>yT A) (K.drop _) (by rw[yB];omega) (by rw[yB];omega);obtain⟨q,o,M',e,U,st,C,E,hl⟩:=qoC (D:=D) (k:=k) (v:=v) (p:=p) (fresh:=fresh) (mid:=L'.length / 2) (n:=lfOf L') V ho (by rw[qj5]) (by rw[R];exact n1) (by rw[R];exact n2) (by rw[qj5];show L'.length>_;omega) hp Q;rw[R] at e C E;have G:L'=L'.take (L'.length / 2)++L'.drop (L'.length / 2):=(xC _ _).symm;have hd:=zX h;have u:=K;rw[G] at u;have u:=SortP.app.1 u;have I:=J _ (zW h);refine⟨⟨q,fresh,L'[L'.length / 2].1,o⟩,M',e,z,by show M.free.length<=M'.free.length+2;omega,.inr ⟨U,(L'.take (L'.length / 2)).length,_,[q],(L'.drop (L'.length / 2)).length,_,[o],qfp n1 C,qfp n2 E,by rw[<- G];exact he,fun x A=>u.2.2 x A _ (by rw[hd];exact mem_cons_self),fun y O=>?_,I.1,I.2.2.1,?_,?_,st⟩⟩;have h5:=u.2.1;rw[hd] at O h5;rcases zG.1 O with rfl|O;exact qaD;exact qaX (qby (x:=L'[L'.length / 2].1) (r:=keysP _) h5 y.1 (zY O));rw[yK];show (capsV k v).1 / 2<=_;omega;rw[yB];show (capsV k v).1 / 2<=_;omega
theorem qh2{es:List Ent}(u:(es.map (·.1)).head?=some [])(I:SepE es):∃A e B,es=A++e::B/\A.length=kidV ((es.map (·.1)).tail) key/\KLe e.1 key/\(∀b∈B,KLt key b.1)/\(es.map (·.2.page)).getD (kidV ((es.map (·.1)).tail) key) 0=e.2.page:=by
 have J:=I.rising;have y:=qj3 ((es.map (·.1)).tail) key;have z:es≠[]:=fun e=>by rw[e] at u;cases u
 have E:0<es.length:=length_pos_iff.2 z;have h:kidV ((es.map (·.1)).tail) key<es.length:=(by rw[length_tail,zK] at y;omega);generalize G:kidV ((es.map (·.1)).tail) key=c at h;have C:es=es.take c++es[c]::es.drop (c+1):=(by rw[<- zX h,xC]);refine⟨es.take c,es[c],es.drop (c+1),C,by rw[yK];omega,?_,fun b K=>?_,?_⟩;cases c with
 | zero=>
  have:es[0].1=[]:=by
   cases es with
   | nil=>cases u
   | cons a r=>simpa using u
  rw[this];exact qe8 _
 | succ c=>
  refine qsT (l:=(es.map (·.1)).tail) (k:=key) ?_;rw[G];have O:(es.map (·.1)).tail[c]?=some es[c+1].1:=(by rw[List.getElem?_tail,zQ,zA h];rfl);refine yE (i:=c) ?_;rw[xA,iP];exact O
 refine qrh (l:=(es.map (·.1)).tail) J ?_;rw[G];have:(es.map (·.1)).tail.drop c=(es.drop (c+1)).map (·.1):=(by rw[<- drop_one,xB,xM,Nat.add_comm]);rw[this];exact zY K;rw[yQ,zQ,zA h];rfl
theorem qaL{α:Type}{f:Ent->List α}{A B:List Ent}{e:Ent}:(A++e::B).flatMap f=A.flatMap f++(f e++B.flatMap f):=by rw[yP,yG]
theorem SepE.put{A B:List Ent}{e:Ent}{s:Seg}(h:SepE (A++e::B))(E:KLe e.1 key)(G:∀b∈B,KLt key b.1)(J:∀x∈s.prs,x.1=key\/x∈e.2.prs):SepE (A++(e.1,s)::B):=by have C:=pairwise_append.1 h.pair;have I:=yI.1 C.2.1;refine⟨pairwise_append.2 ⟨C.1,yI.2 ⟨fun b u=>⟨(I.1 b u).1,fun x z=>?_⟩,I.2⟩,fun a K b u=>?_⟩,fun b u x z=>?_⟩;rcases J x z with y|y;rw[y];exact G b u;exact (I.1 b u).2 x y;rcases zG.1 u with rfl|u;exact C.2.2 a K e oL;exact C.2.2 a K b (by simp[u]);rcases zD.1 u with u|u;exact h.low b (by simp[u]) x z;rcases zG.1 u with rfl|u;rcases J x z with y|y;rw[y];exact E;exact h.low e oL x y;exact h.low b (by simp[u]) x z
theorem SepE.cut2{A B:List Ent}{lo:Key}{s s1 s2:Seg}(h:SepE (A++(lo,s)::B))(E:s.prs=s1.prs++s2.prs)(h1:∀x∈s1.prs,KLt x.1 m)(h2:∀y∈s2.prs,KLe m y.1)(G:s1.prs≠[])(I:s2.prs≠[]):SepE (A++(lo,s1)::(m,s2)::B):=by have R:=pairwise_append.1 h.pair;have J:=yI.1 R.2.1;have K:=h.low (lo,s) oL;obtain⟨U,O⟩:=exists_mem_of_ne_nil _ G;obtain⟨V,Q⟩:=exists_mem_of_ne_nil _ I;have hm:KLt lo m:=qg9 (K U (by show U∈s.prs;rw[E];exact zH _ O)) (h1 U O);have ab:∀b∈B,KLt m b.1:=fun b u=>qg9 (h2 V Q) ((J.1 b u).2 V (by show V∈s.prs;rw[E];exact zI _ Q));refine⟨pairwise_append.2 ⟨R.1,yI.2 ⟨fun b u=>?_,yI.2 ⟨fun b u=>⟨ab b u,fun x z=>(J.1 b u).2 x (by show x∈s.prs;rw[E];exact zI _ z)⟩,J.2⟩⟩,fun a ha b u=>?_⟩,fun b u x z=>?_⟩;rcases zG.1 u with rfl|u;exact⟨hm,fun x z=>h1 x z⟩;exact⟨(J.1 b u).1,fun x z=>(J.1 b u).2 x (by show x∈s.prs;rw[E];exact zH _ z)⟩;have C:=R.2.2 a ha (lo,s) oL;rcases zG.1 u with rfl|u;exact C;rcases zG.1 u with rfl|u;exact⟨qaB C.1 hm,fun x z=>qaB (C.2 x z) hm⟩;exact R.2.2 a ha b (by simp[u]);rcases zD.1 u with u|u;exact h.low b (by simp[u]) x z;rcases zG.1 u with rfl|u;exact K x (by show x∈s.prs;rw[E];exact zH _ z);rcases zG.1 u with rfl|u;exact h2 x z;exact h.low b (by simp[u]) x z
theorem qj1{es:List Ent}:sizeN (inOf es) k v=(es.length,(capsV k v).2):=by unfold sizeN;rw[if_neg (show ¬(inOf es).leaf=true from fun e=>nomatch e)];show ((es.map _).length,_)=_;rw[zK]
def relow:List Ent->List Ent
 | []=>[]
 | e::r=>([],e.2)::r
theorem qvJ(es:List Ent):inOf (relow es)=inOf es:=by cases es<;>rfl
theorem quc{es:List Ent}{mid:Nat}(z:1<=mid)(h:mid<es.length):halvesN (inOf es) mid=(inOf (es.take mid),inOf (relow (es.drop mid)),es[mid].1):=by
 unfold halvesN;rw[if_neg (show ¬(inOf es).leaf=true from fun e=>nomatch e),qvJ];unfold inOf;have e1:(es.map (·.1)).tail.take (mid-1)=((es.take mid).map (·.1)).tail:=by rw[<- drop_one,<- drop_one,xL,drop_take]
 have u:(es.map (·.1)).tail.drop mid=((es.drop mid).map (·.1)).tail:=(by rw[<- drop_one,<- drop_one,xM,xB,xB,Nat.add_comm]);have y:(es.map (·.1)).tail.getD (mid-1) []=es[mid].1:=(by rw[yQ,List.getElem?_tail,zQ,show mid-1+1=mid by omega,zA h];rfl);dsimp only;rw[e1,u,y];simp only[xL,xM]
theorem SepE.take{es:List Ent}(h:SepE es)(n:Nat):SepE (es.take n):=⟨List.Pairwise.sublist (take_sublist n es) h.pair,fun e u=>h.low e (yU u)⟩
theorem SepE.drop{es:List Ent}(h:SepE es)(n:Nat):SepE (es.drop n):=⟨List.Pairwise.sublist (drop_sublist n es) h.pair,fun e u=>h.low e (yT u)⟩
theorem SepE.relow{es:List Ent}(h:SepE es):SepE (relow es):=by
 cases es with
 | nil=>exact h
 | cons e r=>
  have z:=yI.1 h.pair;refine⟨yI.2 ⟨fun b u=>⟨?_,(z.1 b u).2⟩,z.2⟩,fun b u x C=>?_⟩
  have:=(z.1 b u).1
  cases A:b.1 with
  | nil=>rw[A] at this;exact absurd this qkX
  | cons y l=>show cmpL [] (y::l)<0;simp[cmpL]
  rcases zG.1 u with rfl|u;exact qe8 _;exact h.low b (zN _ u) x C
theorem qmU{α:Type}{f:Seg->List α}(es:List Ent):(relow es).flatMap (fun e=>f e.2)=es.flatMap fun e=>f e.2:=by cases es<;>rfl
theorem qov{P:Seg->Prop}{es:List Ent}(h:∀e∈es,P e.2):∀e∈relow es,P e.2:=by
 cases es with
 | nil=>exact h
 | cons a r=>
  intro e u;rcases zG.1 u with rfl|u;exact h a oL;exact h e (zN _ u)
theorem qtd{es:List Ent}(h:es≠[]):((relow es).map (·.1)).head?=some []:=by cases es with|nil=>exact absurd rfl h|cons a r=>rfl
theorem quN(es:List Ent):(relow es).length=es.length:=by cases es<;>rfl
def KeysOk (k:Nat) (es:List Ent):Prop:=∀e∈es.tail,e.1.length=k/\IsB e.1
theorem KeysOk.tail{es:List Ent}(h:KeysOk k es):∀a∈(es.map (·.1)).tail,a.length=k/\IsB a:=fun a u=>by rw[<- map_tail] at u;obtain⟨e,y,rfl⟩:=mem_map.1 u;exact h e y
theorem KeysOk.of{es:List Ent}(h:NodeOk (inOf es) k v):KeysOk k es:=fun e u=>by have:e.1∈(inOf es).keys:=(by show e.1∈(es.map (·.1)).tail;rw[<- map_tail];exact zY u);exact⟨h.right.1 _ this,h.keys _ this⟩
theorem qba(u:M.Wf){x:Int}(h:InUse M x):2<=x/\x<4294967296:=by have y:=qd1 u h;have z:=u.n4;omega
theorem qcX{es:List Ent}(u:(es.map (·.1)).head?=some [])(y:NodeOk (inOf es) k v)(z:pagerReadM D M q=(4,bodyN (inOf es),0))(A:SepE es)(C:∀e∈es,Has D M k v h e.2/\minOf k v h<=e.2.size): Has D M k v (h+1) ⟨q,es.length,es.flatMap (·.2.prs),q::es.flatMap (·.2.pages)⟩:=⟨es,u,rfl,rfl,rfl,y,z,A,C⟩
theorem qvI{A B:List Ent}{e:Ent}{s1 s2:Seg}(I:((A++e::B).map (·.1)).head?=some []){g:Grown}(u:g.page=s1.page)(y:g.other=s2.page)(z:g.key=m)(C:g.other≠0):grownN (inOf (A++e::B)) A.length g=inOf (A++(e.1,s1)::(m,s2)::B):=by
 unfold grownN;rw[if_pos C,u,y,z];unfold inOf insAt;dsimp only;congr 1;cases A with
 | nil=>simp
 | cons a A=>
  have:(A.map (·.1)++e.1::B.map (·.1)).take (A.length+1)=A.map (·.1)++[e.1]:=(by rw[show A.map (·.1)++e.1::B.map (·.1)=(A.map (·.1)++[e.1])++B.map (·.1) by simp];exact take_left' oL);have E:(A.map (·.1)++e.1::B.map (·.1)).drop (A.length+1)=B.map (·.1):=(by rw[show A.map (·.1)++e.1::B.map (·.1)=(A.map (·.1)++[e.1])++B.map (·.1) by simp];exact drop_left' oL);simp only[xJ,xK,xH,tail_cons,yH];rw[this,E];simp
 have G:(A.map (·.2.page)).length=A.length:=zK _;have h:(A.map (·.2.page)++e.2.page::B.map (·.2.page)).set A.length s1.page=(A.map (·.2.page)++[s1.page])++B.map (·.2.page):=(by rw[set_append_right _ _ oJ,G,Nat.sub_self];simp);simp only[xJ,xK];rw[h,take_left' oL,drop_left' oL];simp
theorem qub{A B:List Ent}{e:Ent}{s1:Seg}{g:Grown}(u:g.page=s1.page)(y:g.other=0):grownN (inOf (A++e::B)) A.length g=inOf (A++(e.1,s1)::B):=by unfold grownN;rw[if_neg (fun h=>h y),u];unfold inOf;dsimp only;have z:(A.map (·.2.page)).length=A.length:=zK _;congr 1;simp;simp only[xJ,xK];rw[set_append_right _ _ oJ,z,Nat.sub_self];rfl
theorem qie{α:Type}{a x b z:List α}:(a++(x++b)).Perm ((a++b)++x):=by rw[zV];exact List.Perm.append_left a perm_append_comm
theorem Step.node{M1 E:PgM}{a x y:List Int}{Q:List Int}(G:∀z∈p::(a++(x++b)),InUse M z)(I:(p::(a++(x++b))).Nodup)(J:Step D M M1 x y)(K:Step D M1 E [p] Q):Step D M E (p::(a++(x++b))) (Q++(a++(y++b))):=by have h:(p::(a++(x++b))).Perm ((p::(a++b))++x):=(by rw[xH];exact (qie (z:=a)).cons p);have A:=(J.beside (Z:=p::(a++b)) (fun z C=>G z (h.mem_iff.2 (zH _ C))) (h.nodup_iff.1 I));have u:((p::(a++b))++y).Perm ((a++(y++b))++[p]):=(by refine List.Perm.trans ?_ perm_append_comm;rw[xH];exact ((qie (z:=a)).symm).cons p);have O:=K.beside (Z:=a++(y++b)) (fun z C=>A.has z (u.mem_iff.2 (zH _ C))) (u.nodup_iff.1 A.nodup);exact ((A.perm (h.symm) u).trans O).perm (.refl _) perm_append_comm
theorem qkK{es:List Ent}{fresh:Bool}(J:M.Wf)(C:M.over=false)(K:(es.map (·.1)).head?=some [])(E:NodeOk (inOf es) k v)(u:es.length<=(capsV k v).2)(O:SepE es)(z:∀e∈es,Has D M k v h e.2/\minOf k v h<=e.2.size)(Q:InUse M p)(A:p∉es.flatMap (·.2.pages))(G:1<=M.free.length:=by omega): ∃q M',splitN k v M p (inOf es) fresh=((⟨q,fresh,[],0⟩,0),M')/\Step D M M' [p] [q]/\Has D M' k v (h+1) ⟨q,es.length,es.flatMap (·.2.prs),q::es.flatMap (·.2.pages)⟩/\M.free.length<=M'.free.length+1:=by obtain⟨q,M',e,st,R,U⟩:=qk6 (D:=D) (fresh:=fresh) J C E (by rw[qj1];exact u) Q (fun e=>by rw[e] at G;exact absurd G oM);refine⟨q,M',e,st,qcX K E R O fun b y=>⟨(z b y).1.frame fun x I=>?_,(z b y).2⟩,U⟩;exact (st.rest x ((z b y).1.used C x I) (fun V=>A (yJ.2 ⟨b,y,by rw[<- zE.1 V];exact I⟩))).1
theorem qdS{es:List Ent}(z:M.Wf)(A:M.over=false)(C:KeysOk k es)(E:SepE es)(G:2<=es.length)(I:es.length<=(capsV k v).2)(u:∀e∈es,Has D M k v h e.2):NodeOk (inOf es) k v:=
 qwT C.tail E.rising G I fun e y=>qba z ((u e y).used A e.2.page (u e y).mem)
theorem qte{es:List Ent}(h:KeysOk k es):KeysOk k (relow es):=by cases es<;>exact h
theorem qud{es:List Ent}{fresh:Bool}(hc:CapsOk k v)(hW:M.Wf)(ho:M.over=false)(h0:(es.map (·.1)).head?=some [])(hk:KeysOk k es)(au:es.length=(capsV k v).2+1)(hs:SepE es)(I:∀e∈es,Has D M k v h e.2/\minOf k v h<=e.2.size)(hu:InUse M p)(aj:p∉es.flatMap (·.2.pages))(hf:2<=M.free.length:=by omega): ∃q o m M' J L1 P1 K L2 P2,splitN k v M p (inOf es) fresh=((⟨q,fresh,m,o⟩,0),M')/\o≠0/\Step D M M' [p] [q,o]/\Has D M' k v (h+1) ⟨q,J,L1,q::P1⟩/\Has D M' k v (h+1) ⟨o,K,L2,o::P2⟩/\L1++L2=es.flatMap (·.2.prs)/\P1++P2=es.flatMap (·.2.pages)/\(∀x∈L1,KLt x.1 m)/\(∀y∈L2,KLe m y.1)/\m.length=k/\IsB m/\minOf k v (h+1)<=J/\minOf k v (h+1)<=K/\M.free.length<=M'.free.length+2:=by
 have aC:=hc.inner;have z:es.length / 2<es.length:=oJ;have hh:=quc (es:=es) (mid:=es.length / 2) oJ z;have lt:(es.take (es.length / 2)).length=es.length / 2:=(by rw[yK];omega);have ld:(relow (es.drop (es.length / 2))).length=es.length-es.length / 2:=(by rw[quN,yB]);have A:∀e∈es.take (es.length / 2),Has D M k v h e.2/\minOf k v h<=e.2.size:=fun e u=>I e (yU u);have al:∀e∈relow (es.drop (es.length / 2)),Has D M k v h e.2/\minOf k v h<=e.2.size:=qov (P:=fun s=>Has D M k v h s/\minOf k v h<=s.size) fun e u=>I e (yT u);have O:=hs.take (es.length / 2);have Q:=(hs.drop (es.length / 2)).relow;have am:KeysOk k (es.take (es.length / 2)):=fun e u=>by refine hk e ?_;rw[<- drop_one,drop_take] at u;rw[<- drop_one];exact yU u
 have an:KeysOk k (relow (es.drop (es.length / 2))):=qte fun e u=>by refine hk e ?_;rw[<- drop_one,xB,show es.length / 2+1=1+es.length / 2 by omega,<- xB] at u;rw[<- drop_one];exact yT u
 have J:=qdS hW ho am O oJ oJ fun e u=>(A e u).1;have K:=qdS hW ho an Q oJ oJ fun e u=>(al e u).1;have C:es.take (es.length / 2)++es.drop (es.length / 2)=es:=xC _ _;have hd:=zX z;obtain⟨q,o,M',e,ap,st,R,U,hl⟩:=qoC (D:=D) (k:=k) (v:=v) (p:=p) (fresh:=fresh) (mid:=es.length / 2) (n:=inOf es) hW ho (by rw[qj1]) (by rw[hh];exact J) (by rw[hh];exact K) (by rw[qj1];show es.length>_;omega) hu hf;rw[hh] at e R U;have fr:∀b∈es,∀x∈b.2.pages,pagerReadM D M' x=pagerReadM D M x:=fun b E x G=>
  (st.rest x ((I b E).1.used ho x G) (fun V=>aj (yJ.2 ⟨b,E,by rw[<- zE.1 V];exact G⟩))).1
 have f1:∀e∈es.take (es.length / 2),Has D M' k v h e.2/\minOf k v h<=e.2.size:=fun e u=>⟨(A e u).1.frame (fr e (yU u)),(A e u).2⟩;have f2:∀e∈relow (es.drop (es.length / 2)),Has D M' k v h e.2/\minOf k v h<=e.2.size:=qov (P:=fun s=>Has D M' k v h s/\minOf k v h<=s.size) fun e u=>⟨(I e (yT u)).1.frame (fr e (yT u)),(I e (yT u)).2⟩;have aq:((es.take (es.length / 2)).map (·.1)).head?=some []:=by
  rw[xL];cases aa:es.map (·.1) with
  | nil=>rw[aa] at h0;cases h0
  | cons a r=>
   rw[aa] at h0;rw[show es.length / 2=(es.length / 2-1)+1 by omega,take_succ_cons];exact h0
 have ar:((relow (es.drop (es.length / 2))).map (·.1)).head?=some []:=qtd (by rw[hd];exact cons_ne_nil _ _);have ab:=hs;rw[<- C,hd] at ab;have V:=ab.mid;have ac:=hk es[es.length / 2] (by rw[<- drop_one];exact yE (i:=es.length / 2-1) (by rw[yZ,show 1+(es.length / 2-1)=es.length / 2 by omega,zA z]));have ep:(relow (es.drop (es.length / 2))).flatMap (·.2.prs)=(es.drop (es.length / 2)).flatMap (·.2.prs):=qmU (f:=Seg.prs) _;have eg:(relow (es.drop (es.length / 2))).flatMap (·.2.pages)=(es.drop (es.length / 2)).flatMap (·.2.pages):=qmU (f:=Seg.pages) _;have H2:=qcX ar K U Q f2;refine⟨q,o,es[es.length / 2].1,M',_,_,_,_,_,_,e,ap,st,qcX aq J R O f1,H2,?_,?_,fun x G=>?_,fun y hy=>?_,ac.1,ac.2,?_,?_,hl⟩;rw[ep,<- yP,C];rw[eg,<- yP,C];obtain⟨a,ha,G⟩:=yJ.1 G;exact V.1 a ha x G;rw[ep,hd] at hy;obtain⟨b,E,hy⟩:=yJ.1 hy;rcases zG.1 E with rfl|E;exact hs.low _ (zW z) y hy;exact qcZ (qaX (V.2 b E).1) ((V.2 b E).2.2 y hy);show (capsV k v).2 / 2<=_;omega;show (capsV k v).2 / 2<=_;omega
theorem qlx{A B:List Ent}{e:Ent}{s:Seg}(h:KeysOk k (A++e::B)):KeysOk k (A++(e.1,s)::B):=by
 cases A with
 | nil=>exact h
 | cons a A=>
  intro b u;rcases zD.1 (show b∈A++(e.1,s)::B from u) with u|u;exact h b (show b∈A++e::B from zH _ u);rcases zG.1 u with rfl|u;exact h e (show e∈A++e::B from zI _ mem_cons_self);exact h b (show b∈A++e::B from zI _ (zN _ u))
theorem qp0{A B:List Ent}{e:Ent}{s1 s2:Seg}(h:KeysOk k (A++e::B))(C:m.length=k/\IsB m):KeysOk k (A++(e.1,s1)::(m,s2)::B):=by
 have z:∀b∈(m,s2)::B,(∀c∈B,c.1.length=k/\IsB c.1)->b.1.length=k/\IsB b.1:=fun b u E=>(zG.1 u).elim (fun e=>by rw[e];exact C) (E b);cases A with
 | nil=>exact fun b u=>z b u fun c y=>h c y
 | cons a A=>
  intro b u;rcases zD.1 (show b∈A++(e.1,s1)::(m,s2)::B from u) with u|u;exact h b (show b∈A++e::B from zH _ u);rcases zG.1 u with rfl|u;exact h e (show e∈A++e::B from zI _ mem_cons_self);exact z b u fun c y=>h c (show c∈A++e::B from zI _ (zN _ y))
theorem treePut(hc:CapsOk k v){key val:Key}(hk:key.length=k/\IsB key)(hv:val.length=v/\IsB val):∀(h:Nat) (M:PgM) (s:Seg),Has D M k v h s->M.Wf->M.over=false->s.pages.Nodup->s.size<=1000->2*(h+1)<=M.free.length-> ∃g M',putN D k v key val (h+1) M s.page=((g,0),M')/\PutOk D M k v h s key val g M'
 | 0,M,⟨p,n,L,P⟩,⟨h1,h2,h3,h4⟩,hW,ho,aN,_,hf=>by
  dsimp only at h1 h2 h3 h4;subst h1 h2;have hp:InUse M p:=qjx ho (by rw[h4]);have hl:loadN D M k v p=(lfOf L,0):=h3.load h4;have hs:SortP L:=h3.right.2.2.1;have hL:PrsOk k v L:=fun x C=>⟨h3.right.1 x.1 (zY C),h3.right.2.1 x.2 (zY C),h3.keys x.1 (zY C),h3.vals x.2 (zY C)⟩;have G:=h3.right.2.2.2;rw[if_pos (show (lfOf L).leaf=true from rfl)] at G;have aX:1<=L.length/\L.length<=(capsV k v).1:=by have e:(lfOf L).keys.length=L.length:=zK _;rw[e] at G;exact⟨G.2.1,G.2.2.1⟩
  have aO:(lfOf L).keys=keysP L:=rfl;have ag:=qsO (v:=val) (k:=key) hs;have au:PrsOk k v (insP key val L):=fun x C=>(qfs C).elim (fun e=>by rw[e];exact⟨hk.1,hv.1,hk.2,hv.2⟩) (hL x);have av:=qn5 (k:=key) (v:=val) hs;unfold putN;rw[hl];dsimp only;rw[if_neg (fun h=>h rfl),if_pos (show (lfOf L).leaf=true from rfl),aO];by_cases J:(keysP L)[placeV (keysP L) key]?=some key;rw[if_pos J,qxJ J];rw[if_pos J] at ag;have ah:=qcf (v:=val) hs ((qcj hs).1 J);rw[ag] at au av ah;exact qqr hc hW ho hp oJ au av oJ oJ oJ ag.symm (by rw[zU (fun h=>h ((qcj hs).1 J))]);rw[if_neg J,qw3];rw[if_neg J] at ag;have aY:key∉keysP L:=fun h=>J ((qcj hs).2 h);have ah:=qbF (v:=val) aY;rw[ag] at au av ah;exact qqr hc hW ho hp oJ au av oJ oJ oJ ag.symm (by rw[zZ aY])
 | h+1,M,⟨p,n,L,P⟩,⟨I,h0,h1,h2,h3,h4,h5,h6,h7⟩,hW,ho,aN,h8,hf=>by
  dsimp only at h1 h2 h3 h5 aN h8;subst h1 h2 h3;have hp:InUse M p:=qjx ho (by rw[h5]);have hl:loadN D M k v p=(inOf I,0):=h4.load h5;have bK:=h4.right.innerTwo;obtain⟨A,e,B,E,hA,aP,aQ,aR⟩:=qh2 (key:=key) h0 h6;have aS:(inOf I).kids.getD (kidV (inOf I).keys key) 0=e.2.page:=aR;have bt:kidV (inOf I).keys key=A.length:=hA.symm;have bu:e∈I:=(by rw[E];simp);obtain⟨ax,al⟩:=h7 e bu;have V:∀z∈p::I.flatMap (·.2.pages),InUse M z:=fun z hz=>(zG.1 hz).elim (fun e=>by rw[e];exact hp) fun hz=>by obtain⟨b,u,hz⟩:=yJ.1 hz;exact (h7 b u).1.used ho z hz
  have ac:I.flatMap (·.2.pages)=A.flatMap (·.2.pages)++(e.2.pages++B.flatMap (·.2.pages)):=(by rw[E,qaL]);have aa:I.flatMap (·.2.prs)=A.flatMap (·.2.prs)++(e.2.prs++B.flatMap (·.2.prs)):=(by rw[E,qaL]);have K:=aN;have ae:=V;rw[ac] at K ae;have bv:e.2.size<=1000:=by
   have:=qbY (k:=k) (v:=v)
   cases h with
   | zero=>
    have h9:=ax.2.2.1.right.2.2.2;rw[if_pos (show (lfOf e.2.prs).leaf=true from rfl)] at h9;have bw:=h9.2.2.1;have e1:(lfOf e.2.prs).keys.length=e.2.prs.length:=zK _;rw[e1] at bw;rw[ax.2.1];omega
   | succ h=>
    obtain⟨bR,_,g1,_,_,g4,_⟩:=ax
    have:=g4.right.innerTwo
    rw[g1];omega
  have aZ:e.2.pages.Nodup:=(yL.1 (yL.1 (nodup_cons.1 K).2).2.1).1;obtain⟨g,M1,eg,ok⟩:=treePut hc hk hv h M e.2 ax hW ho aZ bv oJ;have bz:=ok.free;have af:=h6;rw[E] at af;have am:=af.mid;have a0:∀x∈A.flatMap (·.2.prs),KLt x.1 key:=fun x C=>by obtain⟨a,ha,C⟩:=yJ.1 C;exact qbq (am.1 a ha x C) aP
  have a1:∀x∈B.flatMap (·.2.prs),KLt key x.1:=fun x C=>by obtain⟨b,u,C⟩:=yJ.1 C;exact qbq (aQ b u) ((am.2 b u).2.2 x C)
  have aH:insP key val (I.flatMap (·.2.prs))=A.flatMap (·.2.prs)++(insP key val e.2.prs++B.flatMap (·.2.prs)):=(by rw[aa,qdv a0,qkL a1]);have ay:g.fresh=decide (key∉keysP (I.flatMap (·.2.prs))):=by rw[ok.fresh];refine decide_eq_decide.2 (not_congr ⟨fun J=>?_,fun J=>?_⟩);obtain⟨x,C,rfl⟩:=mem_map.1 J;exact zY (by rw[aa];exact zI _ (zH _ C));obtain⟨x,C,rfl⟩:=mem_map.1 J;rw[aa] at C;rcases zD.1 C with C|C;exact absurd (a0 x C) qaD;rcases zD.1 C with C|C;exact zY C;exact absurd (a1 x C) qaD
  have an:p∉e.2.pages:=fun J=>(nodup_cons.1 K).1 (zI _ (zH _ J));have a2:∀b,b∈A\/b∈B->∀z∈b.2.pages,z∉e.2.pages:=fun b u z hz J=>by have h9:=yL.1 (nodup_cons.1 K).2;rcases u with u|u;exact h9.2.2 z (yJ.2 ⟨b,u,hz⟩) z (zH _ J) rfl;exact (yL.1 h9.2.1).2.2 z J z (yJ.2 ⟨b,u,hz⟩) rfl
  have ab:=KeysOk.of h4;have a3:∀ {MM:PgM} {Q:List Int},Step D M MM e.2.pages Q->p∉A.flatMap (·.2.pages)++(Q++B.flatMap (·.2.pages)):=fun st J=>by have h9:=(nodup_cons.1 K).1;rcases zD.1 J with J|J;exact h9 (zH _ J);rcases zD.1 J with J|J;exact (st.rest p hp an).2.2 J;exact h9 (zI _ (zI _ J))
  unfold putN;rw[hl];dsimp only;rw[if_neg (fun h=>h rfl),if_neg (show ¬(inOf I).leaf=true from fun e=>nomatch e),aS,eg];dsimp only;rw[if_neg (fun h=>h rfl),bt];have U:∀ {MM:PgM},(∀x∈p::I.flatMap (·.2.pages),x∉e.2.pages->pagerReadM D MM x=pagerReadM D M x)->∀b,b∈A\/b∈B->Has D MM k v h b.2/\minOf k v h<=b.2.size:=fun hr b u=>by
   have aT:b∈I:=by rw[E];rcases u with u|u<;>simp[u]
   exact⟨(h7 b aT).1.frame fun x C=>hr x (zN _ (yJ.2 ⟨b,aT,C⟩)) (a2 b u x C),(h7 b aT).2⟩
  rcases ok.res with ⟨az,n',P',aI,st,aJ⟩|⟨az,n1,L1,P1,n2,L2,P2,a4,a5,aK,a6,a7,a8,a9,bA,bB,st⟩;have O:((A++(e.1,(⟨g.page,n',insP key val e.2.prs,P'⟩:Seg))::B).map (·.1)).head?=some []:=by rw[E] at h0;rw[xJ,xK] at h0⊢;exact h0
  have R:SepE (A++(e.1,(⟨g.page,n',insP key val e.2.prs,P'⟩:Seg))::B):=af.put aP aQ fun x C=>(qfs C).imp (fun e=>by rw[e]) id;have y:∀x∈p::I.flatMap (·.2.pages),x∉e.2.pages->pagerReadM D M1 x=pagerReadM D M x:=fun x C aU=>(st.rest x (V x C) aU).1;have G:(A++(e.1,(⟨g.page,n',insP key val e.2.prs,P'⟩:Seg))::B).length=I.length:=(by rw[E];simp);have ap:(A++(e.1,(⟨g.page,n',insP key val e.2.prs,P'⟩:Seg))::B).flatMap (·.2.prs)=insP key val (I.flatMap (·.2.prs)):=(by rw[qaL,aH]);have ad:(A++(e.1,(⟨g.page,n',insP key val e.2.prs,P'⟩:Seg))::B).flatMap (·.2.pages)=A.flatMap (·.2.pages)++(P'++B.flatMap (·.2.pages)):=(by rw[qaL]);by_cases hsame:g.page=e.2.page/\g.other=0;rw[if_pos hsame];have a':inOf (A++(e.1,(⟨g.page,n',insP key val e.2.prs,P'⟩:Seg))::B)=inOf I:=(by rw[E];unfold inOf;simp[hsame.1]);have bC:pagerReadM D M1 p=(4,bodyN (inOf (A++(e.1,(⟨g.page,n',insP key val e.2.prs,P'⟩:Seg))::B)),0):=(by rw[y p oL an,h5,a']);refine⟨_,M1,rfl,ay,oJ,.inl ⟨rfl,I.length,p::(A.flatMap (·.2.pages)++(P'++B.flatMap (·.2.pages))),?_,?_,zM _⟩⟩
  have:=qcX O (by rw[a'];exact h4) bC R (h:=h) fun b u=>?_
  rw[G,ap,ad] at this;exact this;rcases zD.1 u with u|u;exact U y b (.inl u);rcases zG.1 u with rfl|u;exact⟨aI,zL al aJ⟩;exact U y b (.inr u);show Step D M M1 (p::I.flatMap (·.2.pages)) _;rw[ac];have h9:=Step.node (p:=p) ae K st (Step.refl (D:=D) st.wf st.over (P:=[p]) (fun x C=>by rw[zE.1 C];exact (st.rest p hp an).2.1) oL);exact h9;rw[if_neg hsame,E,qub (s1:=⟨g.page,n',insP key val e.2.prs,P'⟩) rfl az];have ai:∀b∈A++(e.1,(⟨g.page,n',insP key val e.2.prs,P'⟩:Seg))::B,Has D M1 k v h b.2/\minOf k v h<=b.2.size:=fun b u=>by rcases zD.1 u with u|u;exact U y b (.inl u);rcases zG.1 u with rfl|u;exact⟨aI,zL al aJ⟩;exact U y b (.inr u)
  have aC:KeysOk k (A++(e.1,(⟨g.page,n',insP key val e.2.prs,P'⟩:Seg))::B):=qlx (by rw[<- E];exact ab);have hN:=qdS st.wf st.over aC R oJ oJ fun b u=>(ai b u).1;obtain⟨q,M2,e2,aq,H2,ah⟩:=qkK (fresh:=g.fresh) st.wf st.over O hN oJ R ai (st.rest p hp an).2.1 (by rw[ad];exact a3 st);refine⟨_,M2,e2,by rw[<- E];exact ay,oJ,.inl ⟨rfl,I.length,q::(A.flatMap (·.2.pages)++(P'++B.flatMap (·.2.pages))),?_,?_,Nat.le_of_eq (by rw[E])⟩⟩;rw[G,ap,ad] at H2;rw[<- E];exact H2;show Step D M M2 (p::(A++e::B).flatMap (·.2.pages)) _;rw[qaL];exact Step.node (p:=p) ae K st aq;have bc:L1≠[]:=a4.ne;have bd:L2≠[]:=a5.ne;rw[if_neg (fun h=>az h.2)];have R:SepE (A++(e.1,(⟨g.page,n1,L1,P1⟩:Seg))::(g.key,⟨g.other,n2,L2,P2⟩)::B):=
   (af.put (s:=⟨0,0,insP key val e.2.prs,[]⟩) aP aQ fun x C=>(qfs C).imp (fun e=>by rw[e]) id).cut2 aK.symm a6 a7 bc bd
  have O:((A++(e.1,(⟨g.page,n1,L1,P1⟩:Seg))::(g.key,⟨g.other,n2,L2,P2⟩)::B).map (·.1)).head?=some []:=by
   rw[E] at h0;rw[xJ,xK] at h0⊢;cases A with
   | nil=>exact h0
   | cons a A=>exact h0
  have y:∀x∈p::I.flatMap (·.2.pages),x∉e.2.pages->pagerReadM D M1 x=pagerReadM D M x:=fun x C aU=>(st.rest x (V x C) aU).1;have G:(A++(e.1,(⟨g.page,n1,L1,P1⟩:Seg))::(g.key,⟨g.other,n2,L2,P2⟩)::B).length=I.length+1:=(by rw[E];simp;omega);have ap:(A++(e.1,(⟨g.page,n1,L1,P1⟩:Seg))::(g.key,⟨g.other,n2,L2,P2⟩)::B).flatMap (·.2.prs)=insP key val (I.flatMap (·.2.prs)):=(by rw[qaL,yG,aH,<- aK,zV]);have ad:(A++(e.1,(⟨g.page,n1,L1,P1⟩:Seg))::(g.key,⟨g.other,n2,L2,P2⟩)::B).flatMap (·.2.pages)=A.flatMap (·.2.pages)++((P1++P2)++B.flatMap (·.2.pages)):=(by rw[qaL,yG,zV P1]);have ai:∀b∈A++(e.1,(⟨g.page,n1,L1,P1⟩:Seg))::(g.key,⟨g.other,n2,L2,P2⟩)::B,Has D M1 k v h b.2/\minOf k v h<=b.2.size:=fun b u=>by rcases zD.1 u with u|u;exact U y b (.inl u);rcases zG.1 u with rfl|u;exact⟨a4,bA⟩;rcases zG.1 u with rfl|u;exact⟨a5,bB⟩;exact U y b (.inr u)
  have aC:KeysOk k (A++(e.1,(⟨g.page,n1,L1,P1⟩:Seg))::(g.key,⟨g.other,n2,L2,P2⟩)::B):=qp0 (by rw[<- E];exact ab) ⟨a8,a9⟩;have bf:p∉(A++(e.1,(⟨g.page,n1,L1,P1⟩:Seg))::(g.key,⟨g.other,n2,L2,P2⟩)::B).flatMap (·.2.pages):=(by rw[ad];exact a3 st);have bg:=(st.rest p hp an).2.1;have bE:grownN (inOf I) A.length g=inOf (A++(e.1,(⟨g.page,n1,L1,P1⟩:Seg))::(g.key,⟨g.other,n2,L2,P2⟩)::B):=(by rw[E];exact qvI (by rw[<- E];exact h0) rfl rfl rfl az);rw[bE];have bh:∀ {M2:PgM} {Q:List Int},Step D M1 M2 [p] Q->Step D M M2 (p::I.flatMap (·.2.pages)) (Q++(A.flatMap (·.2.pages)++((P1++P2)++B.flatMap (·.2.pages)))):=fun h2=>by rw[ac];exact Step.node (p:=p) ae K st h2
  by_cases u:I.length+1<=(capsV k v).2;have hN:=qdS st.wf st.over aC R oJ oJ fun b u=>(ai b u).1;obtain⟨q,M2,e2,aq,H2,ah⟩:=qkK (fresh:=g.fresh) st.wf st.over O hN oJ R ai bg bf;rw[G,ap,ad] at H2;exact⟨_,M2,e2,ay,oJ,.inl ⟨rfl,_,_,H2,bh aq,by show I.length<=I.length+1;omega⟩⟩;obtain⟨q,o,m,M2,n3,L3,P3,n4,L4,P4,e2,bF,aq,H3,H4,hL,hP,bG,aX,bi,bj,bH,bI,ah⟩:=qud (fresh:=g.fresh) hc st.wf st.over O aC oJ R ai bg bf;rw[ap] at hL;rw[ad] at hP;refine⟨_,M2,e2,ay,oJ,.inr ⟨bF,_,_,_,_,_,_,H3,H4,hL,bG,aX,bi,bj,bH,bI,?_⟩⟩
  have:=bh aq
  rw[<- hP] at this;refine this.perm (.refl _) ?_;show (q::o::(P3++P4)).Perm (q::(P3++o::P4));exact (perm_middle.symm).cons q
end
end
section
def delAt {α:Type} (l:List α) (i:Nat):List α:=l.take i++l.drop (i+1)
def lowN (n:NodeM) (k v:Nat):Prop:=(sizeN n k v).1<(sizeN n k v).2 / 2
def spareN (n:NodeM) (k v:Nat):Prop:=(sizeN n k v).1>(sizeN n k v).2 / 2
def giveN (l r:NodeM) (key:Key):NodeM×NodeM×Key:=
 if l.leaf then
  ({ l with keys:=l.keys.take (l.keys.length-1),vals:=l.vals.take (l.keys.length-1) },
  { r with keys:=l.keys.getD (l.keys.length-1) []::r.keys,vals:=l.vals.getD (l.keys.length-1) []::r.vals },l.keys.getD (l.keys.length-1) [])
 else
  ({ l with keys:=l.keys.take (l.keys.length-1),kids:=l.kids.take (l.keys.length-1+1) },
  { r with keys:=key::r.keys,kids:=l.kids.getD (l.keys.length-1+1) 0::r.kids },l.keys.getD (l.keys.length-1) [])
def takeN (l r:NodeM) (key:Key):NodeM×NodeM×Key:=
 if l.leaf then
  ({ l with keys:=l.keys++[r.keys.getD 0 []],vals:=l.vals++[r.vals.getD 0 []] },{ r with keys:=r.keys.drop 1,vals:=r.vals.drop 1 },(r.keys.drop 1).getD 0 [])
 else
  ({ l with keys:=l.keys++[key],kids:=l.kids++[r.kids.getD 0 0] },{ r with keys:=r.keys.drop 1,kids:=r.kids.drop 1 },r.keys.getD 0 [])
def joinN (l r:NodeM) (key:Key):NodeM:=⟨l.leaf,(if l.leaf then l.keys else l.keys++[key])++r.keys,l.vals++r.vals,l.kids++r.kids⟩
noncomputable def joinM (k v:Nat) (M:PgM) (n:NodeM) (i:Nat) (l r:NodeM):(NodeM×Int)×PgM:=
 if (storeN k v M (n.kids.getD i 0) (joinN l r (n.keys.getD i []))).1.2≠0 then ((zeroN,(storeN k v M (n.kids.getD i 0) (joinN l r (n.keys.getD i []))).1.2),(storeN k v M (n.kids.getD i 0) (joinN l r (n.keys.getD i []))).2)
 else if (dropV (storeN k v M (n.kids.getD i 0) (joinN l r (n.keys.getD i []))).2 (n.kids.getD (i+1) 0)).1≠0 then ((zeroN,(dropV (storeN k v M (n.kids.getD i 0) (joinN l r (n.keys.getD i []))).2 (n.kids.getD (i+1) 0)).1),(dropV (storeN k v M (n.kids.getD i 0) (joinN l r (n.keys.getD i []))).2 (n.kids.getD (i+1) 0)).2)
 else (({ n with kids:=delAt (n.kids.set i (storeN k v M (n.kids.getD i 0) (joinN l r (n.keys.getD i []))).1.1) (i+1),keys:=delAt n.keys i },0),(dropV (storeN k v M (n.kids.getD i 0) (joinN l r (n.keys.getD i []))).2 (n.kids.getD (i+1) 0)).2)
noncomputable def bothM (k v:Nat) (M:PgM) (n:NodeM) (i:Nat) (r:NodeM×NodeM×Key):(NodeM×Int)×PgM:=
 if (storeN k v M (n.kids.getD i 0) r.1).1.2≠0 then ((zeroN,(storeN k v M (n.kids.getD i 0) r.1).1.2),(storeN k v M (n.kids.getD i 0) r.1).2)
 else (({ n with keys:=n.keys.set i r.2.2,kids:=(n.kids.set i (storeN k v M (n.kids.getD i 0) r.1).1.1).set (i+1) (storeN k v (storeN k v M (n.kids.getD i 0) r.1).2 (n.kids.getD (i+1) 0) r.2.1).1.1 },(storeN k v (storeN k v M (n.kids.getD i 0) r.1).2 (n.kids.getD (i+1) 0) r.2.1).1.2),(storeN k v (storeN k v M (n.kids.getD i 0) r.1).2 (n.kids.getD (i+1) 0) r.2.1).2)
noncomputable def evenM (D:DiskM) (k v:Nat) (M:PgM) (n:NodeM) (side c:Nat) (x:NodeM):(NodeM×Int)×PgM:=
 if (loadN D M k v (n.kids.getD side 0)).2≠0 then ((zeroN,(loadN D M k v (n.kids.getD side 0)).2),M)
 else if side<c then
  if ¬spareN (loadN D M k v (n.kids.getD side 0)).1 k v then joinM k v M n side (loadN D M k v (n.kids.getD side 0)).1 x
  else bothM k v M n side (giveN (loadN D M k v (n.kids.getD side 0)).1 x (n.keys.getD side []))
 else
  if ¬spareN (loadN D M k v (n.kids.getD side 0)).1 k v then joinM k v M n c x (loadN D M k v (n.kids.getD side 0)).1
  else bothM k v M n c (takeN x (loadN D M k v (n.kids.getD side 0)).1 (n.keys.getD c []))
noncomputable def cutN (D:DiskM) (k v:Nat) (key:Key):Nat->PgM->Int->(NodeM×Int)×PgM
 | 0,M,_=>((zeroN,-1),M)
 | f+1,M,p=>
  if (loadN D M k v p).2≠0 then ((zeroN,(loadN D M k v p).2),M)
  else if (loadN D M k v p).1.leaf then
   if (loadN D M k v p).1.keys[placeV (loadN D M k v p).1.keys key]?=some key then (({ (loadN D M k v p).1 with keys:=delAt (loadN D M k v p).1.keys (placeV (loadN D M k v p).1.keys key),vals:=delAt (loadN D M k v p).1.vals (placeV (loadN D M k v p).1.keys key) },0),M)
   else ((zeroN,5),M)
  else if (cutN D k v key f M ((loadN D M k v p).1.kids.getD (kidV (loadN D M k v p).1.keys key) 0)).1.2≠0 then
   ((zeroN,(cutN D k v key f M ((loadN D M k v p).1.kids.getD (kidV (loadN D M k v p).1.keys key) 0)).1.2),(cutN D k v key f M ((loadN D M k v p).1.kids.getD (kidV (loadN D M k v p).1.keys key) 0)).2)
  else if ¬lowN (cutN D k v key f M ((loadN D M k v p).1.kids.getD (kidV (loadN D M k v p).1.keys key) 0)).1.1 k v then
   (({ (loadN D M k v p).1 with kids:=(loadN D M k v p).1.kids.set (kidV (loadN D M k v p).1.keys key) (storeN k v (cutN D k v key f M ((loadN D M k v p).1.kids.getD (kidV (loadN D M k v p).1.keys key) 0)).2 ((loadN D M k v p).1.kids.getD (kidV (loadN D M k v p).1.keys key) 0) (cutN D k v key f M ((loadN D M k v p).1.kids.getD (kidV (loadN D M k v p).1.keys key) 0)).1.1).1.1 },
    (storeN k v (cutN D k v key f M ((loadN D M k v p).1.kids.getD (kidV (loadN D M k v p).1.keys key) 0)).2 ((loadN D M k v p).1.kids.getD (kidV (loadN D M k v p).1.keys key) 0) (cutN D k v key f M ((loadN D M k v p).1.kids.getD (kidV (loadN D M k v p).1.keys key) 0)).1.1).1.2),
    (storeN k v (cutN D k v key f M ((loadN D M k v p).1.kids.getD (kidV (loadN D M k v p).1.keys key) 0)).2 ((loadN D M k v p).1.kids.getD (kidV (loadN D M k v p).1.keys key) 0) (cutN D k v key f M ((loadN D M k v p).1.kids.getD (kidV (loadN D M k v p).1.keys key) 0)).1.1).2)
  else if kidV (loadN D M k v p).1.keys key>0 then
   evenM D k v (cutN D k v key f M ((loadN D M k v p).1.kids.getD (kidV (loadN D M k v p).1.keys key) 0)).2 (loadN D M k v p).1 (kidV (loadN D M k v p).1.keys key-1) (kidV (loadN D M k v p).1.keys key) (cutN D k v key f M ((loadN D M k v p).1.kids.getD (kidV (loadN D M k v p).1.keys key) 0)).1.1
  else evenM D k v (cutN D k v key f M ((loadN D M k v p).1.kids.getD (kidV (loadN D M k v p).1.keys key) 0)).2 (loadN D M k v p).1 (kidV (loadN D M k v p).1.keys key+1) (kidV (loadN D M k v p).1.keys key) (cutN D k v key f M ((loadN D M k v p).1.kids.getD (kidV (loadN D M k v p).1.keys key) 0)).1.1
section
variable {D:DiskM} {M M':PgM} {k v:Nat}
def HasN (D:DiskM) (M:PgM) (k v:Nat):Nat->NodeM->Nat->Prs->List Int->Prop
 | 0,N,n,L,R=>N=lfOf L/\n=L.length/\R=[]/\PrsOk k v L/\SortP L/\n<=(capsV k v).1
 | h+1,N,n,L,R=>∃u:List Ent,(u.map (·.1)).head?=some []/\N=inOf u/\n=u.length/\L=u.flatMap (·.2.prs)/\R=u.flatMap (·.2.pages)/\KeysOk k u/\SepE u/\n<=(capsV k v).2/\∀e∈u,Has D M k v h e.2/\minOf k v h<=e.2.size
def oneOf (h:Nat):Nat:=if h=0 then 1 else 2
theorem HasN.size{n:Nat}(u:HasN D M k v h N n L R):sizeN N k v=(n,if h=0 then (capsV k v).1 else (capsV k v).2):=by
 cases h with
 | zero=>
  obtain⟨rfl,rfl,_⟩:=u;exact qj5
 | succ h=>
  obtain⟨y,_,rfl,rfl,_⟩:=u;exact qj1
theorem HasN.used{h:Nat}{N:NodeM}{n:Nat}{L:Prs}{R:List Int}(z:M.over=false)(y:HasN D M k v h N n L R):∀x∈R,InUse M x:=by
 cases h with
 | zero=>obtain⟨_,_,rfl,_⟩:=y;exact fun x u=>nomatch u
 | succ h=>
  obtain⟨E,_,_,_,_,rfl,_,_,_,A⟩:=y;intro x u;obtain⟨e,C,u⟩:=yJ.1 u;exact (A e C).1.used z x u
theorem HasN.frame{h:Nat}{N:NodeM}{n:Nat}{L:Prs}{R:List Int}(y:HasN D M k v h N n L R)(A:∀x∈R,pagerReadM D M' x=pagerReadM D M x):HasN D M' k v h N n L R:=by
 cases h with
 | zero=>exact y
 | succ h=>
  obtain⟨C,E,G,I,J,rfl,K,O,Q,z⟩:=y;exact⟨C,E,G,I,J,rfl,K,O,Q,fun e u=>⟨(z e u).1.frame fun x U=>A x (yJ.2 ⟨e,u,U⟩),(z e u).2⟩⟩
theorem HasN.ok{n:Nat}(z:M.Wf)(A:M.over=false)(u:HasN D M k v h N n L R)(y:oneOf h<=n):NodeOk N k v:=by
 cases h with
 | zero=>
  obtain⟨rfl,rfl,_,C,E,G⟩:=u;exact qhb C E y G
 | succ h=>
  obtain⟨U,V,rfl,rfl,h4,rfl,I,J,K,O⟩:=u;exact qdS z A I J y K fun e Q=>(O e Q).1
theorem HasN.stored{n:Nat}(A:M.Wf)(C:M.over=false)(y:HasN D M k v h N n L R)(E:oneOf h<=n)(z:pagerReadM D M q=(kindN N,bodyN N,0)):Has D M k v h ⟨q,n,L,q::R⟩:=by
 have u:=y.ok A C E;cases h with
 | zero=>
  obtain⟨rfl,rfl,rfl,K,O,Q⟩:=y;exact qfp u z
 | succ h=>
  obtain⟨U,G,rfl,rfl,rfl,rfl,V,I,h8,J⟩:=y;exact qcX G u z I J
theorem Has.load{h:Nat}{s:Seg}(I:Has D M k v h s):∃N R,loadN D M k v s.page=(N,0)/\HasN D M k v h N s.size s.prs R/\s.pages=s.page::R/\N.leaf=decide (h=0)/\oneOf h<=s.size:=by
 cases h with
 | zero=>
  obtain⟨A,C,y,E⟩:=I;have u:=y.right.2.2.2;rw[if_pos (show (lfOf s.prs).leaf=true from rfl)] at u;have e:(lfOf s.prs).keys.length=s.prs.length:=zK _;rw[e] at u;exact⟨lfOf s.prs,[],y.load E,⟨rfl,C,rfl,fun x G=>⟨y.right.1 x.1 (zY G),y.right.2.1 x.2 (zY G),y.keys x.1 (zY G),y.vals x.2 (zY G)⟩,y.right.2.2.1,by rw[C];exact u.2.2.1⟩,A,rfl,by rw[C];exact u.2.1⟩
 | succ h=>
  obtain⟨J,K,A,C,y,E,O,Q,U⟩:=I;have z:=E.right.innerTwo;exact⟨inOf J,_,E.load O,⟨J,K,rfl,A,C,rfl,KeysOk.of E,Q,by rw[A];exact z.2,U⟩,y,rfl,by rw[A];exact z.1⟩
theorem HasN.store{n:Nat}(A:M.Wf)(u:M.over=false)(y:HasN D M k v h N n L R)(C:oneOf h<=n)(I:InUse M p)(z:p∉R)(E:1<=M.free.length): ∃q M',storeN k v M p N=((q,0),M')/\Step D M M' [p] [q]/\Has D M' k v h ⟨q,n,L,q::R⟩/\M.free.length<=M'.free.length+1:=by obtain⟨q,M',e,st,J,K,_⟩:=qio (D:=D) A u (y.ok A u C) I (fun e=>by rw[e] at E;exact absurd E oM);exact⟨q,M',e,st,(y.frame fun x G=>(st.rest x (y.used u x G) (fun O=>z (by rw[<- zE.1 O];exact G))).1).stored st.wf st.over C J,K⟩
theorem qw1{z:Key×Key}:giveN (lfOf (L1++[z])) (lfOf L2) key=(lfOf L1,lfOf (z::L2),z.1):=by unfold giveN;rw[if_pos (show (lfOf _).leaf=true from rfl)];unfold lfOf;simp
theorem qw4{z y:Key×Key}:takeN (lfOf L1) (lfOf (z::y::L2)) key=(lfOf (L1++[z]),lfOf (y::L2),y.1):=by unfold takeN;rw[if_pos (show (lfOf _).leaf=true from rfl)];unfold lfOf;simp
theorem qw2:joinN (lfOf L1) (lfOf L2) key=lfOf (L1++L2):=by unfold joinN;unfold lfOf;simp
theorem qwU{a z b:Ent}{h u:List Ent}:giveN (inOf (a::h++[z])) (inOf (b::u)) key=(inOf (a::h),inOf (([],z.2)::(key,b.2)::u),z.1):=by unfold giveN;rw[if_neg (show ¬(inOf _).leaf=true from fun e=>nomatch e)];unfold inOf;simp
theorem qwW{h u:List Ent}{a z y:Ent}:takeN (inOf (a::h)) (inOf (z::y::u)) key=(inOf (a::h++[(key,z.2)]),inOf (([],y.2)::u),y.1):=by unfold takeN;rw[if_neg (show ¬(inOf _).leaf=true from fun e=>nomatch e)];unfold inOf;simp
theorem qwV{h u:List Ent}{a b:Ent}:joinN (inOf (a::h)) (inOf (b::u)) key=inOf (a::h++(key,b.2)::u):=by unfold joinN;unfold inOf;simp
theorem SepE.app{a b:List Ent}(u:SepE a)(A:SepE b)(h:∀x∈a,∀y∈b,KLt x.1 y.1/\∀z∈x.2.prs,KLt z.1 y.1):SepE (a++b):=
 ⟨pairwise_append.2 ⟨u.pair,A.pair,fun x C y E=>h x C y E⟩,fun e G=>(zD.1 G).elim (u.low e) (A.low e)⟩
theorem SepE.sub{a b:List Ent}(h:SepE b)(u:a.Sublist b):SepE a:=⟨h.pair.sublist u,fun e y=>h.low e (u.subset y)⟩
theorem qnA{e:Ent}(h:∀x∈e.2.prs,KLe e.1 x.1):SepE [e]:=⟨pairwise_singleton _ _,fun a u=>by rw[zE.1 u];exact h⟩
theorem qr6{a b:Key}(h:KLt a b):KLt [] b:=by
 cases b with
 | nil=>exact absurd h qkX
 | cons y l=>show cmpL [] (y::l)<0;simp[cmpL]
theorem SepE.head{x:Ent}{r:List Ent}(h:SepE (x::r))(A:∀b∈r,KLt m b.1)(C:∀y∈x.2.prs,KLe m y.1):SepE ((m,x.2)::r):=by have z:=yI.1 h.pair;exact⟨yI.2 ⟨fun b u=>⟨A b u,(z.1 b u).2⟩,z.2⟩,fun b u=>(zG.1 u).elim (fun e=>by rw[e];exact C) fun u=>h.low b (zN _ u)⟩
theorem qnm{x:Ent}{r:List Ent}(z:SepE (x::r))(A:Has D M k v h x.2)(C:∀y∈x.2.prs,KLe m y.1):∀b∈r,KLt m b.1:=fun b E=>by obtain⟨y,u⟩:=exists_mem_of_ne_nil _ A.ne;exact qg9 (C y u) (((yI.1 z.pair).1 b E).2 y u)
structure TwoOk (D:DiskM) (M:PgM) (k v:Nat) (h:Nat) (r:NodeM×NodeM×Key) (L:Prs) (P:List Int):Prop where
 res:∃ n1 L1 R1 n2 L2 R2,HasN D M k v h r.1 n1 L1 R1/\HasN D M k v h r.2.1 n2 L2 R2/\L1++L2=L/\R1++R2=P/\(∀ x∈L1,KLt x.1 r.2.2)/\(∀ y∈L2,KLe r.2.2 y.1)/\r.2.2.length=k/\IsB r.2.2/\minOf k v h<=n1/\minOf k v h<=n2/\L1≠[]/\L2≠[]
theorem CapsOk.min(u:CapsOk k v)(h:Nat):oneOf h<=minOf k v h/\1<=minOf k v h:=by have y:=u.leaf;have z:=u.inner;unfold oneOf minOf;split<;>omega
theorem qwM{es:List Ent}(y:∀e∈es,Has D M k v h e.2/\minOf k v h<=e.2.size)(u:es≠[]:=by simp):es.flatMap (·.2.prs)≠[]:=by
 cases es with
 | nil=>exact absurd rfl u
 | cons a r=>intro e;rw[yG] at e;exact (y a oL).1.ne (append_eq_nil_iff.1 e).1
theorem qwO(E:CapsOk k v)(hl:HasN D M k v h Nl n1 L1 R1)(hr:HasN D M k v h Nr n2 L2 R2)(R:minOf k v h<n1)(h2:n2+1=minOf k v h)(h3:∀x∈L1,KLt x.1 key)(h4:∀y∈L2,KLe key y.1)(hk:key.length=k/\IsB key): TwoOk D M k v h (giveN Nl Nr key) (L1++L2) (R1++R2):=by
 have ao:=E.min h;cases h with
 | zero=>
  obtain⟨rfl,rfl,rfl,af,J,K⟩:=hl;obtain⟨rfl,rfl,rfl,ap,O,ag⟩:=hr;have ah:L1≠[]:=fun e=>by rw[e] at R;simp at R
  obtain⟨L,z,rfl⟩:∃L z,L1=L++[z]:=⟨L1.dropLast,L1.getLast ah,(dropLast_concat_getLast ah).symm⟩;rw[qw1];have U:=af z oL;have ai:=SortP.app.1 J;rw[zF] at R K;have aq:SortP (z::L2):=by refine yI.2 ⟨fun a ha=>?_,O⟩;obtain⟨y,C,rfl⟩:=mem_map.1 ha;exact qbq (h3 z oL) (h4 y C)
  have ar:minOf k v 0=(capsV k v).1 / 2:=rfl;refine⟨L.length,L,[],L2.length+1,z::L2,[],⟨rfl,rfl,rfl,af.sub fun x I=>zH _ I,ai.1,?_⟩,⟨rfl,rfl,rfl,fun x I=>(zG.1 I).elim (fun e=>by rw[e];exact U) (ap x),aq,oJ⟩,oL,rfl,fun x I=>ai.2.2 x I z oL,fun y C=>?_,U.1,U.2.2.1,?_,oJ,?_,oL⟩;simp at K;omega;rcases zG.1 C with rfl|C;exact qaD;exact qaX (qbq (h3 z oL) (h4 y C));simp at R;omega;intro e;rw[e] at R;simp at R;omega
 | succ h=>
  obtain⟨V,au,rfl,rfl,rfl,rfl,aj,J,K,aa⟩:=hl;obtain⟨u,av,rfl,rfl,rfl,rfl,aw,O,ag,ab⟩:=hr;obtain⟨a,G,z,rfl⟩:∃a G z,V=a::G++[z]:=by
   have:2<=V.length:=(by have:=ao.1;unfold oneOf at this;rw[iN] at this;omega);match V,this with
   | a::b::r,_=>exact⟨a,(b::r).dropLast,(b::r).getLast oL,by rw[xH,dropLast_concat_getLast]⟩
  obtain⟨b,u,rfl⟩:∃b G,u=b::G:=by
   cases u with
   | nil=>cases av
   | cons b r=>exact⟨b,r,rfl⟩
  rw[qwU];have U:=aa z oL;have ak:=aj z (show z∈G++[z] by simp);have al:=SepE.mid (A:=a::G) (e:=z) (B:=[]) J;have Q:KLt z.1 key:=by obtain⟨x,I⟩:=exists_mem_of_ne_nil _ U.1.ne;exact qg9 (J.low z oL x I) (h3 x (yJ.2 ⟨z,oL,I⟩))
  have am:∀y∈b.2.prs,KLe key y.1:=fun y C=>h4 y (by rw[yG];exact zH _ C);have ac:∀c∈u,KLt key c.1:=qnm O (ab b oL).1 am;have ad:SepE (([],z.2)::(key,b.2)::u):=by refine SepE.app (a:=[([],z.2)]) (qnA fun x _=>qe8 _) (O.head ac am) fun x I y C=>?_;rw[zE.1 I];rcases zG.1 C with rfl|C;exact⟨qr6 Q,fun w hw=>h3 w (yJ.2 ⟨z,oL,hw⟩)⟩;exact⟨qr6 (ac y C),fun w hw=>qaB (h3 w (yJ.2 ⟨z,oL,hw⟩)) (ac y C)⟩
  have ar:minOf k v (h+1)=(capsV k v).2 / 2:=rfl;simp only[zF,yH,length_nil] at R h2 K ag;have ay:(a::G++[z]).flatMap (·.2.prs)=(a::G).flatMap (·.2.prs)++z.2.prs:=(by simp[yP]);have az:(a::G++[z]).flatMap (·.2.pages)=(a::G).flatMap (·.2.pages)++z.2.pages:=(by simp[yP]);refine⟨G.length+1,(a::G).flatMap (·.2.prs),(a::G).flatMap (·.2.pages),u.length+2,z.2.prs++(b.2.prs++u.flatMap (·.2.prs)),z.2.pages++(b.2.pages++u.flatMap (·.2.pages)),⟨a::G,au,rfl,rfl,rfl,rfl,fun c E=>aj c (show c∈G++[z] from zH _ E),J.sub (sublist_append_left _ _),oJ,fun c E=>aa c (zH _ E)⟩,⟨([],z.2)::(key,b.2)::u,rfl,rfl,rfl,rfl,rfl,fun c E=>(zG.1 E).elim (fun e=>by rw[e];exact hk) (aw c),ad,oJ,fun c E=>?_⟩,?_,?_,fun x I=>?_,fun y C=>?_,ak.1,ak.2,oJ,oJ,?_,?_⟩;rcases zG.1 E with rfl|E;exact U;rcases zG.1 E with rfl|E;exact ab b oL;exact ab c (by simp[E]);rw[ay];simp only[yG,zV];rw[az];simp only[yG,zV];obtain⟨c,E,I⟩:=yJ.1 I;exact al.1 c E x I;rcases zD.1 C with C|C;exact J.low z oL y C;exact qcZ (qaX Q) (h4 y (by rw[yG];exact C));exact qwM (fun c E=>aa c (zH _ E));intro e;exact U.1.ne (append_eq_nil_iff.1 e).1
theorem qul{es:List Ent}(z:SepE es)(A:∀e∈es,Has D M k v h e.2/\minOf k v h<=e.2.size)(C:∀x∈es.flatMap (·.2.prs),KLt x.1 key):∀e∈es,KLt e.1 key:=fun e u=>by obtain⟨x,y⟩:=exists_mem_of_ne_nil _ (A e u).1.ne;exact qg9 (z.low e u x y) (C x (yJ.2 ⟨e,u,y⟩))
theorem qxo(hc:CapsOk k v)(hl:HasN D M k v h Nl n1 L1 R1)(hr:HasN D M k v h Nr n2 L2 R2)(h1:n1+1=minOf k v h)(h2:minOf k v h<n2)(h3:∀x∈L1,KLt x.1 key)(h4:∀y∈L2,KLe key y.1)(hk:key.length=k/\IsB key): TwoOk D M k v h (takeN Nl Nr key) (L1++L2) (R1++R2):=by
 have hmn:=hc.min h;cases h with
 | zero=>
  obtain⟨rfl,rfl,rfl,hL1,hs1,hb1⟩:=hl;obtain⟨rfl,rfl,rfl,hL2,hs2,hb2⟩:=hr;obtain⟨z,y,L,rfl⟩:∃z y L,L2=z::y::L:=by
   match L2,h2 with
   | [],h=>simp at h
   | [_],h=>simp at h;omega
   | z::y::L,_=>exact⟨z,y,L,rfl⟩
  rw[qw4];have hz:=hL2 z oL;have hy:=hL2 y oL;have hcs:=yI.1 (show (z.1::keysP (y::L)).Pairwise KLt from hs2);simp only[yH] at h2 hb2;have hml:minOf k v 0=(capsV k v).1 / 2:=rfl;have hzy:KLt z.1 y.1:=hcs.1 y.1 oL;refine⟨L1.length+1,L1++[z],[],L.length+1,y::L,[],⟨rfl,oL,rfl,fun x hx=>(zD.1 hx).elim (hL1 x) fun hx=>by rw[zE.1 hx];exact hz,?_,oJ⟩,⟨rfl,oL,rfl,fun x hx=>hL2 x (zN _ hx),hcs.2,oJ⟩,oL,rfl,fun x hx=>?_,fun w hw=>?_,hy.1,hy.2.2.1,oJ,oJ,oL,oL⟩;exact SortP.app.2 ⟨hs1,pairwise_singleton _ _,fun x hx w hw=>by rw[zE.1 hw];exact qbq (h3 x hx) (h4 z oL)⟩;rcases zD.1 hx with hx|hx;exact qaB (qbq (h3 x hx) (h4 z oL)) hzy;rw[zE.1 hx];exact hzy;rcases zG.1 hw with rfl|hw;exact qaD;exact qaX ((yI.1 (show (y.1::keysP L).Pairwise KLt from hcs.2)).1 w.1 (zY hw))
 | succ h=>
  obtain⟨es1,hh1,rfl,rfl,rfl,rfl,hk1,hs1,hb1,hp1⟩:=hl;obtain⟨es2,hh2,rfl,rfl,rfl,rfl,hk2,hs2,hb2,hp2⟩:=hr;obtain⟨a,es,rfl⟩:∃a es,es1=a::es:=by
   cases es1 with
   | nil=>cases hh1
   | cons b r=>exact⟨b,r,rfl⟩
  obtain⟨z,y,es2,rfl⟩:∃z y es,es2=z::y::es:=by
   have h9:=hmn.2;match es2,h2 with
   | [],h=>simp at h
   | [_],h=>simp at h;omega
   | z::y::L,_=>exact⟨z,y,L,rfl⟩
  rw[qwW];have hz:=hp2 z oL;have hyk:=hk2 y (show y∈y::es2 by simp);have hz4:∀w∈z.2.prs,KLe key w.1:=fun w hw=>h4 w (by rw[yG];exact zH _ hw);have hky:KLt key y.1:=qnm hs2 hz.1 hz4 y oL;have hcs:=yI.1 hs2.pair;have hcy:=yI.1 hcs.2;have hsl:SepE (a::es++[(key,z.2)]):=SepE.app hs1 (qnA hz4) fun x hx w hw=>by rw[zE.1 hw];exact⟨qul hs1 hp1 h3 x hx,fun q hq=>h3 q (yJ.2 ⟨x,hx,hq⟩)⟩
  have hsr:SepE (([],y.2)::es2):=SepE.relow (es:=y::es2) (hs2.sub (sublist_cons_self _ _));have hml:minOf k v (h+1)=(capsV k v).2 / 2:=rfl;simp only[yH] at h1 h2 hb1 hb2;refine⟨es.length+2,(a::es).flatMap (·.2.prs)++z.2.prs,(a::es).flatMap (·.2.pages)++z.2.pages,es2.length+1,y.2.prs++es2.flatMap (·.2.prs),y.2.pages++es2.flatMap (·.2.pages),⟨a::es++[(key,z.2)],hh1,rfl,oL,by simp[yP],by simp[yP],fun c hc=>?_,hsl,oJ,fun c hc=>?_⟩,⟨([],y.2)::es2,rfl,rfl,rfl,rfl,rfl,fun c hc=>hk2 c (show c∈y::es2 from zN _ hc),hsr,oJ,fun c hc=>?_⟩,?_,?_,fun x hx=>?_,fun w hw=>?_,hyk.1,hyk.2,oJ,oJ,?_,?_⟩;rcases zD.1 (show c∈es++[(key,z.2)] from hc) with hc|hc;exact hk1 c hc;rw[zE.1 hc];exact hk;rcases zD.1 hc with hc|hc;exact hp1 c hc;rw[zE.1 hc];exact hz;rcases zG.1 hc with rfl|hc;exact hp2 y oL;exact hp2 c (by simp[hc]);simp only[yG,zV];simp only[yG,zV];rcases zD.1 hx with hx|hx;exact qaB (h3 x hx) hky;exact (hcs.1 y oL).2 x hx;rcases zD.1 hw with hw|hw;exact hs2.low y oL w hw;obtain⟨c,hc,hw⟩:=yJ.1 hw;exact qcZ (qaX (hcy.1 c hc).1) (hs2.low c (by simp[hc]) w hw);intro e;exact hz.1.ne (append_eq_nil_iff.1 e).2;intro e;exact (hp2 y oL).1.ne (append_eq_nil_iff.1 e).1
theorem qwY(hl:HasN D M k v h Nl n1 L1 R1)(hr:HasN D M k v h Nr n2 L2 R2)(h1:n1+n2<=(if h=0 then (capsV k v).1 else (capsV k v).2))(h3:∀x∈L1,KLt x.1 key)(h4:∀y∈L2,KLe key y.1)(hk:key.length=k/\IsB key): HasN D M k v h (joinN Nl Nr key) (n1+n2) (L1++L2) (R1++R2):=by
 cases h with
 | zero=>
  obtain⟨rfl,rfl,rfl,ac,A,ad⟩:=hl;obtain⟨rfl,rfl,rfl,ae,C,af⟩:=hr;rw[qw2];exact⟨rfl,oL,rfl,fun x J=>(zD.1 J).elim (ac x) (ae x),SortP.app.2 ⟨A,C,fun x J y E=>qbq (h3 x J) (h4 y E)⟩,h1⟩
 | succ h=>
  obtain⟨O,Q,rfl,rfl,rfl,rfl,ag,A,ad,R⟩:=hl;obtain⟨z,ah,rfl,rfl,rfl,rfl,ai,C,af,G⟩:=hr;obtain⟨a,K,rfl⟩:∃a K,O=a::K:=by
   cases O with
   | nil=>cases Q
   | cons b r=>exact⟨b,r,rfl⟩
  obtain⟨b,z,rfl⟩:∃b K,z=b::K:=by
   cases z with
   | nil=>cases ah
   | cons b r=>exact⟨b,r,rfl⟩
  rw[qwV];have U:∀y∈b.2.prs,KLe key y.1:=fun y E=>h4 y (by rw[yG];exact zH _ E);have I:=qnm C (G b oL).1 U;refine⟨a::K++(key,b.2)::z,Q,rfl,by simp;omega,by simp[yP],by simp[yP],fun c u=>?_,SepE.app A (C.head I U) fun x J y E=>?_,by simpa using h1,fun c u=>?_⟩;rcases zD.1 (show c∈K++(key,b.2)::z from u) with u|u;exact ag c u;rcases zG.1 u with rfl|u;exact hk;exact ai c u;have V:=qul A R h3 x J;have aa:∀w∈x.2.prs,KLt w.1 key:=fun w hw=>h3 w (yJ.2 ⟨x,J,hw⟩);rcases zG.1 E with rfl|E;exact⟨V,aa⟩;exact⟨qaB V (I y E),fun w hw=>qaB (aa w hw) (I y E)⟩;rcases zD.1 u with u|u;exact R c u;rcases zG.1 u with rfl|u;exact G b oL;exact G c (by simp[u])
end
end
section
section
variable {D:DiskM} {M M':PgM} {k v:Nat}
theorem Step.part{M1:PgM}{a x y:List Int}(A:∀z∈a++(x++b),InUse M z)(C:(a++(x++b)).Nodup)(h:Step D M M1 x y):Step D M M1 (a++(x++b)) (a++(y++b)):=by have u:(a++(x++b)).Perm ((a++b)++x):=qie (z:=a);exact ((h.beside (Z:=a++b) (fun z E=>A z (u.mem_iff.2 (zH _ E))) (u.nodup_iff.1 C)).perm u.symm (qie (z:=a)).symm)
theorem Step.kid{M1 u:PgM}{h Q:List Int}(A:∀z∈p::R,InUse M z)(C:(p::R).Nodup)(E:Step D M M1 R h)(G:Step D M1 u [p] Q):Step D M u (p::R) (Q++h):=by
 have:=Step.node (D:=D) (p:=p) (a:=[]) (b:=[]) (x:=R) (y:=h) (Q:=Q) (oP A) (oP C) E G
 simpa using this
theorem qjM{A B:List Ent}{e1 h:Ent}:((A++e1::h::B).map (·.1)).tail.getD A.length []=h.1:=by
 cases A with
 | nil=>rfl
 | cons a A=>simp
theorem qe7{A B:List Ent}{e1 h:Ent}:((A++e1::h::B).map (·.2.page)).getD A.length 0=e1.2.page/\((A++e1::h::B).map (·.2.page)).getD (A.length+1) 0=h.2.page:=by constructor;simp;simp
theorem qxl{A B:List Ent}{e1 h:Ent}{s1 s2:Seg}:(⟨false,((A++e1::h::B).map (·.1)).tail.set A.length m,[],(((A++e1::h::B).map (·.2.page)).set A.length s1.page).set (A.length+1) s2.page⟩:NodeM)=inOf (A++(e1.1,s1)::(m,s2)::B):=by
 unfold inOf;congr 1;cases A with
 | nil=>rfl
 | cons a A=>simp[set_append_right]
 simp[set_append_right]
theorem qwJ{A B:List Ent}{e1 y:Ent}{s:Seg}:(⟨false,delAt ((A++e1::y::B).map (·.1)).tail A.length,[],delAt (((A++e1::y::B).map (·.2.page)).set A.length s.page) (A.length+1)⟩:NodeM)=inOf (A++(e1.1,s)::B):=by
 have C:(A.map (·.2.page)).length=A.length:=zK _;unfold inOf delAt;congr 1;cases A with
 | nil=>rfl
 | cons a A=>
  have u:((a::A++e1::y::B).map (·.1)).tail=(A.map (·.1)++[e1.1])++(y.1::B.map (·.1)):=oL;have z:((a::A++(e1.1,s)::B).map (·.1)).tail=(A.map (·.1)++[e1.1])++B.map (·.1):=oL;have h:(A.map (·.1)++[e1.1]).length=(a::A).length:=oL;rw[u,z,take_left' h,<- h,drop_length_add_append];rfl
 have u:((A++e1::y::B).map (·.2.page)).set A.length s.page=(A.map (·.2.page)++[s.page])++(y.2.page::B.map (·.2.page)):=(by rw[xJ,set_append_right _ _ oJ,C,Nat.sub_self];simp);have h:(A.map (·.2.page)++[s.page]).length=A.length+1:=oL;rw[u,take_left' h,<- h,drop_length_add_append];simp
theorem qxk{A B:List Ent}{e:Ent}{s:Seg}:(⟨false,((A++e::B).map (·.1)).tail,[],((A++e::B).map (·.2.page)).set A.length s.page⟩:NodeM)=inOf (A++(e.1,s)::B):=by
 have h:(A.map (·.2.page)).length=A.length:=zK _;unfold inOf;congr 1;cases A with
 | nil=>rfl
 | cons a A=>simp
 rw[xJ,set_append_right _ _ oJ,h,Nat.sub_self];simp
structure Nbrs (D:DiskM) (M:PgM) (k v:Nat) (h:Nat) (A B:List Ent) (e1 e2:Ent) (Nl Nr:NodeM) (n1 n2:Nat) (L1 L2:Prs) (R1 R2:List Int):Prop where
 wf:M.Wf
 over:M.over=false
 head:((A++e1::e2::B).map (·.1)).head?=some []
 keys:KeysOk k (A++e1::e2::B)
 sep:SepE (A++(e1.1,⟨0,0,L1,[]⟩)::(e2.1,⟨0,0,L2,[]⟩)::B)
 len:A.length+B.length+2<=(capsV k v).2
 rest:∀ b,b∈A\/b∈B->Has D M k v h b.2/\minOf k v h<=b.2.size
 left:HasN D M k v h Nl n1 L1 R1
 right:HasN D M k v h Nr n2 L2 R2
 use:∀ x∈A.flatMap (·.2.pages)++(((e1.2.page::R1)++(e2.2.page::R2))++B.flatMap (·.2.pages)),InUse M x
 nodup:(A.flatMap (·.2.pages)++(((e1.2.page::R1)++(e2.2.page::R2))++B.flatMap (·.2.pages))).Nodup
theorem Nbrs.mids{A B:List Ent}{e1 u:Ent}{z C:NodeM}{E G:List Int}(H:Nbrs D M k v h A B e1 u z C n1 n2 L1 L2 E G):(∀x∈L1,KLt x.1 u.1)/\(∀y∈L2,KLe u.1 y.1)/\u.1.length=k/\IsB u.1:=by have I:=pairwise_append.1 H.sep.pair;have J:=yI.1 I.2.1;have K:=H.keys u (by cases A<;>simp);exact⟨(J.1 (u.1,⟨0,0,L2,[]⟩) oL).2,H.sep.low (u.1,⟨0,0,L2,[]⟩) oL,K⟩
theorem qrO(hc:CapsOk k v){A B:List Ent}{e1 C:Ent}(H:Nbrs D M k v h A B e1 C Nl Nr n1 n2 L1 L2 R1 R2){r:NodeM×NodeM×Key}(hr:TwoOk D M k v h r (L1++L2) (R1++R2))(hf:2<=M.free.length:=by omega): ∃N M' R,bothM k v M (inOf (A++e1::C::B)) A.length r=((N,0),M')/\HasN D M' k v (h+1) N (A.length+B.length+2) (A.flatMap (·.2.prs)++((L1++L2)++B.flatMap (·.2.prs))) R/\ Step D M M' (A.flatMap (·.2.pages)++(((e1.2.page::R1)++(C.2.page::R2))++B.flatMap (·.2.pages))) R/\M.free.length<=M'.free.length+2:=by
 obtain⟨m1,K1,G,m2,K2,I,aH,aI,eL,eR,aJ,aK,aL,aM,aN,aO,av,aw⟩:=hr.res;have ba:=hc.min h;have V:=H.use;have am:=H.nodup;have pm:(((e1.2.page::R1)++(C.2.page::R2))).Perm (e1.2.page::C.2.page::(R1++R2)):=by rw[xH];exact (perm_middle).cons _
 rw[<- eR] at pm;have O:∀x,x∈e1.2.page::C.2.page::(G++I)->x∈A.flatMap (·.2.pages)++(((e1.2.page::R1)++(C.2.page::R2))++B.flatMap (·.2.pages)):=fun x y=>zI _ (zH _ (pm.mem_iff.2 y));have af:(e1.2.page::C.2.page::(G++I)).Nodup:=pm.nodup_iff.1 (yL.1 (yL.1 am).2.1).1;have Q:=nodup_cons.1 af;have ag:=nodup_cons.1 Q.2;have aP:=V _ (O e1.2.page oL);have ay:=V _ (O C.2.page oL);obtain⟨E,M1,s1,aa,H1,bc⟩:=aH.store H.wf H.over oJ aP (fun hm=>Q.1 (zN _ (zH _ hm))) oJ;have J:∀x,InUse M x->x≠e1.2.page->pagerReadM D M1 x=pagerReadM D M x/\InUse M1 x/\x≠E:=fun x y an=>by
  have:=aa.rest x y (oP an)
  exact⟨this.1,this.2.1,by simpa using this.2.2⟩
 have ab:C.2.page≠e1.2.page:=fun e=>Q.1 (by rw[e];simp);have aR:HasN D M1 k v h r.2.1 m2 K2 I:=aI.frame fun x y=>(J x (V x (O x (by simp[y]))) (fun e=>Q.1 (by rw[<- e];simp[y]))).1;obtain⟨K,M2,s2,az,H2,bg⟩:=aR.store aa.wf aa.over oJ (J _ ay ab).2.1 (fun hm=>ag.1 (zI _ hm)) oJ;have ac:∀x,InUse M1 x->x≠C.2.page->pagerReadM D M2 x=pagerReadM D M1 x/\InUse M2 x/\x≠K:=fun x y an=>by
  have:=az.rest x y (oP an)
  exact⟨this.1,this.2.1,by simpa using this.2.2⟩
 have ah:∀x∈E::G,InUse M1 x/\x≠C.2.page:=fun x y=>by refine⟨H1.used aa.over x y,fun e=>?_⟩;rcases zG.1 y with e'|y;rcases aa.new E oL with U|U;exact ab (by rw[<- e,e',zE.1 U]);exact U (by rw[<- e',e];exact ay);exact ag.1 (zH _ (e▸y))
 have aS:Has D M2 k v h ⟨E,m1,K1,E::G⟩:=H1.frame fun x y=>(ac x (ah x y).1 (ah x y).2).1;have aT:∀b,b∈A\/b∈B->∀x∈b.2.pages,InUse M x/\x≠e1.2.page/\x≠C.2.page:=fun b u x y=>by
  have hd:=yL.1 am;have aU:=yL.1 hd.2.1;have aA:∀z,z=e1.2.page\/z=C.2.page->z∈(e1.2.page::R1)++(C.2.page::R2):=fun z hz=>pm.mem_iff.2 (by rcases hz with rfl|rfl<;>simp);have key:∀z,z=e1.2.page\/z=C.2.page->x≠z:=fun z hz e=>by rcases u with u|u;exact hd.2.2 x (yJ.2 ⟨b,u,y⟩) z (zH _ (aA z hz)) e;exact aU.2.2 z (aA z hz) x (yJ.2 ⟨b,u,y⟩) e.symm
  refine⟨V x ?_,key _ (.inl rfl),key _ (.inr rfl)⟩;rcases u with u|u;exact zH _ (yJ.2 ⟨b,u,y⟩);exact zI _ (zI _ (yJ.2 ⟨b,u,y⟩))
 have ad:∀b,b∈A\/b∈B->Has D M2 k v h b.2/\minOf k v h<=b.2.size:=fun b u=>⟨(H.rest b u).1.frame fun x y=>by have U:=aT b u x y;have h8:=J x U.1 U.2.1;exact ((ac x h8.2.1 U.2.2).1).trans h8.1,(H.rest b u).2⟩;have hL:K1++K2=L1++L2:=eL;have aB:SepE (A++(e1.1,(⟨E,m1,K1,E::G⟩:Seg))::(r.2.2,⟨K,m2,K2,K::I⟩)::B):=by
  have hS:=H.sep;have hp:=pairwise_append.1 hS.pair;have ae:=yI.1 hp.2.1;have aD:=yI.1 ae.2;have hj:SepE (A++(e1.1,(⟨0,0,L1++L2,[]⟩:Seg))::B):=by refine⟨pairwise_append.2 ⟨hp.1,yI.2 ⟨fun b u=>⟨(ae.1 b (by simp[u])).1,fun x y=>?_⟩,aD.2⟩,fun a ha b u=>?_⟩,fun b u x y=>?_⟩;rcases zD.1 y with y|y;exact (ae.1 b (by simp[u])).2 x y;exact (aD.1 b u).2 x y;rcases zG.1 u with rfl|u;exact hp.2.2 a ha (e1.1,⟨0,0,L1,[]⟩) oL;exact hp.2.2 a ha b (by simp[u]);rcases zD.1 u with u|u;exact hS.low b (by simp[u]) x y;rcases zG.1 u with rfl|u;rcases zD.1 y with y|y;exact hS.low (e1.1,⟨0,0,L1,[]⟩) oL x y;have U:=hS.low (C.1,⟨0,0,L2,[]⟩) oL x y;exact qcZ (qaX (ae.1 (C.1,⟨0,0,L2,[]⟩) oL).1) U;exact hS.low b (by simp[u]) x y
  exact hj.cut2 hL.symm aJ aK av aw
 have ao:KeysOk k (A++(e1.1,(⟨E,m1,K1,E::G⟩:Seg))::(r.2.2,⟨K,m2,K2,K::I⟩)::B):=by
  have U:KeysOk k (A++e1::B):=fun b u=>H.keys b (by
   cases A with
   | nil=>exact zN _ u
   | cons a A=>
    rcases zD.1 (show b∈A++e1::B from u) with u|u;exact zH (e1::C::B) u;exact zI A ((zG.1 u).elim (fun e=>by rw[e];simp) fun u=>by simp[u]))
  exact qp0 U ⟨aL,aM⟩
 have ap:((A++(e1.1,(⟨E,m1,K1,E::G⟩:Seg))::(r.2.2,⟨K,m2,K2,K::I⟩)::B).map (·.1)).head?=some []:=by
  have U:=H.head;cases A with
  | nil=>exact U
  | cons a A=>exact U
 refine⟨inOf (A++(e1.1,(⟨E,m1,K1,E::G⟩:Seg))::(r.2.2,⟨K,m2,K2,K::I⟩)::B),M2,_,?_,⟨_,ap,rfl,by simp;omega,?_,rfl,ao,aB,H.len,fun b u=>?_⟩,?_,oJ⟩;have aV:(inOf (A++e1::C::B)).kids.getD A.length 0=e1.2.page:=qe7.1;have aW:(inOf (A++e1::C::B)).kids.getD (A.length+1) 0=C.2.page:=qe7.2;unfold bothM;rw[aV,aW,s1];dsimp only;rw[if_neg (fun h=>h rfl),s2];exact congrArg (fun N=>((N,(0:Int)),M2)) (qxl (s1:=⟨E,m1,K1,E::G⟩) (s2:=⟨K,m2,K2,K::I⟩));rw[qaL,yG,<- hL,zV];rcases zD.1 u with u|u;exact ad b (.inl u);rcases zG.1 u with rfl|u;exact⟨aS,aN⟩;rcases zG.1 u with rfl|u;exact⟨H2,aO⟩;exact ad b (.inr u);have t1:Step D M M1 (e1.2.page::C.2.page::(G++I)) ([E]++C.2.page::(G++I)):=by
  have:=aa.beside (Z:=C.2.page::(G++I)) (fun x y=>V x (O x (zN _ y))) (by have p9:(e1.2.page::C.2.page::(G++I)).Perm ((C.2.page::(G++I))++[e1.2.page]):=(perm_append_singleton _ _).symm;exact p9.nodup_iff.1 af)
  exact this.perm (perm_append_singleton _ _) perm_append_comm
 have aE:∀x∈[E]++(G++I),InUse M1 x:=fun x y=>t1.has x (by rcases zD.1 y with y|y;exact zH _ y;exact zI _ (zN _ y));have p8:([E]++C.2.page::(G++I)).Perm (([E]++(G++I))++[C.2.page]):=(by exact perm_middle.trans<|(perm_append_singleton _ _).symm);have t2:=az.beside (Z:=[E]++(G++I)) aE (p8.nodup_iff.1 t1.nodup);have t3:=(t1.perm (.refl _) p8).trans t2;have p7:(([E]++(G++I))++[K]).Perm ((E::G)++(K::I)):=(by show (E::((G++I)++[K])).Perm (E::(G++K::I));refine List.Perm.cons _ ((perm_append_singleton _ _).trans ?_);exact perm_middle.symm);have t4:=Step.part (D:=D) (a:=A.flatMap (·.2.pages)) (b:=B.flatMap (·.2.pages)) V am (t3.perm pm.symm p7);rw[qaL,yG];refine t4.perm (.refl _) ?_;rw[zV]
end
end
section
section
variable {D:DiskM} {M M':PgM} {k v:Nat}
theorem qnX(z:M.Wf)(A:M.over=false)(C:InUse M n):∃M',dropV M n=(0,M')/\Step D M M' [n] []/\M.free.length<=M'.free.length:=by
 obtain⟨M',e,t,E,G,I⟩:=qkD (D:=D) (q:=n+1) z A C;have y:∀x,x≠n->pagerReadM D M' x=pagerReadM D M x/\(InUse M' x↔InUse M x):=fun x u=>by by_cases hq':x=n+1;rw[hq'];exact⟨E,G⟩;exact⟨t.rest x hq' u,t.use x hq' u⟩
 refine⟨M',e,⟨t.wf,t.over,t.roots,t.sup,t.lists,t.named,t.Named,t.turn,fun x u h=>?_,fun x u=>?_,fun x u=>(nomatch u),fun x u=>(nomatch u),.nil,t.old⟩,I⟩;have h:x≠n:=(oP h);exact⟨(y x h).1,(y x h).2.2 u,oL⟩;by_cases h:x=n;subst h;exact absurd u (t.left oJ);exact .inr ⟨(y x h).2.1 u,by simpa using h⟩
theorem qn6(hc:CapsOk k v){A B:List Ent}{e1 C:Ent}{E G:List Int}(H:Nbrs D M k v h A B e1 C Nl Nr n1 n2 L1 L2 E G)(h1:n1+n2<=(if h=0 then (capsV k v).1 else (capsV k v).2):=by omega)(h2:minOf k v h<=n1+n2:=by omega)(hf:1<=M.free.length:=by omega): ∃N M' R,joinM k v M (inOf (A++e1::C::B)) A.length Nl Nr=((N,0),M')/\HasN D M' k v (h+1) N (A.length+B.length+1) (A.flatMap (·.2.prs)++((L1++L2)++B.flatMap (·.2.prs))) R/\ Step D M M' (A.flatMap (·.2.pages)++(((e1.2.page::E)++(C.2.page::G))++B.flatMap (·.2.pages))) R/\M.free.length<=M'.free.length+1:=by
 obtain⟨av,aw,ax,ay⟩:=H.mids;have hJ:=qwY H.left H.right h1 av aw ⟨ax,ay⟩;have aV:=hc.min h;have J:=H.use;have ae:=H.nodup;have pm:(((e1.2.page::E)++(C.2.page::G))).Perm (e1.2.page::C.2.page::(E++G)):=by rw[xH];exact (perm_middle).cons _
 have K:∀x,x∈e1.2.page::C.2.page::(E++G)->x∈A.flatMap (·.2.pages)++(((e1.2.page::E)++(C.2.page::G))++B.flatMap (·.2.pages)):=fun x y=>zI _ (zH _ (pm.mem_iff.2 y));have ad:(e1.2.page::C.2.page::(E++G)).Nodup:=pm.nodup_iff.1 (yL.1 (yL.1 ae).2.1).1;have O:=nodup_cons.1 ad;have aj:=nodup_cons.1 O.2;have az:=J _ (K e1.2.page oL);have ak:=J _ (K C.2.page oL);obtain⟨q,M1,s1,Q,H1,aX⟩:=hJ.store H.wf H.over oJ az (fun hm=>O.1 (zN _ hm)) hf;have U:C.2.page≠e1.2.page:=fun e=>O.1 (by rw[e];simp);have I:∀x,InUse M x->x≠e1.2.page->pagerReadM D M1 x=pagerReadM D M x/\InUse M1 x/\x≠q:=fun x y af=>by
  have:=Q.rest x y (oP af)
  exact⟨this.1,this.2.1,by simpa using this.2.2⟩
 obtain⟨M2,s2,al,a0⟩:=qnX (D:=D) Q.wf Q.over (I _ ak U).2.1;have V:∀x,InUse M1 x->x≠C.2.page->pagerReadM D M2 x=pagerReadM D M1 x/\InUse M2 x:=fun x y af=>by
  have:=al.rest x y (oP af)
  exact⟨this.1,this.2.1⟩
 have aA:Has D M2 k v h ⟨q,n1+n2,L1++L2,q::(E++G)⟩:=H1.frame fun x y=>(V x (H1.used Q.over x y) (fun e=>by rcases zG.1 y with e'|y;exact (I _ ak U).2.2 (by rw[<- e,e']);exact aj.1 (e▸y))).1;have aB:∀b,b∈A\/b∈B->∀x∈b.2.pages,InUse M x/\x≠e1.2.page/\x≠C.2.page:=fun b u x y=>by
  have hd:=yL.1 ae;have aC:=yL.1 hd.2.1;have am:∀z,z=e1.2.page\/z=C.2.page->z∈(e1.2.page::E)++(C.2.page::G):=fun z hz=>pm.mem_iff.2 (by rcases hz with rfl|rfl<;>simp);have key:∀z,z=e1.2.page\/z=C.2.page->x≠z:=fun z hz e=>by rcases u with u|u;exact hd.2.2 x (yJ.2 ⟨b,u,y⟩) z (zH _ (am z hz)) e;exact aC.2.2 z (am z hz) x (yJ.2 ⟨b,u,y⟩) e.symm
  refine⟨J x ?_,key _ (.inl rfl),key _ (.inr rfl)⟩;rcases u with u|u;exact zH _ (yJ.2 ⟨b,u,y⟩);exact zI _ (zI _ (yJ.2 ⟨b,u,y⟩))
 have aa:∀b,b∈A\/b∈B->Has D M2 k v h b.2/\minOf k v h<=b.2.size:=fun b u=>⟨(H.rest b u).1.frame fun x y=>by have h9:=aB b u x y;have h8:=I x h9.1 h9.2.1;exact ((V x h8.2.1 h9.2.2).1).trans h8.1,(H.rest b u).2⟩;have hS:=H.sep;have hp:=pairwise_append.1 hS.pair;have ac:=yI.1 hp.2.1;have ao:=yI.1 ac.2;have ap:SepE (A++(e1.1,(⟨q,n1+n2,L1++L2,q::(E++G)⟩:Seg))::B):=by refine⟨pairwise_append.2 ⟨hp.1,yI.2 ⟨fun b u=>⟨(ac.1 b (by simp[u])).1,fun x y=>?_⟩,ao.2⟩,fun a ha b u=>?_⟩,fun b u x y=>?_⟩;rcases zD.1 y with y|y;exact (ac.1 b (by simp[u])).2 x y;exact (ao.1 b u).2 x y;rcases zG.1 u with rfl|u;exact hp.2.2 a ha (e1.1,⟨0,0,L1,[]⟩) oL;exact hp.2.2 a ha b (by simp[u]);rcases zD.1 u with u|u;exact hS.low b (by simp[u]) x y;rcases zG.1 u with rfl|u;rcases zD.1 y with y|y;exact hS.low (e1.1,⟨0,0,L1,[]⟩) oL x y;have h9:=hS.low (C.1,⟨0,0,L2,[]⟩) oL x y;exact qcZ (qaX (ac.1 (C.1,⟨0,0,L2,[]⟩) oL).1) h9;exact hS.low b (by simp[u]) x y
 have ag:KeysOk k (A++(e1.1,(⟨q,n1+n2,L1++L2,q::(E++G)⟩:Seg))::B):=by
  have h9:KeysOk k (A++e1::B):=fun b u=>H.keys b (by
   cases A with
   | nil=>exact zN _ u
   | cons a A=>
    rcases zD.1 (show b∈A++e1::B from u) with u|u;exact zH (e1::C::B) u;exact zI A ((zG.1 u).elim (fun e=>by rw[e];simp) fun u=>by simp[u]))
  exact qlx h9
 have ah:((A++(e1.1,(⟨q,n1+n2,L1++L2,q::(E++G)⟩:Seg))::B).map (·.1)).head?=some []:=by
  have h9:=H.head;cases A with
  | nil=>exact h9
  | cons a A=>exact h9
 have aN:=H.len;refine⟨inOf (A++(e1.1,(⟨q,n1+n2,L1++L2,q::(E++G)⟩:Seg))::B),M2,_,?_,⟨_,ah,rfl,by simp;omega,by rw[qaL],rfl,ag,ap,oJ,fun b u=>?_⟩,?_,oJ⟩;have aD:(inOf (A++e1::C::B)).kids.getD A.length 0=e1.2.page:=qe7.1;have aE:(inOf (A++e1::C::B)).kids.getD (A.length+1) 0=C.2.page:=qe7.2;have aF:(inOf (A++e1::C::B)).keys.getD A.length []=C.1:=qjM;unfold joinM;rw[aD,aE,aF,s1];dsimp only;rw[if_neg (fun h=>h rfl),s2];dsimp only;rw[if_neg (fun h=>h rfl)];exact congrArg (fun N=>((N,(0:Int)),M2)) (qwJ (s:=⟨q,n1+n2,L1++L2,q::(E++G)⟩));rcases zD.1 u with u|u;exact aa b (.inl u);rcases zG.1 u with rfl|u;exact⟨aA,h2⟩;exact aa b (.inr u);have t1:Step D M M1 (e1.2.page::C.2.page::(E++G)) ([q]++C.2.page::(E++G)):=by
  have:=Q.beside (Z:=C.2.page::(E++G)) (fun x y=>J x (K x (zN _ y))) (by have p9:(e1.2.page::C.2.page::(E++G)).Perm ((C.2.page::(E++G))++[e1.2.page]):=(perm_append_singleton _ _).symm;exact p9.nodup_iff.1 ad)
  exact this.perm (perm_append_singleton _ _) perm_append_comm
 have p8:([q]++C.2.page::(E++G)).Perm (([q]++(E++G))++[C.2.page]):=(by exact perm_middle.trans<|(perm_append_singleton _ _).symm);have t2:=al.beside (Z:=[q]++(E++G)) (fun x y=>t1.has x (by rcases zD.1 y with y|y;exact zH _ y;exact zI _ (zN _ y))) (p8.nodup_iff.1 t1.nodup);have t3:=(t1.perm (.refl _) p8).trans t2;rw[xF] at t3;have t4:=Step.part (D:=D) (a:=A.flatMap (·.2.pages)) (b:=B.flatMap (·.2.pages)) J ae (t3.perm pm.symm (.refl _));rw[qaL];exact t4
theorem SepE.swap{A B:List Ent}{e:Ent}{s:Seg}(h:SepE (A++e::B))(u:∀x∈s.prs,x∈e.2.prs):SepE (A++(e.1,s)::B):=
 h.put (key:=e.1) qaD (fun b y=>(h.mid.2 b y).1) fun x z=>.inr (u x z)
theorem treeCut(hc:CapsOk k v){key:Key}:∀(h:Nat) (M:PgM) (s:Seg),Has D M k v h s->M.Wf->M.over=false->s.pages.Nodup->key∈keysP s.prs->2*h<=M.free.length-> ∃N n M' R R',cutN D k v key (h+1) M s.page=((N,0),M')/\s.pages=s.page::R/\HasN D M' k v h N n (cutP key s.prs) R'/\Step D M M' R R'/\s.size<=n+1/\M.free.length<=M'.free.length+2*h
 | 0,M,s,hs,hW,ho,aI,ai,hf=>by
  obtain⟨N,R,hl,hN,hp,bN,_⟩:=hs.load;have bO:=hN;obtain⟨rfl,hn,rfl,hL,aJ,a9⟩:=hN;have aj:=qma aJ ai;have hm:=(qcj aJ).2 ai;have hi:placeV (keysP s.prs) key<s.prs.length:=by
   have:=(zP.1 hm).1
   simpa using this
  have bE:(cutP key s.prs).length+1=s.prs.length:=(by rw[aj,zF,yK,yB];omega);refine⟨lfOf (cutP key s.prs),(cutP key s.prs).length,M,[],[],?_,hp,⟨rfl,rfl,rfl,fun x u=>hL x (qlz.1 u).1,qtU aJ,oJ⟩,Step.refl hW ho (fun x u=>nomatch u) .nil,oJ,oJ⟩;unfold cutN;rw[hl];dsimp only;rw[if_neg (fun h=>h rfl),if_pos (show (lfOf s.prs).leaf=true from rfl),if_pos (show (lfOf s.prs).keys[placeV (lfOf s.prs).keys key]?=some key from hm)];refine congrArg (fun N=>((N,(0:Int)),M)) ?_;rw[aj];unfold lfOf delAt;simp only[xJ,xL,xM]
 | h+1,M,⟨p,n,L,P⟩,⟨es,h0,h1,h2,h3,h4,h5,h6,h7⟩,hW,ho,aI,ai,hf=>by
  dsimp only at h1 h2 h3 h5 aI ai;subst h1 h2 h3;have hl:loadN D M k v p=(inOf es,0):=h4.load h5;have ak:=h4.right.innerTwo;obtain⟨A,e,B,O,hA,bp,bq,aL⟩:=qh2 (key:=key) h0 h6;have aM:(inOf es).kids.getD (kidV (inOf es).keys key) 0=e.2.page:=aL;have br:kidV (inOf es).keys key=A.length:=hA.symm;have bs:e∈es:=(by rw[O];simp);obtain⟨bt,bu⟩:=h7 e bs;have af:es.flatMap (·.2.pages)=A.flatMap (·.2.pages)++(e.2.pages++B.flatMap (·.2.pages)):=(by rw[O,qaL]);have aq:es.flatMap (·.2.prs)=A.flatMap (·.2.prs)++(e.2.prs++B.flatMap (·.2.prs)):=(by rw[O,qaL]);have av:∀z∈A.flatMap (·.2.pages)++(e.2.pages++B.flatMap (·.2.pages)),InUse M z:=fun z hz=>by rw[<- af] at hz;obtain⟨b,C,hz⟩:=yJ.1 hz;exact (h7 b C).1.used ho z hz
  have ae:(A.flatMap (·.2.pages)++(e.2.pages++B.flatMap (·.2.pages))).Nodup:=(by rw[<- af];exact (nodup_cons.1 aI).2);have al:e.2.pages.Nodup:=(yL.1 (yL.1 ae).2.1).1;have ar:=h6;rw[O] at ar;have aw:=ar.mid;have ba:∀x∈A.flatMap (·.2.prs),KLt x.1 key:=fun x u=>by obtain⟨a,ha,u⟩:=yJ.1 u;exact qbq (aw.1 a ha x u) bp
  have bb:∀x∈B.flatMap (·.2.prs),KLt key x.1:=fun x u=>by obtain⟨b,C,u⟩:=yJ.1 u;exact qbq (bq b C) ((aw.2 b C).2.2 x u)
  have aj:cutP key (es.flatMap (·.2.prs))=A.flatMap (·.2.prs)++(cutP key e.2.prs++B.flatMap (·.2.prs)):=(by rw[aq,ql9 ba,qkB bb]);have aN:key∈keysP e.2.prs:=by obtain⟨x,u,rfl⟩:=mem_map.1 ai;rw[aq] at u;rcases zD.1 u with u|u;exact absurd (ba x u) qaD;rcases zD.1 u with u|u;exact zY u;exact absurd (bb x u) qaD
  obtain⟨N1,n1,M1,Re,I,ec,aO,am,st,bT,bU⟩:=treeCut hc h M e.2 bt hW ho al aN oJ;rw[aO] at av ae al;have U:=KeysOk.of h4;have aG:e.2.page∉Re:=(nodup_cons.1 al).1;have aP:InUse M e.2.page:=av _ oL;have bw:Step D M M1 (e.2.page::Re) (e.2.page::I):=st.beside (Z:=[e.2.page]) (fun x u=>by rw[zE.1 u];exact aP) (oP al);have aQ:=Step.part av ae bw;have bc:InUse M1 e.2.page:=(st.rest _ aP aG).2.1;have aR:e.2.page∉I:=(st.rest _ aP aG).2.2;have E:∀b,b∈A\/b∈B->Has D M1 k v h b.2/\minOf k v h<=b.2.size:=fun b C=>by
   have aS:b∈es:=by rw[O];rcases C with C|C<;>simp[C]
   refine⟨(h7 b aS).1.frame fun x u=>?_,(h7 b aS).2⟩;have hd:=yL.1 ae;refine (st.rest x ((h7 b aS).1.used ho x u) fun hm=>?_).1;rcases C with C|C;exact hd.2.2 x (yJ.2 ⟨b,C,u⟩) x (zH _ (zN _ hm)) rfl;exact (yL.1 hd.2.1).2.2 x (zN _ hm) x (yJ.2 ⟨b,C,u⟩) rfl
  have a9:n1<=(if h=0 then (capsV k v).1 else (capsV k v).2):=by
   cases h with
   | zero=>exact am.2.2.2.2.2
   | succ h=>obtain⟨_,_,_,_,_,_,_,_,h9,_⟩:=am;exact h9
  have bV:=hc.min h;have ao:minOf k v h=(if h=0 then (capsV k v).1 else (capsV k v).2) / 2:=(by unfold minOf;split<;>rfl);have ax:SepE (A++(e.1,(⟨0,0,cutP key e.2.prs,[]⟩:Seg))::B):=ar.swap fun x u=>(qlz.1 u).1;have y:es.length=A.length+B.length+1:=(by rw[O];simp;omega);have aB:∀ {N:NodeM} {M2:PgM} {n R':_},HasN D M2 k v (h+1) N n (A.flatMap (·.2.prs)++(cutP key e.2.prs++B.flatMap (·.2.prs))) R'->HasN D M2 k v (h+1) N n (cutP key (es.flatMap (·.2.prs))) R':=fun h9=>by rw[aj];exact h9
  have au:∀ {M2:PgM} {R':List Int},Step D M1 M2 (A.flatMap (·.2.pages)++((e.2.page::I)++B.flatMap (·.2.pages))) R'->Step D M M2 (es.flatMap (·.2.pages)) R':=fun h9=>by rw[af,aO];exact aQ.trans h9
  have aH:lowN N1 k v↔n1<minOf k v h:=(by unfold lowN;rw[am.size,ao]);unfold cutN;rw[hl];dsimp only;rw[if_neg (fun h=>h rfl),if_neg (show ¬(inOf es).leaf=true from fun e=>nomatch e),aM,ec];dsimp only;rw[if_neg (fun h=>h rfl),br];by_cases hlw:lowN N1 k v;rw[if_neg (fun h=>h hlw)];have bW:=aH.1 hlw;have bf:n1+1=minOf k v h:=oJ;by_cases hA0:A.length>0;rw[if_pos hA0];obtain⟨A',f,rfl⟩:∃A' f,A=A'++[f]:=(by have bg:A≠[]:=length_pos_iff.1 hA0;exact⟨A.dropLast,A.getLast bg,(dropLast_concat_getLast bg).symm⟩);have bx:(A'++[f]).length-1=A'.length:=oL;rw[bx];have ay:=E f (.inl oL);obtain⟨Ny,Ry,aU,ap,aV,_,_⟩:=ay.1.load;have G:es=A'++f::e::B:=(by rw[O];simp);have bz:(A'++[f]).flatMap (·.2.pages)=A'.flatMap (·.2.pages)++f.2.pages:=(by simp[yP]);have bi:(A'++[f]).flatMap (·.2.prs)=A'.flatMap (·.2.prs)++f.2.prs:=(by simp[yP]);have V:(A'++[f]).flatMap (·.2.pages)++((e.2.page::I)++B.flatMap (·.2.pages))=A'.flatMap (·.2.pages)++(((f.2.page::Ry)++(e.2.page::I))++B.flatMap (·.2.pages)):=(by rw[bz,aV];simp only[zV]);have an:(A'++[f]).flatMap (·.2.prs)++(cutP key e.2.prs++B.flatMap (·.2.prs))=A'.flatMap (·.2.prs)++((f.2.prs++cutP key e.2.prs)++B.flatMap (·.2.prs)):=(by rw[bi];simp only[zV]);have az:SepE (A'++(f.1,(⟨0,0,f.2.prs,[]⟩:Seg))::(e.1,⟨0,0,cutP key e.2.prs,[]⟩)::B):=(by have h9:SepE (A'++f::((e.1,(⟨0,0,cutP key e.2.prs,[]⟩:Seg))::B)):=(oP ax);exact h9.swap (s:=⟨0,0,f.2.prs,[]⟩) fun x u=>u);have aa:=aQ;rw[V] at aa;have Hn:Nbrs D M1 k v h A' B f e Ny N1 f.2.size n1 f.2.prs (cutP key e.2.prs) Ry I:=
   ⟨st.wf,st.over,by rw[<- G];exact h0,by rw[<- G];exact U,az,by have:=ak.2;rw[y] at this;simp at this;omega,fun b C=>E b (C.imp (fun C=>by simp[C]) id),ap,am,aa.has,aa.nodup⟩
  have aX:(inOf es).kids.getD A'.length 0=f.2.page:=(by rw[G];exact qe7.1);have J:spareN Ny k v↔minOf k v h<f.2.size:=(by unfold spareN;rw[ap.size,ao]);unfold evenM;rw[aX,aU];dsimp only;rw[if_neg (fun h=>h rfl),if_pos (show A'.length<(A'++[f]).length by simp),G];by_cases hsq:spareN Ny k v;rw[if_neg (fun h=>h hsq)];obtain⟨aY,aZ,a0,a1⟩:=Hn.mids;have a2:(inOf (A'++f::e::B)).keys.getD A'.length []=e.1:=qjM;rw[a2];obtain⟨N,M2,R,e2,ab,K,aD⟩:=qrO hc Hn (qwO hc ap am (J.1 hsq) bf aY aZ ⟨a0,a1⟩);rw[<- an] at ab;rw[<- V] at K;rw[<- G];exact⟨N,_,M2,_,R,by rw[G];exact e2,rfl,aB ab,au K,by rw[y];simp;omega,oJ⟩;rw[if_pos hsq];have bA:f.2.size<=minOf k v h:=Nat.le_of_not_lt fun h9=>hsq (J.2 h9);have a3:=ay.2;obtain⟨N,M2,R,e2,ab,K,aD⟩:=qn6 hc Hn;rw[<- an] at ab;rw[<- V] at K;rw[<- G];exact⟨N,_,M2,_,R,by rw[G];exact e2,rfl,aB ab,au K,by rw[y];simp;omega,oJ⟩;rw[if_neg hA0];obtain rfl:A=[]:=eq_nil_of_length_eq_zero oJ;obtain⟨f,B',rfl⟩:∃f B',B=f::B':=by
   cases B with
   | nil=>rw[y] at ak;simp at ak
   | cons f B'=>exact⟨f,B',rfl⟩
  have ay:=E f (.inr oL);obtain⟨Ny,Ry,aU,ap,aV,_,_⟩:=ay.1.load;have G:es=[]++e::f::B':=O;have V:([]:List Ent).flatMap (·.2.pages)++((e.2.page::I)++(f::B').flatMap (·.2.pages))=([]:List Ent).flatMap (·.2.pages)++(((e.2.page::I)++(f.2.page::Ry))++B'.flatMap (·.2.pages)):=by rw[yG,aV];simp only[zV]
  have an:([]:List Ent).flatMap (·.2.prs)++(cutP key e.2.prs++(f::B').flatMap (·.2.prs))=([]:List Ent).flatMap (·.2.prs)++((cutP key e.2.prs++f.2.prs)++B'.flatMap (·.2.prs)):=(by rw[yG];simp only[zV]);have az:SepE ([]++(e.1,(⟨0,0,cutP key e.2.prs,[]⟩:Seg))::(f.1,⟨0,0,f.2.prs,[]⟩)::B'):=(by have h9:SepE ([(e.1,(⟨0,0,cutP key e.2.prs,[]⟩:Seg))]++f::B'):=ax;exact h9.swap (s:=⟨0,0,f.2.prs,[]⟩) fun x u=>u);have aa:=aQ;rw[V] at aa;have Hn:Nbrs D M1 k v h [] B' e f N1 Ny n1 f.2.size (cutP key e.2.prs) f.2.prs I Ry:=
   ⟨st.wf,st.over,by rw[<- G];exact h0,by rw[<- G];exact U,az,by have:=ak.2;rw[y] at this;simp at this⊢;omega,fun b C=>E b (C.imp id fun C=>by simp[C]),am,ap,aa.has,aa.nodup⟩
  have aX:(inOf es).kids.getD (([]:List Ent).length+1) 0=f.2.page:=(by rw[G];exact qe7.2);have J:spareN Ny k v↔minOf k v h<f.2.size:=(by unfold spareN;rw[ap.size,ao]);unfold evenM;rw[aX,aU];dsimp only;rw[if_neg (fun h=>h rfl),if_neg (show ¬([]:List Ent).length+1<([]:List Ent).length by simp),G];by_cases hsq:spareN Ny k v;rw[if_neg (fun h=>h hsq)];obtain⟨aY,aZ,a0,a1⟩:=Hn.mids;have a2:(inOf ([]++e::f::B')).keys.getD ([]:List Ent).length []=f.1:=qjM (A:=[]) (B:=B') (e1:=e);rw[a2];obtain⟨N,M2,R,e2,ab,K,aD⟩:=qrO hc Hn (qxo hc am ap bf (J.1 hsq) aY aZ ⟨a0,a1⟩);rw[<- an] at ab;rw[<- V] at K;rw[<- G];exact⟨N,_,M2,_,R,by rw[G];exact e2,rfl,aB ab,au K,by rw[y];simp,oJ⟩;rw[if_pos hsq];have bA:f.2.size<=minOf k v h:=Nat.le_of_not_lt fun h9=>hsq (J.2 h9);have a3:=ay.2;obtain⟨N,M2,R,e2,ab,K,aD⟩:=qn6 hc Hn;rw[<- an] at ab;rw[<- V] at K;rw[<- G];exact⟨N,_,M2,_,R,by rw[G];exact e2,rfl,aB ab,au K,by rw[y];simp,oJ⟩;rw[if_pos hlw];have a3:minOf k v h<=n1:=Nat.le_of_not_lt fun h9=>hlw (aH.2 h9);obtain⟨q,M2,e2,K,H2,aD⟩:=am.store st.wf st.over oJ bc aR oJ;rw[e2];have bB:Step D M M2 (e.2.page::Re) (q::I):=Step.kid (Q:=[q]) (fun z hz=>av z (zI _ (zH _ hz))) al st K;have bC:=Step.part av ae bB;have a4:SepE (A++(e.1,(⟨q,n1,cutP key e.2.prs,q::I⟩:Seg))::B):=ar.swap fun x u=>(qlz.1 u).1;have a5:((A++(e.1,(⟨q,n1,cutP key e.2.prs,q::I⟩:Seg))::B).map (·.1)).head?=some []:=(by rw[O] at h0;rw[xJ,xK] at h0⊢;exact h0);refine⟨inOf (A++(e.1,(⟨q,n1,cutP key e.2.prs,q::I⟩:Seg))::B),es.length,M2,_,A.flatMap (·.2.pages)++((q::I)++B.flatMap (·.2.pages)),?_,rfl,⟨_,a5,rfl,by rw[O];simp,by rw[qaL,aj],by rw[qaL],qlx (by rw[<- O];exact U),a4,ak.2,fun b C=>?_⟩,by rw[af,aO];exact bC,by show es.length<=es.length+1;omega,oJ⟩;rw[O];exact congrArg (fun N=>((N,(0:Int)),M2)) (qxk (s:=⟨q,n1,cutP key e.2.prs,q::I⟩));have bj:∀b,b∈A\/b∈B->Has D M2 k v h b.2/\minOf k v h<=b.2.size:=fun b C=>by have h9:=E b C;refine⟨h9.1.frame fun x u=>(K.rest x (h9.1.used st.over x u) fun hm=>?_).1,h9.2⟩;have hd:=yL.1 ae;have bk:=zE.1 hm;rcases C with C|C;exact hd.2.2 x (yJ.2 ⟨b,C,u⟩) x (by rw[bk];simp) rfl;exact (yL.1 hd.2.1).2.2 x (by rw[bk];simp) x (yJ.2 ⟨b,C,u⟩) rfl
  rcases zD.1 C with C|C;exact bj b (.inl C);rcases zG.1 C with rfl|C;exact⟨H2,a3⟩;exact bj b (.inr C)
end
end
end
section
open Go Go.Pt List
open Go.IntKind (wrap)
variable {B:List Nat} {K:Sl->WP} {cs:Array Value} {i:Nat} {ii:Int} {l:List Key} {s:Sl} {w:World}
theorem qfG{α:Type}{p:α->Bool}:∀ {l:List α} {r:Nat},r<=l.length->(∀(i:Nat) a,i<r->l[i]?=some a->p a=true)->(∀a,l[r]?=some a->p a=false)->(l.takeWhile p).length=r
 | [],r,h,_,_=>by simp at h;simp[h]
 | x::l,0,h,_,u=>by
  have:=u x rfl
  rw[takeWhile_cons,this];rfl
 | x::l,r+1,h,z,u=>by
  have A:=z 0 x (Nat.succ_pos r) rfl
  have:=qfG (p:=p) (l:=l) (r:=r) (oP h) (fun i a C y=>z (i+1) a oJ (oP y)) (fun a y=>u a (oP y))
  rw[takeWhile_cons,A];simp[this]
theorem qwZ{k:Key}{r:Nat}(y:r<=l.length)(z:∀(i:Nat) a,i<r->l[i]?=some a->KLe a k)(A:∀a,l[r]?=some a->KLt k a):kidV l k=r:=
 qfG y (fun i a C u=>zZ (z i a C u)) fun a u=>zU fun h=>h (A a u)
theorem quD{k:Key}{r:Nat}(u:r<=l.length)(y:∀(i:Nat) a,i<r->l[i]?=some a->KLt a k)(z:∀a,l[r]?=some a->KLe k a):placeV l k=r:=
 qfG u (fun i a A h=>zZ (y i a A h)) fun a h=>zU (z a h)
theorem qjA(h:Rising l){j:Nat}{a b:Key}(u:i<j)(y:l[i]?=some a)(z:l[j]?=some b):KLt a b:=by obtain⟨A,rfl⟩:=zP.1 y;obtain⟨C,rfl⟩:=zP.1 z;exact pairwise_iff_getElem.1 h i j A C u
abbrev NdC:=Bool×Sl×Sl×Sl
def ndV (x:NdC):Array Value:=#[.bool x.1,x.2.1.v,x.2.2.1.v,x.2.2.2.v]
def zeroX:NdC:=(false,⟨none,0,0⟩,⟨none,0,0⟩,⟨none,0,0⟩)
def NB (n:NodeM):Prop:=(∀a∈n.keys,IsB a)/\(∀a∈n.vals,IsB a)/\∀x∈n.kids,U32 x
def NodeR (S:List Nat) (w:World) (x:NdC) (n:NodeM):Prop:=
 x.1=n.leaf/\NB n/\(∃pk,RdK S w x.2.1 pk/\keyP pk=n.keys)/\(∃pv,RdK S w x.2.2.1 pv/\keyP pv=n.vals)/\Rds encU 1 S w x.2.2.2 n.kids
def BufK (Z:List Nat) (w:World) (s:Sl) (l:List Key) (B:List Nat):Prop:=∃pk:Kps,Buf encSl 1 w s (slsP pk) B/\keyP pk=l/\∀p∈pk,RdB Z w p.1 p.2
def NodeB (Z:List Nat) (w:World) (x:NdC) (n:NodeM) (B:List Nat):Prop:=
 x.1=n.leaf/\NB n/\∃Bk h u,B=Bk++(h++u)/\B.Nodup/\BufK Z w x.2.1 n.keys Bk/\BufK Z w x.2.2.1 n.vals h/\Buf encU 1 w x.2.2.2 n.kids u
theorem BufK.nil(Z:List Nat)(w:World):BufK Z w ⟨none,0,0⟩ [] []:=⟨[],.nil _ _ _,rfl,fun p h=>nomatch h⟩
theorem NodeB.zero(Z:List Nat)(w:World):NodeB Z w zeroX zeroN []:=⟨rfl,⟨fun _ h=>(nomatch h),fun _ h=>(nomatch h),fun _ h=>(nomatch h)⟩,[],[],[],rfl,nodup_nil,.nil _ _,.nil _ _,.nil _ _ _⟩
section
variable {Z Z' S:List Nat} {w w':World} {s:Sl} {l:List Key} {B:List Nat} {x:NdC} {n:NodeM}
theorem BufK.lt(h:BufK Z w s l B):∀b∈B,b<w.heap.size:=by obtain⟨pk,u,rfl,_⟩:=h;exact u.lt
theorem BufK.frame(h:BufK Z w s l B)(f:Fr S w w')(u:∀b∈B,b∉S)(y:∀b∈S,b∈Z\/w.heap.size<=b)(z:∀b∈Z',b∈Z\/w.heap.size<=b):BufK Z' w' s l B:=by obtain⟨pk,A,C,E⟩:=h;exact⟨pk,A.frame f u,C,fun p G=>(E p G).frame (f.mono fun i I J=>(y i I).elim id fun h=>absurd J oJ) z⟩
theorem BufK.frame0(h:BufK Z w s l B)(f:Fr [] w w'):BufK Z w' s l B:=h.frame f (fun _ _ h=>nomatch h) (fun _ h=>nomatch h) fun _ h=>.inl h
theorem NodeB.lt(h:NodeB Z w x n B):∀b∈B,b<w.heap.size:=by obtain⟨_,_,Bk,C,E,rfl,_,y,z,A⟩:=h;intro b u;rcases zD.1 u with u|u;exact y.lt b u;rcases zD.1 u with u|u;exact z.lt b u;exact A.lt b u
theorem NodeB.frame(h:NodeB Z w x n B)(f:Fr S w w')(y:∀b∈B,b∉S)(z:∀b∈S,b∈Z\/w.heap.size<=b)(A:∀b∈Z',b∈Z\/w.heap.size<=b):NodeB Z' w' x n B:=by obtain⟨C,u,Bk,E,G,rfl,I,J,K,O⟩:=h;exact⟨C,u,Bk,E,G,rfl,I,J.frame f (fun b u=>y b (by simp[u])) z A,K.frame f (fun b u=>y b (by simp[u])) z A,O.frame f fun b u=>y b (by simp[u])⟩
theorem NodeB.frame0(h:NodeB Z w x n B)(f:Fr [] w w'):NodeB Z w' x n B:=h.frame f (fun _ _ h=>nomatch h) (fun _ h=>nomatch h) fun _ h=>.inl h
theorem NodeB.weak(h:NodeB Z w x n B)(u:∀b∈Z',b∈Z\/w.heap.size<=b):NodeB Z' w x n B:=h.frame (.refl [] _) (fun _ _ h=>nomatch h) (fun _ h=>nomatch h) u
theorem BufK.rd(h:BufK Z w s l B)(u:∀b∈B,b∉S)(y:∀b∈S,b∈Z\/w.heap.size<=b):∃pk,RdK S w s pk/\keyP pk=l:=by obtain⟨pk,z,A,C⟩:=h;exact⟨pk,⟨z.rds qcV u,fun p E=>(C p E).frame (.refl _ _) y⟩,A⟩
theorem NodeB.rd(h:NodeB Z w x n B)(y:∀b∈B,b∉S)(z:∀b∈S,b∈Z\/w.heap.size<=b):NodeR S w x n:=by obtain⟨A,u,Bk,I,J,rfl,K,C,E,G⟩:=h;exact⟨A,u,C.rd (fun b u=>y b (by simp[u])) z,E.rd (fun b u=>y b (by simp[u])) z,G.rds (fun _=>rfl) fun b u=>y b (by simp[u])⟩
theorem NodeR.frame{S':List Nat}(h:NodeR S w x n)(f:Fr S w w')(u:∀b∈S',b∈S\/w.heap.size<=b):NodeR S' w' x n:=by obtain⟨y,z,⟨pk,A,C⟩,⟨pv,E,G⟩,I⟩:=h;exact⟨y,z,⟨pk,A.frame f u,C⟩,⟨pv,E.frame f u,G⟩,I.frame f u⟩
theorem NodeR.frame0(h:NodeR S w x n)(f:Fr [] w w'):NodeR S w' x n:=h.frame (f.mono fun b u=>nomatch u) fun b u=>.inl u
theorem NodeR.weak{S':List Nat}(h:NodeR S w x n)(u:∀b∈S',b∈S\/w.heap.size<=b):NodeR S' w x n:=h.frame (.refl _ _) u
end
theorem qjB:∀ {l:List Key},(∀(i:Nat) a b,l[i]?=some a->l[i+1]?=some b->KLt a b)->Rising l
 | [],_=>.nil
 | [x],_=>pairwise_singleton _ _
 | x::y::r,h=>by have ih:Rising (y::r):=qjB fun i a b u A=>h (i+1) a b (oP u) (oP A);have z:KLt x y:=h 0 x y rfl rfl;refine yI.2 ⟨fun a u=>?_,ih⟩;rcases zG.1 u with rfl|u;exact z;exact qaB z (qby ih a u)
theorem qgl{α:Type}{l:List α}{x y:α}(h:y∈insAt l i x):y=x\/y∈l:=by unfold insAt at h;simp only[zD,zE] at h;rcases h with (h|h)|h;exact .inr (yU h);exact .inl h;exact .inr (yT h)
theorem qji{k v:Nat}:∀(c:Nat) {b:List Int},IsB b->(∀a∈(leafR k v c b).1,IsB a)/\∀a∈(leafR k v c b).2,IsB a
 | 0,_,_=>⟨fun _ h=>(nomatch h),fun _ h=>(nomatch h)⟩
 | c+1,b,h=>by have ih:=qji (k:=k) (v:=v) c (b:=b.drop (k+v)) (h.drop _);refine⟨fun a u=>?_,fun a u=>?_⟩;rcases zG.1 u with rfl|u;exact h.take _;exact ih.1 a u;rcases zG.1 u with rfl|u;exact (h.drop _).take _;exact ih.2 a u
theorem qn7{k:Nat}:∀(c:Nat) {b:List Int},IsB b->∀a∈keysR k c b,IsB a
 | 0,_,_=>fun _ h=>(nomatch h)
 | c+1,b,h=>fun a u=>by rcases zG.1 u with rfl|u;exact h.take _;exact qn7 c (h.drop _) a u
theorem qmp:∃i,prog.info? 27=some i/\i.zero=some (.slice none 0 0)/\i.size=1/\i.bytes=24:=qe6 oK
abbrev elSl (s:Sl):Value:=s.v
abbrev elU (n:Int):Value:=.u n
theorem qj2{α:Type}(e:α->Value)(l:List α)(i:Nat)(x:α):(l.take i++[x]++l.drop i).map e=(l.map e).take i++[e x]++(l.map e).drop i:=by rw[xJ,xJ,xL,xM];rfl
theorem qrQ{α:Type}(e:α->Value)(l:List α)(i:Nat):(l.take i++l.drop (i+1)).map e=(l.map e).take i++(l.map e).drop (i+1):=by rw[xJ,xL,xM]
theorem qfd{a:Addr}{len cap:Nat}{hi:Int}{u:Nat}{K:Sl->Prop}(n:Nat)(y:hi=n)(h:n<=cap)(k:K ⟨some a,n,cap⟩):slc ⟨some a,len,cap⟩ none (some hi) none u K:=by subst y;refine qjC ⟨oJ,by dsimp only;omega⟩ ?_;rw[zJ];exact k
theorem qaR{b len cap:Nat}{lo:Int}{K:Sl->Prop}(n:Nat)(h:lo=n)(y:n<=len)(u:len<=cap)(z:n<cap)(k:K ⟨some ⟨b,n,none⟩,len-n,cap-n⟩):slc ⟨pW b,len,cap⟩ (some lo) none none 1 K:=by subst h;refine qlR oJ oJ u oJ ?_;rw[zJ,xQ,xO];exact k
theorem quW{lo hi mx:Int}{u:Nat}{K:Sl->Prop}(h:0<=lo/\lo<=hi/\hi<=mx/\mx<=s.cap)(k:∀y,K y):slc s (some lo) (some hi) (some mx) u K:=by unfold slc;exact⟨by simpa using h,k _⟩
theorem qc1{α:Type}{e:α->Value}{b:Nat}{T:TypeId}{z:Nat×Nat}{l:List α}(A:w.heap[b]?=some (.cells cs T z))(C:cs.toList.take l.length=l.map e)(i:Nat):∀(j:Nat) u,((l.map e).drop i)[j]?=some u->w.cell? (Addr.add ⟨b,i,none⟩ j)=some u:=fun j u y=>by rw[Addr.add_mk,qai A];rw[yZ] at y;have h:=(zP.1 y).1;rw[zK] at h;rw[<- C,xA,if_pos h] at y;simpa using y
theorem qkN{α:Type}{e:α->Value}{l:List α}(h:cs.toList.take l.length=l.map e)(hi:i<=l.length:=by omega):cs.toList.take i=(l.map e).take i:=by rw[<- h,take_take,xN hi]
theorem qj0{α:Type}{enc:α->List Value}{e:α->Value}(u:∀x,enc x=[e x]){l:List α}(h:cs.toList.take l.length=l.flatMap enc):cs.toList.take l.length=l.map e:=by rw[h,qdQ u]
theorem qsl{l:List Sl}{x:Sl}{vb:Nat}{T':TypeId}(h:Buf encSl 1 w s l B)(hi:i<=l.length)(he:ii=i)(hl:l.length<=100000)(hv:w.heap[vb]?=some (.cells #[elSl x] T' (0,0)))(ag:vb∉B)(kk:∀s' B' w',Buf encSl 1 w' s' (insAt l i x) B'->Fr B w w'->(∀b∈B',b∈B\/w.heap.size<=b)->K s' w'): cW 145 [s.v,.i ii,.slice (pW vb) 1 1] [.one .slice] w K:=by
 obtain⟨aD,R,hz,ah,ai⟩:=qmp;refine qkq (s:=s) (i:=ii) (v:=⟨pW vb,1,1⟩) ?_;unfold qgv;subst he;have aj:=h.len;have U:∀w',Fr B w w'->∀(j:Nat) u,([elSl x]:List Value)[j]?=some u->w'.cell? (Addr.add ⟨vb,0,none⟩ j)=some u:=fun w' f j u hj=>by rw[Addr.add_mk,qai (by rw[f.block vb (qac hv) ag];exact hv),xO];simpa using hj
 refine Rds.part (S:=[]) (Buf.rds (enc:=encSl) (k:=1) (fun _=>rfl) h (fun _ _ h=>nomatch h)) (lo:=some (i:Int)) (hi:=none) i l.length rfl (by rw[xT,aj]) hi (zM _) fun s1 _ _ _=>cond_false rfl ?_;apply qaa<;>intro V;have G:i=l.length:=(by have:=yO.1 V;omega);have ak:Src prog 1 161 (.slice (pW vb) 1 1) 1 ([x].flatMap encSl) w:=.ofSlice w (e':=27) oK _ 1 1 _ rfl (U w (.refl _ _)) (fun u hu=>by rw[yG,flatMap_nil,xF] at hu;rw[zE.1 hu];rfl);refine Buf.appSrc (ys:=[x]) (e:=27) h (fun _=>rfl) oK R hz ah rfl ak rfl (by rw[ai];omega) oJ fun s' B' w' b' f' n' _=>kk s' B' w' ?_ f' n';have e:insAt l i x=l++[x]:=(by unfold insAt;rw[G,xX,drop_length,xF]);rw[e];exact b';have G:i<l.length:=by
  have:=(zR.1 V)
  omega
 have aF:l≠[]:=fun e=>by rw[e] at G;exact absurd G (xW _)
 obtain⟨b,cs,T,rfl,ha,hb,hn,al,am,aG⟩:=h.ptr aF;have hM:=qj0 (e:=elSl) (fun _=>rfl) aG;obtain⟨sa,sn,sc⟩:=s;dsimp only at ha hn al am;subst ha hn;have aH:vb≠b:=(oP ag);have A:(l.map elSl).length=l.length:=zK ..;have an:∀v∈(l.map elSl).drop i,Value.oneCell' v=true:=fun v E=>by obtain⟨y,_,rfl⟩:=mem_map.1 (yT E);rfl
 have I:((l.map elSl).drop i).length=l.length-i:=(by rw[yB,A]);have J:wrap .i64 ((l.length:Int)+1)=((l.length+1:Nat):Int):=(by rw[wi' _ oJ];rfl);have ao:wrap .i64 ((i:Int)+1)=((i+1:Nat):Int):=(by rw[wi' _ oJ];rfl);have aI:wrap .i64 (((l.length+1:Nat):Int)-(i:Int))=((l.length+1-i:Nat):Int):=(by rw[wi' _ oJ];omega);apply qaa<;>intro V;have hg:sc<l.length+1:=by
  have:=zC V
  dsimp only at this;rw[show (((1:Nat):Int))=1 from rfl,J] at this;omega
 refine qfd i rfl oJ ?_;dsimp only;rw[show (((1:Nat):Int))=1 from rfl,J,aI,ao];have ap:i+(l.length+1-i)=l.length+1:=oJ;refine qlk (e:=27) (i:=aD) (kn:=.i64) (olds:=(l.map elSl).take i) oK oK R hz ah rfl (by rw[yK,A];omega) (fun h=>nomatch h) (fun a ha j u hj=>?_) oJ oJ (by rw[ap,ai];omega) oJ fun b2 aK c w2 e2 ab Q O aL aM=>?_;cases ha;have aq:=qc1 hb hM 0 j u;rw[xD] at aq;rw[xA] at hj;split at hj;exact aq hj;cases hj;rw[ap] at O⊢;have ar:=qac hb;have aW:Fr [b2] w w2:=Q.mono fun _ h _=>nomatch h;refine qaR i rfl oJ O oJ<|qel (vs:=[elSl x]) (src:=⟨pW vb,1,1⟩) ab (el:=27) oK oK ?_ (fun _=>⟨_,rfl,U w2 (Q.mono fun _ h _=>nomatch h)⟩) (fun v E=>by rw[zE.1 E];rfl) oO fun w3 ac f3=>?_;show 1=min 1 (l.length+1-i);omega;refine qaR (i+1) rfl oJ O oJ<|qaR i rfl oJ oJ oJ ?_;have aN:w3.heap[b]?=some (.cells cs T (0,0)):=by rw[f3.block b (yC ar Q.size) oO,Q.block b ar (fun h=>nomatch h)];exact hb
 refine qel (w:=w3.drew) (vs:=(l.map elSl).drop i) (src:=⟨some ⟨b,i,none⟩,l.length-i,sc-i⟩) ac (el:=27) oK oK ?_ (fun _=>⟨_,rfl,qc1 (w:=w3.drew) aN hM i⟩) an (by rw[qaq,I];omega) fun w4 aO f4=>?_;rw[I];show l.length-i=min (l.length-i) (l.length+1-(i+1));omega;have C:=qug (cs:=aK) (M:=l.map elSl) (i:=i) (v:=elSl x) (by rw[A];omega) (by rw[A];omega) aM;have z:(insAt l i x).length=l.length+1:=(by unfold insAt;simp;omega);refine kk _ [b2] w4 (Buf.one (e:=elSl) (fun _=>rfl) aO z.symm O (by rw[qaq,qaq];exact aL) ?_) ?_ (fun b' ad=>?_);rw[z];rw[A] at C;rw[C];exact (qj2 elSl l i x).symm;refine Fr.trans' (S:=[b]) (T:=[b2]) (Q.mono fun _ h _=>nomatch h) (f3.drew.trans f4) fun i hi=>.inr ?_;rw[zE.1 hi,e2];exact zM _;rw[zE.1 ad,e2];exact .inr (zM _);have hg:l.length+1<=sc:=by
  have:=zB V
  dsimp only at this;rw[show (((1:Nat):Int))=1 from rfl,J] at this;omega
 dsimp only;rw[show (((1:Nat):Int))=1 from rfl,J,ao];refine qfd (l.length+1) rfl hg<|qaR (i+1) rfl oJ hg oJ<|qi9 (e:=Extern.SlicesOverlaps.overlaps #[161,161] #[4]) Tryz.func185 oK oK oK oK false w (qmG oK R hv hb aH)<|cond_true rfl<|qaR (i+1) rfl oJ hg oJ<|qaR i rfl oJ hg oJ<|qel (w:=w.drew) (vs:=(l.map elSl).drop i) (src:=⟨some ⟨b,i,none⟩,l.length+1-i,sc-i⟩) hb (el:=27) oK oK ?_ (fun _=>⟨_,rfl,qc1 (w:=w.drew) hb hM i⟩) an (by rw[I];omega) fun w2 ab Q=>?_;rw[I];show l.length-i=min (l.length+1-i) (l.length+1-(i+1));omega;refine qaR i rfl oJ hg oJ<|qel (vs:=[elSl x]) (src:=⟨pW vb,1,1⟩) ab (el:=27) oK oK ?_ (fun _=>⟨_,rfl,U w2 ((Fr.refl [b] w).drew.trans Q)⟩) (fun v E=>by rw[zE.1 E];rfl) (by rw[qaq];simp;omega) fun w3 ac f3=>?_;show 1=min 1 (l.length+1-i);omega;have C:=qui (cs:=cs) (M:=l.map elSl) (i:=i) (v:=elSl x) (by rw[A];omega) (by rw[A];omega) (qkN hM);have z:(insAt l i x).length=l.length+1:=(by unfold insAt;simp;omega);refine kk _ [b] w3 (Buf.one (e:=elSl) (fun _=>rfl) ac z.symm hg (by rw[qaq,qaq];exact am) ?_) (((Fr.refl [b] w).drew.trans Q).trans f3) (fun b' ad=>.inl ad);rw[z];rw[A] at C;rw[C];exact (qj2 elSl l i x).symm
theorem qsi{l:List Sl}{jj:Int}(h:Buf encSl 1 w s l B)(hi:i<l.length)(he:ii=i)(hj:jj=((i+1:Nat):Int))(hl:l.length<=100000)(kk:∀s' w',Buf encSl 1 w' s' (delAt l i) B->Fr B w w'->K s' w'): cW 151 [s.v,.i ii,.i jj] [.one .slice] w K:=by
 obtain⟨ar,V,hz,aa,au⟩:=qmp;refine qko ?_;unfold qgt;subst he hj;have ab:l≠[]:=fun e=>by rw[e] at hi;exact absurd hi (xW _)
 obtain⟨b,cs,T,rfl,ha,hb,hn,O,E,ac⟩:=h.ptr ab;have hM:=qj0 (e:=elSl) (fun _=>rfl) ac;obtain⟨sa,sn,sc⟩:=s;dsimp only at ha hn O E;subst ha hn;have A:(l.map elSl).length=l.length:=zK ..;have ax:∀v∈(l.map elSl).drop (i+1),Value.oneCell' v=true:=fun v ad=>by obtain⟨y,_,rfl⟩:=mem_map.1 (yT ad);rfl
 have ay:((l.map elSl).drop (i+1)).length=l.length-(i+1):=(by rw[yB,A]);refine quW oN fun _=>cond_false (zR.2 oJ)<|qfd i rfl oJ ?_;have ae:∀J,J.heap[b]?=some (.cells (splice cs i ((l.map elSl).drop (i+1))) T (0,0))->Fr [b] w J->slc ⟨pW b,l.length-1,sc⟩ (some (((l.length-1:Nat)):Int)) (some ((l.length:Nat):Int)) none 1 fun (G:Sl)=>
  run [] ((Builtin.clear_ #[161] 0 (#[Value.slice G.a G.len G.cap])).run prog J)<|
  fun (az:PUnit) (af:World)=>
  K ⟨pW b,l.length-1,sc⟩ af:=fun J I f5=>by
  refine qka oJ oJ oJ oJ ?_;rw[zJ,zJ,xQ,xO];have h1:l.length-(l.length-1)=1:=oJ;rw[h1];dsimp only;refine qrP (e:=27) (z:=(Value.slice none 0 0)) I oK oK rfl rfl oJ (by rw[qaq];omega) fun w6 ah f6=>?_;have C:=qtY (cs:=cs) (M:=l.map elSl) (i:=i) (z:=(Value.slice none 0 0)) (by rw[A];omega) (by rw[A];exact hM);have Q:(delAt l i).length=l.length-1:=(by unfold delAt;simp;omega);refine kk _ w6 (Buf.one (e:=elSl) (fun _=>rfl) ah Q.symm oJ (by rw[qaq,qaq];exact E) ?_) (f5.trans f6);rw[Q];rw[A] at C;rw[show List.replicate 1 ((Value.slice none 0 0))=[(Value.slice none 0 0)] from rfl,C];exact (qrQ elSl l i).symm
 refine Rds.part (S:=[]) (Buf.rds (enc:=encSl) (k:=1) (fun _=>rfl) h (fun _ _ h=>nomatch h)) (lo:=some ((i+1:Nat):Int)) (hi:=none) (i+1) l.length rfl rfl oJ (zM _) fun s3 R h3 aE=>?_;have U:Src prog 1 161 s3.v s3.len ((l.map elSl).drop (i+1)) w.drew:=by
  have:=qfc (P:=prog) (tx:=161) (e':=27) (h3.same (Same.refl w).drew) (fun _=>rfl) (fun x u hu=>by rw[zE.1 hu];rfl)
  rw[qdQ (enc:=encSl) (e:=elSl) (fun _=>rfl),xX,xM] at this;exact this
 dsimp only;refine qrL (w:=w.drew) (e:=27) hb oK V aa U (by rw[R];omega) E fun J I f5=>?_;have e:i+s3.len=l.length-1:=(by rw[R];omega);rw[e];exact ae J I ((Fr.refl [b] w).drew.trans f5)
theorem qsm{l:List Int}{x:Int}{vb:Nat}{T':TypeId}(h:Buf encU 1 w s l B)(hi:i<=l.length)(he:ii=i)(hl:l.length<=100000)(hv:w.heap[vb]?=some (.cells #[elU x] T' (0,0)))(ag:vb∉B)(kk:∀s' B' w',Buf encU 1 w' s' (insAt l i x) B'->Fr B w w'->(∀b∈B',b∈B\/w.heap.size<=b)->K s' w'): cW 147 [s.v,.i ii,.slice (pW vb) 1 1] [.one .slice] w K:=by
 obtain⟨aD,R,hz,ah,ai⟩:=qdu;refine qkr (s:=s) (i:=ii) (v:=⟨pW vb,1,1⟩) ?_;unfold qgw;subst he;have aj:=h.len;have U:∀w',Fr B w w'->∀(j:Nat) u,([elU x]:List Value)[j]?=some u->w'.cell? (Addr.add ⟨vb,0,none⟩ j)=some u:=fun w' f j u hj=>by rw[Addr.add_mk,qai (by rw[f.block vb (qac hv) ag];exact hv),xO];simpa using hj
 refine Rds.part (S:=[]) (Buf.rds (enc:=encU) (k:=1) (fun _=>rfl) h (fun _ _ h=>nomatch h)) (lo:=some (i:Int)) (hi:=none) i l.length rfl (by rw[xT,aj]) hi (zM _) fun s1 _ _ _=>cond_false rfl ?_;apply qaa<;>intro V;have G:i=l.length:=(by have:=yO.1 V;omega);have ak:Src prog 1 31 (.slice (pW vb) 1 1) 1 ([x].flatMap encU) w:=.ofSlice w (e':=32) oK _ 1 1 _ rfl (U w (.refl _ _)) (fun u hu=>by rw[yG,flatMap_nil,xF] at hu;rw[zE.1 hu];rfl);refine Buf.appSrc (ys:=[x]) (e:=32) h (fun _=>rfl) oK R hz ah rfl ak rfl (by rw[ai];omega) oJ fun s' B' w' b' f' n' _=>kk s' B' w' ?_ f' n';have e:insAt l i x=l++[x]:=(by unfold insAt;rw[G,xX,drop_length,xF]);rw[e];exact b';have G:i<l.length:=by
  have:=(zR.1 V)
  omega
 have aF:l≠[]:=fun e=>by rw[e] at G;exact absurd G (xW _)
 obtain⟨b,cs,T,rfl,ha,hb,hn,al,am,aG⟩:=h.ptr aF;have hM:=qj0 (e:=elU) (fun _=>rfl) aG;obtain⟨sa,sn,sc⟩:=s;dsimp only at ha hn al am;subst ha hn;have aH:vb≠b:=(oP ag);have A:(l.map elU).length=l.length:=zK ..;have an:∀v∈(l.map elU).drop i,Value.oneCell' v=true:=fun v E=>by obtain⟨y,_,rfl⟩:=mem_map.1 (yT E);rfl
 have I:((l.map elU).drop i).length=l.length-i:=(by rw[yB,A]);have J:wrap .i64 ((l.length:Int)+1)=((l.length+1:Nat):Int):=(by rw[wi' _ oJ];rfl);have ao:wrap .i64 ((i:Int)+1)=((i+1:Nat):Int):=(by rw[wi' _ oJ];rfl);have aI:wrap .i64 (((l.length+1:Nat):Int)-(i:Int))=((l.length+1-i:Nat):Int):=(by rw[wi' _ oJ];omega);apply qaa<;>intro V;have hg:sc<l.length+1:=by
  have:=zC V
  dsimp only at this;rw[show (((1:Nat):Int))=1 from rfl,J] at this;omega
 refine qfd i rfl oJ ?_;dsimp only;rw[show (((1:Nat):Int))=1 from rfl,J,aI,ao];have ap:i+(l.length+1-i)=l.length+1:=oJ;refine qlk (e:=32) (i:=aD) (kn:=.i64) (olds:=(l.map elU).take i) oK oK R hz ah rfl (by rw[yK,A];omega) (fun h=>nomatch h) (fun a ha j u hj=>?_) oJ oJ (by rw[ap,ai];omega) oJ fun b2 aK c w2 e2 ab Q O aL aM=>?_;cases ha;have aq:=qc1 hb hM 0 j u;rw[xD] at aq;rw[xA] at hj;split at hj;exact aq hj;cases hj;rw[ap] at O⊢;have ar:=qac hb;have aW:Fr [b2] w w2:=Q.mono fun _ h _=>nomatch h;refine qaR i rfl oJ O oJ<|qel (vs:=[elU x]) (src:=⟨pW vb,1,1⟩) ab (el:=32) oK oK ?_ (fun _=>⟨_,rfl,U w2 (Q.mono fun _ h _=>nomatch h)⟩) (fun v E=>by rw[zE.1 E];rfl) oO fun w3 ac f3=>?_;show 1=min 1 (l.length+1-i);omega;refine qaR (i+1) rfl oJ O oJ<|qaR i rfl oJ oJ oJ ?_;have aN:w3.heap[b]?=some (.cells cs T (0,0)):=by rw[f3.block b (yC ar Q.size) oO,Q.block b ar (fun h=>nomatch h)];exact hb
 refine qel (w:=w3.drew) (vs:=(l.map elU).drop i) (src:=⟨some ⟨b,i,none⟩,l.length-i,sc-i⟩) ac (el:=32) oK oK ?_ (fun _=>⟨_,rfl,qc1 (w:=w3.drew) aN hM i⟩) an (by rw[qaq,I];omega) fun w4 aO f4=>?_;rw[I];show l.length-i=min (l.length-i) (l.length+1-(i+1));omega;have C:=qug (cs:=aK) (M:=l.map elU) (i:=i) (v:=elU x) (by rw[A];omega) (by rw[A];omega) aM;have z:(insAt l i x).length=l.length+1:=(by unfold insAt;simp;omega);refine kk _ [b2] w4 (Buf.one (e:=elU) (fun _=>rfl) aO z.symm O (by rw[qaq,qaq];exact aL) ?_) ?_ (fun b' ad=>?_);rw[z];rw[A] at C;rw[C];exact (qj2 elU l i x).symm;refine Fr.trans' (S:=[b]) (T:=[b2]) (Q.mono fun _ h _=>nomatch h) (f3.drew.trans f4) fun i hi=>.inr ?_;rw[zE.1 hi,e2];exact zM _;rw[zE.1 ad,e2];exact .inr (zM _);have hg:l.length+1<=sc:=by
  have:=zB V
  dsimp only at this;rw[show (((1:Nat):Int))=1 from rfl,J] at this;omega
 dsimp only;rw[show (((1:Nat):Int))=1 from rfl,J,ao];refine qfd (l.length+1) rfl hg<|qaR (i+1) rfl oJ hg oJ<|qi9 (e:=Extern.SlicesOverlaps.overlaps #[31,31] #[4]) Tryz.func189 oK oK oK oK false w (qmG oK R hv hb aH)<|cond_true rfl<|qaR (i+1) rfl oJ hg oJ<|qaR i rfl oJ hg oJ<|qel (w:=w.drew) (vs:=(l.map elU).drop i) (src:=⟨some ⟨b,i,none⟩,l.length+1-i,sc-i⟩) hb (el:=32) oK oK ?_ (fun _=>⟨_,rfl,qc1 (w:=w.drew) hb hM i⟩) an (by rw[I];omega) fun w2 ab Q=>?_;rw[I];show l.length-i=min (l.length+1-i) (l.length+1-(i+1));omega;refine qaR i rfl oJ hg oJ<|qel (vs:=[elU x]) (src:=⟨pW vb,1,1⟩) ab (el:=32) oK oK ?_ (fun _=>⟨_,rfl,U w2 ((Fr.refl [b] w).drew.trans Q)⟩) (fun v E=>by rw[zE.1 E];rfl) (by rw[qaq];simp;omega) fun w3 ac f3=>?_;show 1=min 1 (l.length+1-i);omega;have C:=qui (cs:=cs) (M:=l.map elU) (i:=i) (v:=elU x) (by rw[A];omega) (by rw[A];omega) (qkN hM);have z:(insAt l i x).length=l.length+1:=(by unfold insAt;simp;omega);refine kk _ [b] w3 (Buf.one (e:=elU) (fun _=>rfl) ac z.symm hg (by rw[qaq,qaq];exact am) ?_) (((Fr.refl [b] w).drew.trans Q).trans f3) (fun b' ad=>.inl ad);rw[z];rw[A] at C;rw[C];exact (qj2 elU l i x).symm
theorem qsj{l:List Int}{jj:Int}(h:Buf encU 1 w s l B)(hi:i<l.length)(he:ii=i)(hj:jj=((i+1:Nat):Int))(hl:l.length<=100000)(kk:∀s' w',Buf encU 1 w' s' (delAt l i) B->Fr B w w'->K s' w'): cW 222 [s.v,.i ii,.i jj] [.one .slice] w K:=by
 obtain⟨ar,V,hz,aa,au⟩:=qdu;refine qkp ?_;unfold qgu;subst he hj;have ab:l≠[]:=fun e=>by rw[e] at hi;exact absurd hi (xW _)
 obtain⟨b,cs,T,rfl,ha,hb,hn,O,E,ac⟩:=h.ptr ab;have hM:=qj0 (e:=elU) (fun _=>rfl) ac;obtain⟨sa,sn,sc⟩:=s;dsimp only at ha hn O E;subst ha hn;have A:(l.map elU).length=l.length:=zK ..;have ax:∀v∈(l.map elU).drop (i+1),Value.oneCell' v=true:=fun v ad=>by obtain⟨y,_,rfl⟩:=mem_map.1 (yT ad);rfl
 have ay:((l.map elU).drop (i+1)).length=l.length-(i+1):=(by rw[yB,A]);refine quW oN fun _=>cond_false (zR.2 oJ)<|qfd i rfl oJ ?_;have ae:∀J,J.heap[b]?=some (.cells (splice cs i ((l.map elU).drop (i+1))) T (0,0))->Fr [b] w J->slc ⟨pW b,l.length-1,sc⟩ (some (((l.length-1:Nat)):Int)) (some ((l.length:Nat):Int)) none 1 fun (G:Sl)=>
  run [] ((Builtin.clear_ #[31] 0 (#[Value.slice G.a G.len G.cap])).run prog J)<|
  fun (az:PUnit) (af:World)=>
  K ⟨pW b,l.length-1,sc⟩ af:=fun J I f5=>by
  refine qka oJ oJ oJ oJ ?_;rw[zJ,zJ,xQ,xO];have h1:l.length-(l.length-1)=1:=oJ;rw[h1];dsimp only;refine qrP (e:=32) (z:=(Value.int .u32 0)) I oK oK rfl rfl oJ (by rw[qaq];omega) fun w6 ah f6=>?_;have C:=qtY (cs:=cs) (M:=l.map elU) (i:=i) (z:=(Value.int .u32 0)) (by rw[A];omega) (by rw[A];exact hM);have Q:(delAt l i).length=l.length-1:=(by unfold delAt;simp;omega);refine kk _ w6 (Buf.one (e:=elU) (fun _=>rfl) ah Q.symm oJ (by rw[qaq,qaq];exact E) ?_) (f5.trans f6);rw[Q];rw[A] at C;rw[show List.replicate 1 ((Value.int .u32 0))=[(Value.int .u32 0)] from rfl,C];exact (qrQ elU l i).symm
 refine Rds.part (S:=[]) (Buf.rds (enc:=encU) (k:=1) (fun _=>rfl) h (fun _ _ h=>nomatch h)) (lo:=some ((i+1:Nat):Int)) (hi:=none) (i+1) l.length rfl rfl oJ (zM _) fun s3 R h3 aE=>?_;have U:Src prog 1 31 s3.v s3.len ((l.map elU).drop (i+1)) w.drew:=by
  have:=qfc (P:=prog) (tx:=31) (e':=32) (h3.same (Same.refl w).drew) (fun _=>rfl) (fun x u hu=>by rw[zE.1 hu];rfl)
  rw[qdQ (enc:=encU) (e:=elU) (fun _=>rfl),xX,xM] at this;exact this
 dsimp only;refine qrL (w:=w.drew) (e:=32) hb oK V aa U (by rw[R];omega) E fun J I f5=>?_;have e:i+s3.len=l.length-1:=(by rw[R];omega);rw[e];exact ae J I ((Fr.refl [b] w).drew.trans f5)
end
section
open Go Go.Pt List
open Go.IntKind (wrap)
open Classical
variable {B S:List Nat} {K:Sl->WP} {L:List (Nat×Obj)} {T:TypeId} {b l:List Int} {k:Nat} {n:NodeM} {ps:Kps} {s:Sl} {v:Value} {w w0:World} {x:NdC}
theorem qrX{i j:Nat}(h:i+j<=10000000:=by omega):wrap .i64 (Int.fdiv (wrap .u64 (wrap .i64 ((i:Int)+(j:Int)))) (2^1))=(((i+j) / 2:Nat):Int):=by have e1:wrap .i64 ((i:Int)+(j:Int))=(i:Int)+(j:Int):=wi' _ oJ;have u:wrap .u64 ((i:Int)+(j:Int))=(i:Int)+(j:Int):=IntWalk.u64_in _ oJ;rw[e1,u,Int.fdiv_eq_ediv_of_nonneg _ oM];have e:((i:Int)+(j:Int)) / 2^1=(((i+j) / 2:Nat):Int):=oJ;rw[e,wi' _ oJ]
theorem qtJ{n:Nat}{p:Nat->Bool}{K:Int->WP}(A:n<=1000000)(hf:∀y (i:Nat) (R:Bool->WP),Fr [] w y->i<n->(∀C,Fr [] w C->R (p i) C)->callV prog v [.i i] [.one .bool] y R)(u:∀i j,i<=j->j<n->p i=true->p j=true)(hk:∀(r:Nat) w',r<=n->(∀i,i<r->p i=false)->(∀i,r<=i->i<n->p i=true)->Fr [] w w'->K r w'): cW 113 [.i n,v] [.one .i] w K:=by
 refine qnD ?_;unfold qjG;refine qag (fun s w'=>∃i j:Nat,s=((i:Int),(j:Int))/\i<=j/\j<=n/\(∀a,a<i->p a=false)/\(∀a,j<=a->a<n->p a=true)/\Fr [] w w') (fun s _=>(s.2-s.1).toNat) ⟨0,n,rfl,oJ,oJ,fun _ h=>absurd h (xW _),fun a E G=>oJ,.refl _ _⟩ ?_;rintro s y ⟨i,j,rfl,ad,I,E,G,U⟩ X V;dsimp only;apply qaa<;>intro J;have ae:i<j:=(by have:=zC J;omega);rw[qrX oJ];refine hf y ((i+j) / 2) _ U oJ fun C z=>?_;cases hp:p ((i+j) / 2);refine cond_true rfl ?_;have e:wrap .i64 ((((i+j) / 2:Nat):Int)+1)=(((i+j) / 2+1:Nat):Int):=(by rw[wi' _ oJ];rfl);rw[e];refine V _ _ ⟨(i+j) / 2+1,j,rfl,oJ,I,fun a O=>?_,G,z⟩ oN;cases Q:p a;rfl
 have:=u a ((i+j) / 2) oJ oJ Q
 rw[hp] at this;exact this.symm;exact cond_false rfl<|V _ _ ⟨i,(i+j) / 2,rfl,oJ,oJ,E,fun a O A=>u _ a O A hp,z⟩ oN;have af:¬i<j:=(by have:=zB J;omega);exact hk i y oJ E (fun a O A=>G a oJ A) U
theorem qwt{n:Nat}{c:Nat->Int}{K:Int×Bool->WP}(J:n<=1000000)(hf:∀E (i:Nat) (K':Int->WP),Fr [] w E->i<n->(∀G,Fr [] w G->K' (c i) G)->callV prog v [.i i] [.one .i] E K')(u:∀i j,i<=j->j<n->c j>0->c i>0)(hk:∀(r:Nat) w',r<=n->(∀i,i<r->c i>0)->(∀i,r<=i->i<n->¬c i>0)->Fr [] w w'->K (r,decide (r<n/\c r=0)) w'): cW 116 [.i n,v] [.one .i,.one .bool] w K:=by
 refine qqG ?_;unfold qmY;refine qag (fun s w'=>∃i j:Nat,s=((i:Int),(j:Int))/\i<=j/\j<=n/\(∀a,a<i->c a>0)/\(∀a,j<=a->a<n->¬c a>0)/\Fr [] w w') (fun s _=>(s.2-s.1).toNat) ⟨0,n,rfl,oJ,oJ,fun _ h=>absurd h (xW _),fun a O Q=>oJ,.refl _ _⟩ ?_;rintro s E ⟨i,j,rfl,af,R,O,Q,U⟩ X hX;dsimp only;apply qaa<;>intro A;have ag:i<j:=(by have:=zC A;omega);rw[qrX oJ];refine hf E ((i+j) / 2) _ U oJ fun G y=>?_;apply qaa<;>intro C;have C:=zC C;have e:wrap .i64 ((((i+j) / 2:Nat):Int)+1)=(((i+j) / 2+1:Nat):Int):=(by rw[wi' _ oJ];rfl);rw[e];exact hX _ _ ⟨(i+j) / 2+1,j,rfl,oJ,R,fun a V=>u a _ oJ oJ C,Q,y⟩ oN;have C:=zB C;exact hX _ _ ⟨i,(i+j) / 2,rfl,oJ,oJ,O,fun a V J aa=>C (u _ a V J aa),y⟩ oN;have ah:¬i<j:=(by have:=zB A;omega);have I:=fun w'=>hk i w' oJ O (fun a V J=>Q a oJ J);apply qaa<;>intro A;have z:i<n:=(by have:=zC A;omega);refine hf E i _ U z fun G y=>?_;have e:(c i==0)=decide (i<n/\c i=0):=by rw[Bool.eq_iff_iff,yO,yM];exact⟨fun h=>⟨z,h⟩,fun h=>h.2⟩
 rw[e];exact I G y;have z:¬i<n:=by have:=zB A;omega
 have:=I E U
 rw[zU (fun h=>z h.1)] at this;exact this
section
variable {S S':List Nat} {w:World} {x:NdC} {n:NodeM} {ks:Sl} {key:Key}
theorem qlh{K:Int×Bool->WP}(hx:NodeR S w x n)(hk:RdB S' w ks key)(hB:IsB key)(hr:Rising n.keys)(hl:n.keys.length<=1000000)(kk:∀w',Fr [] w w'->K (placeV n.keys key,decide (n.keys[placeV n.keys key]?=some key)) w'): cW 74 [.agg (ndV x),ks.v] [.one .i,.one .bool] w K:=by
 obtain⟨h0,Q,⟨pk,C,z⟩,_⟩:=hx;refine qoP ?_;unfold qkR;refine oB (oE [] w) fun r1 w1 e1 f1 h=>oB h fun r3 w2 e2 f2 h=>oA h 1 rfl x.2.1 rfl ?_;have G:x.2.1.len=pk.length:=C.len;have ai:n.keys.length=pk.length:=(by rw[<- z,zK]);have u:∀(i:Nat) (y:i<pk.length),n.keys[i]?=some pk[i].2:=fun i y=>by rw[<- z,zQ,zA y];rfl
 rw[G];refine qwt (c:=fun i=>cmpL key (n.keys.getD i [])) oJ (fun w3 i K' f3 y R=>?_) (fun i j ak hj hc=>?_) fun r w' am U V f'=>?_;refine qbc (lb:=[.pointer (pW r3),.pointer (pW r1)]) rfl oK ?_;have E:=h.frame0 f3;refine qlB ?_;unfold qhd;have E:=E.drew;refine oA E 0 rfl ks rfl<|oA E 1 rfl x.2.1 rfl<|RdK.get (C.frame0 E.fr) i rfl y<|qo6 (hk.frame0 E.fr) ((C.frame0 E.fr).2 pk[i] (zW y)) hB (Q.1 _ (yE (u i y))) ?_;have e:n.keys.getD i []=pk[i].2:=by rw[yQ,u i y];rfl
 have:=R w3.drew f3.drew
 rw[e] at this;exact this;by_cases hij':i=j;rw[hij'];exact hc;have y:=u i oJ;have I:=u j hj;rw[yQ,I,xS] at hc;rw[yQ,y,xS];have h1:KLt pk[j].2 key:=(by unfold KLt;rw[qcI];omega);have J:=qaB (qjA hr oJ y I) h1;unfold KLt at J;rw[qcI] at J;omega;have hp:placeV n.keys key=r:=quD oJ (fun i a y O=>by
  have:=U i y
  rw[yQ,O,xS,qcI] at this;show cmpL a key<0;omega) fun a O=>by
  have aq:=(zP.1 O).1
  have:=V r (zM _) oJ
  rw[yQ,O,xS,qcI] at this;show ¬cmpL a key<0;omega
 have A:=kk w' (h.fr.trans f');rw[hp] at A;have e:decide (n.keys[r]?=some key)=decide (r<pk.length/\cmpL key (n.keys.getD r [])=0):=by refine decide_eq_decide.2 ⟨fun h=>?_,fun h=>?_⟩;refine⟨by have:=(zP.1 h).1;omega,?_⟩;rw[yQ,h,xS,qf2];have J:=h.2;rw[yQ,u r h.1,xS] at J;exact (u r h.1).trans (congrArg some (qf3 J).symm)
 rw[e] at A;exact A
theorem qpf{K:Int->WP}(hx:NodeR S w x n)(hk:RdB S' w ks key)(hB:IsB key)(hr:Rising n.keys)(hl:n.keys.length<=1000000)(kk:∀w',Fr [] w w'->K (kidV n.keys key) w'): cW 73 [.agg (ndV x),ks.v] [.one .i] w K:=by
 obtain⟨h0,Q,⟨pk,C,y⟩,_⟩:=hx;refine qro ?_;unfold qog;refine oB (oE [] w) fun r1 w1 e1 f1 h=>oB h fun r3 w2 e2 f2 h=>oA h 1 rfl x.2.1 rfl ?_;have G:x.2.1.len=pk.length:=C.len;have ai:n.keys.length=pk.length:=(by rw[<- y,zK]);have z:∀(i:Nat) (u:i<pk.length),n.keys[i]?=some pk[i].2:=fun i u=>by rw[<- y,zQ,zA u];rfl
 rw[G];refine qtJ (p:=fun i=>decide (cmpL key (n.keys.getD i [])<0)) oJ (fun w3 i K' f3 u R=>?_) (fun i j ak hj I=>?_) fun r w' am U V f'=>?_;refine qbc (lb:=[.pointer (pW r3),.pointer (pW r1)]) rfl oK ?_;have E:=h.frame0 f3;refine qns ?_;unfold qjm;have E:=E.drew;refine oA E 0 rfl ks rfl<|oA E 1 rfl x.2.1 rfl<|RdK.get (C.frame0 E.fr) i rfl u<|qo6 (hk.frame0 E.fr) ((C.frame0 E.fr).2 pk[i] (zW u)) hB (Q.1 _ (yE (z i u))) ?_;have e:n.keys.getD i []=pk[i].2:=(by rw[yQ,z i u];rfl);have e2:decide (cmpL key (n.keys.getD i [])<0)=decide (cmpL key pk[i].2<0):=decide_eq_decide.2 (by rw[e]);rw[<- e2];exact R w3.drew f3.drew;by_cases hij':i=j;rw[<- hij'];exact I;have u:=z i oJ;have J:=z j hj;have I:=zC I;rw[yQ,u,xS] at I;refine zZ ?_;rw[yQ,J,xS];exact qaB I (qjA hr oJ u J);have hp:kidV n.keys key=r:=qwZ oJ (fun i a u O=>by
  have:=zB (U i u)
  rw[yQ,O,xS] at this;exact this) fun a O=>by
  have ap:=(zP.1 O).1
  have:=zC (V r (zM _) oJ)
  rw[yQ,O,xS] at this;exact this
 have A:=kk w' (h.fr.trans f');rw[hp] at A;exact A
end
section
theorem qkc{p:Prop}{i:Decidable p}(h:p):true=decide p:=by simp[h]
theorem qbD{i:Nat}(h:i<=100000000:=by omega):wrap .i64 ((i:Int)+1)=((i+1:Nat):Int):=by rw[wi' _ oJ];rfl
section
variable {S:List Nat} {w:World} {s:Sl}
theorem qo7{p:Key->Bool}{K:Bool->WP}(O:RdK S w s ps)(hl:ps.length<=1000000)(V:∀y (x:Sl×Key) (Q:Bool->WP),Fr [] w y->x∈ps->(∀z,Fr [] w z->Q (p x.2) z)->callV prog v [x.1.v] [.one .bool] y Q)(R:∀w',Fr [] w w'->K ((keyP ps).any p) w'): cW 224 [s.v,v] [.one .bool] w K:=by
 refine qfS ?_;unfold qc7;refine qim ?_;unfold qev;have U:=O.len;refine qag (fun i w'=>∃n:Nat,i=(n:Int)/\n<=ps.length/\((keyP ps).take n).any p=false/\Fr [] w w') (fun i _=>((ps.length:Int)-i).toNat) ⟨0,rfl,yW _,rfl,.refl _ _⟩ ?_;rintro _ y ⟨n,rfl,hn,A,u⟩ X hX;apply qaa<;>intro G;have h:n<ps.length:=(by have:=zC G;omega);refine RdK.get (O.frame0 u) n rfl h<|V y ps[n] _ u (zW h) fun z C=>?_;have E:(keyP ps)[n]?=some ps[n].2:=(by rw[zQ,zA h];rfl);apply qaa<;>intro I;have:(keyP ps).any p=true:=any_eq_true.2 ⟨ps[n].2,yE E,I⟩;show K (decide (((n:Nat):Int)>=0)) z;rw[zZ (show ((n:Nat):Int)>=0 by omega)];rw[<- this];exact R z C;rw[qbD oJ];refine hX _ _ ⟨n+1,rfl,h,?_,C⟩ oJ;rw[take_add_one,E,any_append,A];simpa using I;have J:n=ps.length:=(by have:=zB G;omega);show K (decide ((-1:Int)>=0)) y;rw[zU (show ¬(-1:Int)>=0 by decide)];have:(keyP ps).any p=false:=by rw[<- A,J,zS (by rw[zK];exact zM _)]
 rw[<- this];exact R y u
theorem qo8{p:Int->Bool}{K:Bool->WP}(R:Rd S w s l)(hl:l.length<=1000000)(hf:∀C (x:Int) (U:Bool->WP),Fr [] w C->x∈l->(∀E,Fr [] w E->U (p x) E)->callV prog v [.u x] [.one .bool] C U)(V:∀w',Fr [] w w'->K (l.any p) w'): cW 199 [s.v,v] [.one .bool] w K:=by
 refine qfT ?_;unfold qc8;refine qin ?_;unfold qew;have aa:=R.1;refine qag (fun i w'=>∃n:Nat,i=(n:Int)/\n<=l.length/\(l.take n).any p=false/\Fr [] w w') (fun i _=>((l.length:Int)-i).toNat) ⟨0,rfl,yW _,rfl,.refl _ _⟩ ?_;rintro _ C ⟨n,rfl,hn,G,h⟩ X hX;apply qaa<;>intro J;have z:n<l.length:=(by have:=zC J;omega);have A:l[n]?=some l[n]:=zA z;refine Rds.get (R.frame0 h) n rfl A (y:=l[n]) rfl<|hf C l[n] _ h (zW z) fun E I=>?_;apply qaa<;>intro O;have:l.any p=true:=any_eq_true.2 ⟨l[n],yE A,O⟩;show K (decide (((n:Nat):Int)>=0)) E;rw[zZ (show ((n:Nat):Int)>=0 by omega)];rw[<- this];exact V E I;rw[qbD oJ];refine hX _ _ ⟨n+1,rfl,z,?_,I⟩ oJ;rw[take_add_one,A,any_append,G];simpa using O;have Q:n=l.length:=(by have:=zB J;omega);show K (decide ((-1:Int)>=0)) C;rw[zU (show ¬(-1:Int)>=0 by decide)];have:l.any p=false:=by rw[<- G,Q,zS (zM _)]
 rw[<- this];exact V C h
theorem qqc{m:Nat}{K:Bool->WP}(G:RdK S w s ps)(I:ps.length<=1000000)(J:∀w',Fr [] w w'->K (decide (∀a∈keyP ps,a.length=m)) w'): cW 197 [s.v,.i m] [.one .bool] w K:=by
 refine qqh ?_;unfold qmC;refine oB (oE [] w) fun r1 U e1 C h=>?_;have u:=G.frame0 C;refine qo7 (p:=fun a=>decide (a.length≠m)) u I (fun O x V E Q y=>?_) fun w' R=>?_;refine qbc (lb:=[.pointer (pW r1)]) rfl oK<|qmD ?_;unfold qix;refine oA (h.frame0 E) 0 rfl (m:Int) rfl ?_;have z:=(u.2 x Q).1;have e:(!((x.1.len:Int)==(m:Int)))=decide (x.2.length≠m):=by rw[z,Bool.eq_iff_iff];simp;omega
 rw[e];exact y O E;have e:(!((keyP ps).any fun a=>decide (a.length≠m)))=decide (∀a∈keyP ps,a.length=m):=by
  rw[Bool.eq_iff_iff,yM,zT,any_eq_false];constructor;intro h a A
  have:=h a A
  simpa using this;intro h a A;simp[h a A]
 rw[e];exact J w' (C.trans R)
theorem quy{K:Bool->WP}(Q:RdK S w s ps)(R:∀a∈keyP ps,IsB a)(hl:ps.length<=1000000)(U:∀w',Fr [] w w'->K (decide (Rising (keyP ps))) w'): cW 198 [s.v] [.one .bool] w K:=by
 refine qoT ?_;unfold qkV;have V:=Q.len;have y:∀(i:Nat) (hi:i<ps.length),(keyP ps)[i]?=some ps[i].2:=fun i hi=>by rw[zQ,zA hi];rfl
 refine qag (fun i w'=>∃n:Nat,i=(n:Int)/\1<=n/\(∀(j:Nat) a b,j+1<n->(keyP ps)[j]?=some a->(keyP ps)[j+1]?=some b->KLt a b)/\Fr [] w w') (fun i _=>((ps.length:Int)-i).toNat) ⟨1,rfl,zM _,fun j a b h=>oJ,.refl _ _⟩ ?_;rintro _ w1 ⟨n,rfl,hn,E,z⟩ X hX;apply qaa<;>intro O;have A:n<ps.length:=(by have:=zC O;omega);have e1:wrap .i64 ((n:Int)-1)=((n-1:Nat):Int):=(by rw[wi' _ oJ];omega);have C:=Q.frame0 z.drew;rw[e1];refine RdK.get C (n-1) rfl oJ<|RdK.get C n rfl A<|qo6 (C.2 ps[n-1] (zW _)) (C.2 ps[n] (zW _)) (R _ (yE (y (n-1) oJ))) (R _ (yE (y n A))) ?_;apply qaa<;>intro G;have G:=zC G;have:¬Rising (keyP ps):=fun hr=>by
  have:=qjA hr (show n-1<n by omega) (y (n-1) oJ) (y n A)
  unfold KLt at this;omega
 have u:=U _ z.drew;rw[zU this] at u;exact u;have G:=zB G;rw[qbD oJ];refine hX _ _ ⟨n+1,rfl,oJ,fun j a b hj J I=>?_,z.drew⟩ oJ;by_cases hjn:j+1<n;exact E j a b hjn J I;obtain rfl:n=j+1:=by omega
 rw[y j oJ] at J;rw[y (j+1) A] at I;cases J;cases I;show cmpL _ _<0;simp only[Nat.add_sub_cancel] at G;omega;have ae:¬n<ps.length:=(by have:=zB O;omega);have:Rising (keyP ps):=qjB fun j a b J I=>E j a b (by
  have:=(zP.1 I).1
  rw[zK] at this;omega) J I
 have u:=U w1 z;rw[zZ this] at u;exact u
theorem qvu{v:Nat}:caps (k:Int) (v:Int)=(((capsV k v).1:Int),((capsV k v).2:Int)):=by unfold caps capsV;by_cases h:k<1\/k>24\/v>108;rw[if_pos h,iP];rfl;rw[if_neg h,iN];rfl
theorem qlg{v:Nat}{w:World}{K:Int×Int->WP}(h:∀w',Fr [] w w'->K (((capsV k v).1:Int),((capsV k v).2:Int)) w'):cW 103 [.i k,.i v] [.one .i,.one .i] w K:=
 qwq fun w' u=>by rw[qvu];exact h w' (.of_same u)
theorem qpk{v:Nat}{K:Bool->WP}(hx:NodeR S w x n)(h1:n.keys.length<=1000000)(h2:n.vals.length<=1000000)(h3:n.kids.length<=1000000)(kk:∀w',Fr [] w w'->K (decide (rightV n k v)) w'): cW 156 [.agg (ndV x),.i k,.i v] [.one .bool] w K:=by
 obtain⟨h0,ah,⟨pk,aa,z⟩,⟨pv,ac,J⟩,U⟩:=hx;refine qoQ ?_;unfold qkS;refine oB (oE [] w) fun r1 w1 e1 f1 h=>qlg fun w2 f2=>?_;have h:=h.frame0 f2;have l1:pk.length=n.keys.length:=(by rw[<- z,zK]);have l2:pv.length=n.vals.length:=(by rw[<- J,zK]);have n1:x.2.1.len=n.keys.length:=(by rw[aa.len,l1]);have n2:x.2.2.1.len=n.vals.length:=(by rw[ac.len,l2]);have n3:x.2.2.2.len=n.kids.length:=U.1;refine qaf (fun b w'=>b=decide (¬((∀a∈n.keys,a.length=k)/\(∀a∈n.vals,a.length=v)/\Rising n.keys))/\Own [] w w' [(r1,.cells (ndV x) 163)]) ?_ ?_;refine oA h 0 rfl x.2.1 rfl<|qqc (m:=k) (aa.frame0 h.fr) oJ fun w3 f3=>?_;have h:=h.frame0 f3;rw[z];refine qaa (fun C=>⟨?_,h⟩) (fun C=>?_);have:¬ ∀a∈n.keys,a.length=k:=zB (oP C);exact qkc fun G=>this G.1;have q1:∀a∈n.keys,a.length=k:=zC (oP C);refine oA h 0 rfl x.2.2.1 rfl<|qqc (m:=v) (ac.frame0 h.fr) oJ fun w4 f4=>?_;have h:=h.frame0 f4;rw[J];refine qaa (fun C=>⟨?_,h⟩) (fun C=>?_);have:¬ ∀a∈n.vals,a.length=v:=zB (oP C);exact qkc fun G=>this G.2.1;have q2:∀a∈n.vals,a.length=v:=zC (oP C);refine oA h 0 rfl x.2.1 rfl<|quy (aa.frame0 h.fr) (by rw[z];exact ah.1) oJ fun w5 f5=>?_;have h:=h.frame0 f5;rw[z];refine⟨?_,h⟩;rw[Bool.eq_iff_iff,zT,decide_eq_false_iff_not,yM];exact⟨fun G g=>G g.2.2,fun G g=>G ⟨q1,q2,g⟩⟩;rintro b w3 ⟨rfl,h⟩;have V:∀ {w'},¬rightV n k v->Fr [] w w'->K false w':=fun hn f=>by
  have:=kk _ f
  rw[zU hn] at this;exact this
 refine qaa (fun C=>V (fun A=>zC C ⟨A.1,A.2.1,A.2.2.1⟩) h.fr) (fun C=>?_);have hq:=Classical.not_not.1 (zB C);have u:rightV n k v↔(if n.leaf then n.kids=[]/\1<=n.keys.length/\n.keys.length<=(capsV k v).1/\n.vals.length=n.keys.length
   else (∀x∈n.kids,2<=x)/\n.vals=[]/\2<=n.kids.length/\n.kids.length<=(capsV k v).2/\n.keys.length+1=n.kids.length):=⟨fun A=>A.2.2.2,fun G=>⟨hq.1,hq.2.1,hq.2.2,G⟩⟩
 refine oA h 0 rfl x.1 rfl ?_;apply qaa<;>intro C;rw[h0] at C;rw[if_pos C] at u;have ab:∀ {Q:Sl->Prop},Q x.2.1->ld .slice ⟨r1,1,none⟩ w3 Q:=fun q=>oA h 0 rfl x.2.1 rfl q;refine oA h 0 rfl x.2.2.2 rfl<|qaa (fun I=>?_) (fun I=>V (fun A=>?_) h.fr);refine ab (qaa (fun O=>?_) (fun O=>V (fun A=>?_) h.fr));refine ab (qaa (fun E=>?_) (fun E=>V (fun A=>?_) h.fr));refine oA h 0 rfl x.2.2.1 rfl (ab ?_);have I:=yO.1 I;have O:=zC O;have E:=zC E;have e:((x.2.2.1.len:Int)==(x.2.1.len:Int))=decide (rightV n k v):=by rw[Bool.eq_iff_iff,yO,yM,u];dsimp only at E;constructor;intro G;exact⟨eq_nil_of_length_eq_zero oJ,oJ,oJ,oJ⟩;intro G;omega
 rw[e];exact kk w3 h.fr
 have:=(u.1 A).2.2.1
 have E:=zB E;dsimp only at E;omega
 have:=(u.1 A).2.1
 have O:=zB O;omega
 have:=(u.1 A).1
 have I:=zR.1 I;rw[this] at n3;exact I (by rw[n3];rfl);rw[h0] at C;rw[if_neg (by rw[C];decide)] at u;have R:∀ {w'} {Q:Sl->Prop},Own [] w w' [(r1,.cells (ndV x) 163)]->Q x.2.2.2->ld .slice ⟨r1,3,none⟩ w' Q:=fun h q=>oA h 0 rfl x.2.2.2 rfl q;refine R h<|qo8 (p:=fun y=>decide (y<2)) (U.frame0 h.fr) h3 (fun w4 y K' f4 hy al=>?_) fun w4 f4=>?_;refine qbc (lb:=[]) rfl oK<|qlC ?_;unfold qhe;exact al w4 f4;have h:=h.frame0 f4;refine qaa (fun c0=>V (fun A=>?_) h.fr) (fun c0=>?_);obtain⟨y,hy,an⟩:=any_eq_true.1 c0
 have:=(u.1 A).1 y hy
 have:=zC an
 omega;have ae:∀y∈n.kids,2<=y:=fun y hy=>by
  have:=any_eq_false.1 c0 y hy
  simp at this;exact this
 refine oA h 0 rfl x.2.2.1 rfl<|qaa (fun I=>?_) (fun I=>V (fun A=>?_) h.fr);refine R h (qaa (fun O=>?_) (fun O=>V (fun A=>?_) h.fr));refine R h (qaa (fun E=>?_) (fun E=>V (fun A=>?_) h.fr));refine oA h 0 rfl x.2.1 rfl (R h ?_);have I:=yO.1 I;have O:=zC O;have E:=zC E;dsimp only at E;have ew:wrap .i64 ((x.2.2.2.len:Int)-1)=(x.2.2.2.len:Int)-1:=wi' _ oJ;have e:((x.2.1.len:Int)==wrap .i64 ((x.2.2.2.len:Int)-1))=decide (rightV n k v):=by rw[ew,Bool.eq_iff_iff,yO,yM,u];constructor;intro G;exact⟨ae,eq_nil_of_length_eq_zero oJ,oJ,oJ,oJ⟩;intro G;omega
 rw[e];exact kk _ h.fr
 have:=(u.1 A).2.2.2.1
 have E:=zB E;dsimp only at E;omega
 have:=(u.1 A).2.2.1
 have O:=zB O;omega
 have:=(u.1 A).2.1
 have I:=zR.1 I;rw[this] at n2;exact I (by rw[n2];rfl)
end
end
section
theorem qfh{src:Sl}{ys:List Int}(h:BufB w s l B)(E:RdB S w src ys)(U:l.length+ys.length<=1000000)(G:∀z B' w',BufB w' z (l++ys) B'->Fr B w w'->(∀b∈B',b∈B\/w.heap.size<=b)->K z w'): Pt.run [Ty1.one Cell.slice] ((Builtin.append_ #[27,27] 27 #[s.v,src.v]).run prog w) K:=by obtain⟨i,I,J,A,C⟩:=qmq;have y:=E.1;exact Buf.appSrc (e:=5) h qas oK I J A rfl (qfc (e':=5) E qas (fun x u O=>by rw[zE.1 O];rfl)) y (by rw[C];omega) oJ fun z B' w' Q R n' _=>G z B' w' Q R n'
theorem qxB(n:Int):be n 2=[wrap .u8 (Int.fdiv n (2^8)),wrap .u8 n]:=by show [byteAt n 1,byteAt n 0]=_;unfold byteAt;rw[show (min (8*1) 32:Nat)=8 from rfl,show (min (8*0) 32:Nat)=0 from rfl,Int.pow_zero,Int.fdiv_one]
theorem qyf(n:Int):be n 4=[wrap .u8 (Int.fdiv n (2^24)),wrap .u8 (Int.fdiv n (2^16)),wrap .u8 (Int.fdiv n (2^8)),wrap .u8 n]:=by show [byteAt n 3,byteAt n 2,byteAt n 1,byteAt n 0]=_;unfold byteAt;rw[show (min (8*3) 32:Nat)=24 from rfl,show (min (8*2) 32:Nat)=16 from rfl,show (min (8*1) 32:Nat)=8 from rfl,show (min (8*0) 32:Nat)=0 from rfl,Int.pow_zero,Int.fdiv_one]
theorem RdK.get'(h:RdK S w s ps)(n:Nat){i:Int}{K:Addr->Sl->Prop}(hi:i=n)(E:n<ps.length)(G:∀a,w.cell? a=some (.slice ps[n].1.a ps[n].1.len ps[n].1.cap)->(∀w',RdK S w' s ps->w'.cell? a=some (.slice ps[n].1.a ps[n].1.len ps[n].1.cap))->K a ps[n].1):idx s i 1 fun a=>ld .slice a w fun x=>K a x:=by
 subst hi;have A:(slsP ps)[n]?=some ps[n].1:=(by rw[zQ,zA E];rfl);obtain⟨Q,b,o,C,_,R,T,U,V,hc⟩:=h.1.at n A;refine qbE C ⟨oJ,oJ⟩ ?_;rw[zJ];have key:∀w',RdK S w' s ps->w'.cell? ⟨b,o+n*1,none⟩=some (.slice ps[n].1.a ps[n].1.len ps[n].1.cap):=fun w' I=>by
  obtain⟨_,b',o',u,_,J,T',O,y,z⟩:=I.1.at n A;rw[C] at u;cases u;rw[qai y]
  have:=congrArg (·[0]?) z
  simpa[encSl] using this
 exact qeY ps[n].1 (key w h) (G _ (key w h) key)
theorem qp3{b n:Nat}(u:w.heap[b]?=some (.cells (l.map (Value.int .u8)).toArray T (0,0)))(h:n=l.length):BufB w ⟨pW b,n,n⟩ l [b]:=
 Buf.one (e:=Value.int .u8) (fun _=>rfl) u h (zM _) (by simp[h]) (by rw[<- zK (f:=Value.int .u8),xX])
theorem qw5{b:Nat}{n:Int}(u:w.heap[b]?=some (.cells #[.b (wrap .u8 (Int.fdiv n (2^24))),.b (wrap .u8 (Int.fdiv n (2^16))),.b (wrap .u8 (Int.fdiv n (2^8))),.b (wrap .u8 n)] T (0,0))):RdB [] w ⟨pW b,4,4⟩ (be n 4):=by rw[qyf];exact Buf.rds qas (qp3 (n:=4) u rfl) fun _ _ h=>nomatch h
section
variable {S:List Nat} {w:World} {s:Sl}
theorem qwu{n:Nat}(hn:n<=1000000)(I:∀u B w',BufB w' u [] B->Fr [] w w'->(∀b∈B,w.heap.size<=b)->K u w'): cW 217 [.slice none 0 0,.i n] [.one .slice] w K:=by obtain⟨z,J,O,A,C⟩:=qmq;refine qnC (s:=⟨none,0,0⟩) (n:=n) ?_;unfold qjF;have e0:wrap .i64 (((0:Nat):Int)-((0:Nat):Int))=0:=wi' _ oM;have e1:wrap .i64 ((n:Int)-0)=(n:Int):=(by rw[wi' _ oJ];omega);refine qaf (fun _ w'=>w=w') (cond_false (zU oJ) rfl) ?_;rintro _ _ rfl;refine qaf (fun u w'=>∃B,BufB w' u [] B/\Fr [] w w'/\∀b∈B,w.heap.size<=b) ?_ (fun u w' ⟨B,Q,R,U⟩=>I u B w' Q R U);dsimp only;rw[e0,e1];refine qaa (fun G=>?_) (fun G=>⟨[],.nil _ _ _,.refl _ _,fun _ h=>nomatch h⟩);have y:0<n:=(by have:=zC G;omega);refine qjC ⟨oJ,by dsimp only;omega⟩ ?_;rw[zJ];dsimp only;refine qlk (e:=5) (i:=z) (kn:=.i64) (olds:=[]) oK oK J O A rfl rfl (fun _=>rfl) (fun a V=>nomatch V) y oJ (by rw[C];omega) oJ fun b cs c w2 e2 hb f2 h1 h2 h3=>qjC ⟨oJ,by dsimp only;omega⟩ ?_;rw[zJ];exact⟨[b],Buf.fresh (cap:=c) qas hb rfl (yW _) oJ rfl,f2,fun b' E=>by rw[zE.1 E,e2];exact zM _⟩
theorem qjb{i:Nat}(hi:i<ps.length):((keyP ps).take (i+1)).flatten=((keyP ps).take i).flatten++ps[i].2:=by rw[take_add_one,zQ,zA hi,flatten_append];simp
theorem qhY(i:Nat):((keyP ps).take i).flatten.length<=(keyP ps).flatten.length:=by have:(keyP ps).flatten=((keyP ps).take i).flatten++((keyP ps).drop i).flatten:=(by rw[<- flatten_append,xC]);rw[this,zF];omega
theorem qtv(I:RdK S w s ps)(hl:ps.length<=1000000)(ht:(keyP ps).flatten.length<=1000000)(kk:∀s' B w',BufB w' s' (keyP ps).flatten B->Fr [] w w'->(∀b∈B,w.heap.size<=b)->K s' w'): cW 183 [s.v] [.one .slice] w K:=by
 refine qlU ?_;unfold qht;have ab:=I.len;refine qag (fun t w'=>∃i:Nat,t=((((keyP ps).take i).flatten.length:Int),(i:Int))/\i<=ps.length/\w'=w) (fun t _=>((ps.length:Int)-t.2).toNat) ⟨0,rfl,yW _,rfl⟩ ?_;rintro t w' ⟨i,rfl,hi,rfl⟩ X Q;dsimp only;apply qaa<;>intro z;have u:i<ps.length:=(by have:=zC z;omega);have A:=qhY (ps:=ps) (i+1);have y:=qjb u;have R:=(I.2 ps[i] (zW u)).1;have e:wrap .i64 ((((keyP ps).take i).flatten.length:Int)+(ps[i].1.len:Int))=(((keyP ps).take (i+1)).flatten.length:Int):=by rw[y,zF] at A⊢;rw[wi' _ oJ,R];rfl
 refine qaf (fun x C=>x=(((keyP ps).take (i+1)).flatten.length:Int)/\C=w') ?_ ?_;refine RdK.get I i rfl u ?_;rw[e];exact cond_false (zU oJ) ⟨rfl,rfl⟩;rintro x C ⟨rfl,rfl⟩;rw[qbD oJ];exact Q _ _ ⟨i+1,rfl,u,rfl⟩ oN;have E:i=ps.length:=(by have:=zB z;omega);refine qwu (zL (qhY (ps:=ps) i) ht) fun s1 B1 w1 b1 f1 n1=>qag (fun t C=>∃(j:Nat) (J:Sl) (B2:List Nat),t=(J,(j:Int))/\j<=ps.length/\BufB C J ((keyP ps).take j).flatten B2/\Fr [] w' C/\∀b∈B2,w'.heap.size<=b) (fun t _=>((ps.length:Int)-t.2).toNat) ⟨0,s1,B1,rfl,yW _,b1,f1,n1⟩ ?_;rintro t C ⟨j,J,B2,rfl,hj,U,O,V⟩ X Q;dsimp only;apply qaa<;>intro z;have u:j<ps.length:=(by have:=zC z;omega);have A:=qhY (ps:=ps) (j+1);have y:=qjb u;have G:=I.frame0 O;refine RdK.get G j rfl u<|qfh U (G.2 ps[j] (zW u)) (by rw[y,zF] at A;omega) fun s3 B3 w3 b3 f3 n3=>?_;rw[qbD oJ];refine Q _ _ ⟨j+1,s3,B3,rfl,u,by rw[y];exact b3,O.trans' f3 fun i hi=>.inr (V i hi),fun b hb=>?_⟩ oN;rcases n3 b hb with h|h;exact V b h;exact zL O.size h;have E:j=ps.length:=(by have:=zB z;omega);rw[E,zS (by rw[zK];exact zM _)] at U;exact kk J B2 C U O V
theorem qvq{v:Nat}{K:Int×Sl×Int->WP}(hx:NodeR S w x n)(h1:n.keys.length<=1000000)(h2:n.vals.length<=1000000)(h3:n.kids.length<=1000000)(kk:∀s w',(∀G:List Nat,(∀b∈G,b<w.heap.size)->RdB G w' s (writeNV n k v).2.1)->Fr [] w w'->K ((writeNV n k v).1,s,(writeNV n k v).2.2) w'): cW 142 [.agg (ndV x),.i k,.i v] [.one .b,.one .slice,.one .i] w K:=by
 have aR:=hx;obtain⟨h0,a9,⟨pk,ak,A⟩,⟨pv,al,O⟩,ah⟩:=hx;refine qoR ?_;unfold qkT;refine oB (oE [] w) fun r1 w1 e1 f1 h=>oC h 0 rfl x rfl<|qpk (x:=x) (aR.frame0 f1) h1 h2 h3 fun w2 f2=>?_;have h:=h.frame0 f2;apply qaa<;>intro z;have hn:¬rightV n k v:=zB (oP z)
 have:=kk ⟨none,0,0⟩ w2 (fun G _=>by unfold writeNV;rw[if_neg hn];exact .nil _ _ _ _) h.fr
 unfold writeNV at this;rw[if_neg hn] at this;exact this;have hR:rightV n k v:=zC (oP z);have hW:writeNV n k v=(kindN n,bodyN n,0):=(by unfold writeNV;rw[if_pos hR]);rw[hW] at kk;have aA:=(qef hR).2;have l1:pk.length=n.keys.length:=(by rw[<- A,zK]);have l2:pv.length=n.vals.length:=(by rw[<- O,zK]);have n1:x.2.1.len=n.keys.length:=(by rw[ak.len,l1]);have n3:x.2.2.2.len=n.kids.length:=ah.1;have aB:∀ {s' B w'},BufB w' s' (bodyN n) B->(∀b∈B,w.heap.size<=b)->Fr [] w w'->K (kindN n,s',0) w':=fun b hB f=>kk _ _ (fun G hG=>b.rds qas fun c z hm=>by have:=hB c z;have:=hG c hm;omega) f;refine oA h 0 rfl x.1 rfl ?_;apply qaa<;>intro z;rw[h0] at z;have u:bodyN n=be n.keys.length 2++(n.keys.zip n.vals).flatMap (fun x=>x.1++x.2):=(by unfold bodyN;rw[if_pos z];rfl);have E:kindN n=3:=(by unfold kindN;rw[if_pos z]);have aC:=hR.2.2.2;rw[if_pos z] at aC;have aD:(n.keys.zip n.vals).length=n.keys.length:=(by rw[length_zip,aC.2.2.2,Nat.min_self]);refine oA h 0 rfl x.2.1 rfl<|oA h 0 rfl x.2.1 rfl<|oB h fun r9 w3 e3 f3 h=>oA h 1 rfl x.2.1 rfl ?_;have h9:=h.at (i:=0) rfl;have an:=h.sub (L':=[(r1,.cells (ndV x) 163)]) (sublist_cons_self _ _);have ao:r1≠r9:=fun e=>by have:=h.nodup;simp[e] at this
 have Q:w.heap.size<=r9:=(h.own (r9,_) (mem_cons_self ..)).elim (fun h=>nomatch h) id;refine qag (fun t w'=>∃(i:Nat) (s2:Sl) (B2:List Nat),t=(s2,(i:Int))/\i<=n.keys.length/\BufB w' s2 (be n.keys.length 2++((n.keys.zip n.vals).take i).flatMap (fun x=>x.1++x.2)) B2/\Own [] w w' [(r1,.cells (ndV x) 163)]/\r1∉B2/\∀b∈B2,w.heap.size<=b) (fun t _=>((n.keys.length:Int)-t.2).toNat)
  ⟨0,_,[r9],rfl,yW _,?_,an,by simpa using ao,fun b R=>by rw[zE.1 R];exact Q⟩ ?_
 rw[qxB,take_zero,flatMap_nil,xF];refine qp3 (T:=5) ?_ rfl;rw[n1] at h9;exact h9;rintro t w4 ⟨i,s2,B2,rfl,hi,b2,U,V,C⟩ X hX;dsimp only;apply qaa<;>intro z;have ae:i<n.keys.length:=(by have:=zC z;omega);have bm:i<n.vals.length:=oJ;have aF:=ak.frame0 U.fr;refine RdK.get aF i rfl oJ ?_;have aa:=U.drew;refine oA aa 0 rfl x.2.2.1 rfl ?_;have aU:=al.frame0 aa.fr;have ab:i<pv.length:=oJ;have ai:i<pk.length:=oJ;refine RdK.get' aU i rfl ab fun a ha hh=>?_;have af:n.keys[i]?=some pk[i].2:=(by rw[<- A,zQ,zA ai];rfl);have aV:n.vals[i]?=some pv[i].2:=(by rw[<- O,zQ,zA ab];rfl);have hz:(n.keys.zip n.vals)[i]?=some (pk[i].2,pv[i].2):=List.getElem?_zip_eq_some.2 ⟨af,aV⟩;have I:((n.keys.zip n.vals).take (i+1)).flatMap (fun x=>x.1++x.2)=((n.keys.zip n.vals).take i).flatMap (fun x=>x.1++x.2)++(pk[i].2++pv[i].2):=by rw[take_add_one,hz,yP];simp
 have ag:(be n.keys.length 2++((n.keys.zip n.vals).take (i+1)).flatMap (fun x=>x.1++x.2)).length<=500:=(by refine zL ?_ aA;rw[u,zF,zF];have e:(n.keys.zip n.vals).flatMap (fun x=>x.1++x.2)=((n.keys.zip n.vals).take (i+1)).flatMap (fun x=>x.1++x.2)++((n.keys.zip n.vals).drop (i+1)).flatMap (fun x=>x.1++x.2):=(by rw[<- yP,xC]);rw[e,zF];omega);rw[I,zF,zF,zF] at ag;have bp:=U.drew;refine qfh (w:=w4.drew) (b2.frame0 (Fr.refl [] w4).drew) ((aF.2 pk[i] (zW ai)).frame0 (Fr.refl [] w4).drew) (by rw[zF];omega) fun s3 B3 w5 b3 f5 n5=>?_;have J:=aa.frame f5 (fun i hi=>.inr (C i hi)) (fun p hp=>by rw[zE.1 hp];exact V);have aH:∀b∈B3,w.heap.size<=b:=fun b R=>by rcases n5 b R with h|h;exact C b h;exact zL aa.fr.size h
 refine qan (hh w5 (al.frame0 J.fr)) (J.cell 0 rfl rfl) ?_;have aI:r1∉B3:=fun hm=>by
  rcases n5 r1 hm with h|h;exact V h
  have:=qac (aa.at (i:=0) rfl);dsimp only at this;omega
 refine qfh b3 ((al.frame0 J.fr).2 pv[i] (zW ab)) (by rw[zF,zF];omega) fun s6 B6 w6 b6 f6 n6=>?_;have av:=J.frame f6 (fun i hi=>.inr (aH i hi)) (fun p hp=>by rw[zE.1 hp];exact aI);rw[qbD oJ];refine hX _ _ ⟨i+1,s6,B6,rfl,ae,by rw[I,<- zV,<- zV];exact b6,av,fun hm=>?_,fun b R=>?_⟩ oN;rcases n6 r1 hm with h|h;exact aI h
 have:=qac (J.at (i:=0) rfl);dsimp only at this;omega
 rcases n6 b R with h|h;exact aH b h;exact zL J.fr.size h;have aw:i=n.keys.length:=(by have:=zB z;omega);rw[aw,<- aD,xX,aD,<- u] at b2
 have:=aB b2 C U.fr
 rw[E] at this;exact this;rw[h0] at z;have aK:¬n.leaf=true:=(by rw[z];decide);have u:bodyN n=be n.kids.length 2++n.kids.flatMap (fun x=>be x 4)++n.keys.flatten:=(by unfold bodyN;rw[if_neg aK]);have E:kindN n=4:=(by unfold kindN;rw[if_neg aK]);refine oA h 0 rfl x.2.2.2 rfl<|oA h 0 rfl x.2.2.2 rfl<|oB h fun r9 w3 e3 f3 h=>oA h 1 rfl x.2.2.2 rfl ?_;have h9:=h.at (i:=0) rfl;have an:=h.sub (L':=[(r1,.cells (ndV x) 163)]) (sublist_cons_self _ _);have ao:r1≠r9:=fun e=>by have:=h.nodup;simp[e] at this
 have Q:w.heap.size<=r9:=(h.own (r9,_) (mem_cons_self ..)).elim (fun h=>nomatch h) id;have aX:(be n.kids.length 2++n.kids.flatMap (fun x=>be x 4)).length+n.keys.flatten.length<=500:=(by rw[<- zF,<- u];exact aA);refine qag (fun t w'=>∃(i:Nat) (s2:Sl) (B2:List Nat),t=(s2,(i:Int))/\i<=n.kids.length/\BufB w' s2 (be n.kids.length 2++(n.kids.take i).flatMap (fun x=>be x 4)) B2/\Own [] w w' [(r1,.cells (ndV x) 163)]/\r1∉B2/\∀b∈B2,w.heap.size<=b) (fun t _=>((n.kids.length:Int)-t.2).toNat)
  ⟨0,_,[r9],rfl,yW _,?_,an,by simpa using ao,fun b R=>by rw[zE.1 R];exact Q⟩ ?_
 rw[qxB,take_zero,flatMap_nil,xF];refine qp3 (T:=5) ?_ rfl;rw[n3] at h9;exact h9;rintro t w4 ⟨i,s2,B2,rfl,hi,b2,U,V,C⟩ X hX;dsimp only;apply qaa<;>intro z;have ae:i<n.kids.length:=(by have:=zC z;omega);have af:n.kids[i]?=some n.kids[i]:=zA ae;refine Rds.get (ah.frame0 U.fr) i rfl af (y:=n.kids[i]) rfl<|oB U fun r6 w5 e5 f5 h5=>?_;have aY:=h5.at (i:=0) rfl;have I:(n.kids.take (i+1)).flatMap (fun x=>be x 4)=(n.kids.take i).flatMap (fun x=>be x 4)++be n.kids[i] 4:=by rw[take_add_one,af,yP];simp
 have ag:(be n.kids.length 2++(n.kids.take (i+1)).flatMap (fun x=>be x 4)).length<=500:=(by have e:n.kids.flatMap (fun x=>be x 4)=(n.kids.take (i+1)).flatMap (fun x=>be x 4)++(n.kids.drop (i+1)).flatMap (fun x=>be x 4):=(by rw[<- yP,xC]);rw[e,zF,zF] at aX;rw[zF];omega);rw[I,zF,zF] at ag;have aj:RdB [] w5 ⟨pW r6,4,4⟩ (be n.kids[i] 4):=qw5 (T:=5) aY;have ax:=qal n.kids[i] 4;generalize be n.kids[i] 4=aL at I ag aj ax;refine qfh (src:=⟨pW r6,4,4⟩) (ys:=aL) (b2.frame0 f5) aj (by rw[zF];omega) fun s6 B6 w6 b6 f6 n6=>?_;have ay:=h5.sub (L':=[(r1,.cells (ndV x) 163)]) (sublist_cons_self _ _);have av:=ay.frame f6 (fun i hi=>.inr (C i hi)) (fun p hp=>by rw[zE.1 hp];exact V);rw[qbD oJ];refine hX _ _ ⟨i+1,s6,B6,rfl,ae,by rw[I,<- zV];exact b6,av,fun hm=>?_,fun b R=>?_⟩ oN;rcases n6 r1 hm with h|h;exact V h
 have:=qac (ay.at (i:=0) rfl);dsimp only at this;omega
 rcases n6 b R with h|h;exact C b h;exact zL ay.fr.size h;have aw:i=n.kids.length:=(by have:=zB z;omega);rw[aw,xX] at b2;refine oA U 0 rfl x.2.1 rfl<|qtv (ak.frame0 U.fr) oJ (by rw[A];omega) fun s5 B5 w5 b5 f5 n5=>?_;rw[A] at b5;refine qfh (b2.frame0 f5) (b5.rds qas (S:=[]) (fun _ _ h=>nomatch h)) oJ fun s6 B6 w6 b6 f6 n6=>?_;rw[<- u] at b6
 have:=aB b6 (fun b R=>by rcases n6 b R with h|h;exact C b h;exact zL (zL U.fr.size f5.size) h) ((U.fr.trans f5).trans' f6 fun i hi=>.inr (C i hi))
 rw[E] at this;exact this
end
end
abbrev ND:TypeId:=163
theorem qgi{k v:Nat}:∀(c:Nat) (b:List Int),(leafR k v c b).1.length=c/\(leafR k v c b).2.length=c
 | 0,_=>⟨rfl,rfl⟩
 | c+1,b=>by
  have:=qgi (k:=k) (v:=v) c (b.drop (k+v))
  exact⟨by rw[leafR,yH,this.1],by rw[leafR,yH,this.2]⟩
theorem qmw{k v:Nat}:∀(c:Nat) (b:List Int),leafR k v (c+1) b=((leafR k v c b).1++[(b.drop (c*(k+v))).take k],(leafR k v c b).2++[((b.drop (c*(k+v))).drop k).take v])
 | 0,b=>by simp[leafR]
 | c+1,b=>by have ih:=qmw (k:=k) (v:=v) c (b.drop (k+v));have e:(k+v)+c*(k+v)=(c+1)*(k+v):=(by rw[xR];omega);rw[leafR,ih];simp only[xB,e];rfl
theorem qmu:∀(c:Nat) (b:List Int),kidsR (c+1) b=kidsR c b++[getV ((b.drop (c*4)).take 4)]
 | 0,b=>by simp[kidsR]
 | c+1,b=>by have ih:=qmu c (b.drop 4);have e:4+c*4=(c+1)*4:=oJ;rw[kidsR,ih,xB,e];rfl
theorem qmt{k:Nat}:∀(c:Nat) (b:List Int),keysR k (c+1) b=keysR k c b++[(b.drop (c*k)).take k]
 | 0,b=>by simp[keysR]
 | c+1,b=>by have ih:=qmt (k:=k) c (b.drop k);have e:k+c*k=(c+1)*k:=(by rw[xR];omega);rw[keysR,ih,xB,e];rfl
theorem qjh:∀(c:Nat) (b:List Int),(kidsR c b).length=c
 | 0,_=>rfl
 | c+1,b=>by rw[kidsR,yH,qjh c]
theorem qjg{k:Nat}:∀(c:Nat) (b:List Int),(keysR k c b).length=c
 | 0,_=>rfl
 | c+1,b=>by rw[keysR,yH,qjg c]
theorem appK{x:Sl}{l:List Sl}{vb:Nat}{T':TypeId}(h:Buf encSl 1 w s l B)(V:l.length<=100000)(I:w.heap[vb]?=some (.cells #[elSl x] T' (0,0)))(J:∀y B' w',Buf encSl 1 w' y (l++[x]) B'->Fr B w w'->(∀b∈B',b∈B\/w.heap.size<=b)->K y w'): Pt.run [Ty1.one Cell.slice] ((Builtin.append_ #[161,161] 161 #[s.v,.slice (pW vb) 1 1]).run prog w) K:=by obtain⟨O,z,Q,A,C⟩:=qmp;refine Buf.appSrc (ys:=[x]) (e:=27) h qcV oK z Q A rfl (.ofSlice w (e':=27) oK _ 1 1 _ rfl (fun j u E=>?_) fun u G=>?_) rfl (by rw[C];omega) oJ fun y B' w' R U n' _=>J y B' w' R U n';rw[Addr.add_mk,qai I,xO];rw[yG,flatMap_nil,xF] at E;simpa[encSl] using E;rw[yG,flatMap_nil,xF] at G;rw[zE.1 G];rfl
theorem qnc{x:Int}{vb:Nat}{T':TypeId}(h:Buf encU 1 w s l B)(V:l.length<=100000)(I:w.heap[vb]?=some (.cells #[.u x] T' (0,0)))(J:∀y B' w',Buf encU 1 w' y (l++[x]) B'->Fr B w w'->(∀b∈B',b∈B\/w.heap.size<=b)->K y w'): Pt.run [Ty1.one Cell.slice] ((Builtin.append_ #[31,31] 31 #[s.v,.slice (pW vb) 1 1]).run prog w) K:=by obtain⟨O,z,Q,A,C⟩:=qdu;refine Buf.appSrc (ys:=[x]) (e:=32) h qaE oK z Q A rfl (.ofSlice w (e':=32) oK _ 1 1 _ rfl (fun j u E=>?_) fun u G=>?_) rfl (by rw[C];omega) oJ fun y B' w' R U n' _=>J y B' w' R U n';rw[Addr.add_mk,qai I,xO];rw[yG,flatMap_nil,xF] at E;simpa[encU] using E;rw[yG,flatMap_nil,xF] at G;rw[zE.1 G];rfl
abbrev takerV (h:Nat):Value:=.func (.func 223) #[] #[.pointer (pW h)]
theorem qqL{u i m:Nat}(h:Own [] w0 w L)(hi:L[i]?=some (u,.cells #[elSl s] T (0,0)))(z:RdB [] w0 s b)(y:m<=b.length)(hl:b.length<=1000000)(kk:∀E B' G w',Own [] w0 w' (L.set i (u,.cells #[elSl G] T (0,0)))->BufB w' E (b.take m) B'->(∀c∈B',w.heap.size<=c)->RdB [] w0 G (b.drop m)->Fr [u] w w'->K E w'): callV prog (takerV u) [.i m] [.one .slice] w K:=by
 refine qbc (lb:=[.pointer (pW u)]) rfl oK<|qlD ?_;unfold qhf;refine oA h i hi s rfl<|Rds.part (S:=[]) z (lo:=none) (hi:=some (m:Int)) 0 m rfl rfl (yW _) y fun s1 _ I _=>?_;rw[xD] at I;refine qa3 (I.frame0 h.fr) (by rw[yK];omega) fun s2 B2 w2 b2 J O _ _=>?_;have Q:=h.frame0 J;refine oA Q i hi s rfl<|Rds.part (S:=[]) z (lo:=some (m:Int)) (hi:=none) m b.length rfl (by rw[xT,z.1]) y (zM _) fun R _ U _=>?_;rw[xX] at U;have A:=qac (h.at hi);refine oG Q i hi #[elSl R] rfl rfl (zM _) fun w3 C V=>kk s2 B2 R w3 C (b2.frame V fun c hc y=>?_) O U ((J.mono fun _ h _=>nomatch h).trans V)
 have:=O c hc
 rw[zE.1 y] at this;dsimp only at A;omega
def getO (x:NdC) (o:Nat):Sl:=if o=1 then x.2.1 else x.2.2.1
def setO (x:NdC) (o:Nat) (s:Sl):NdC:=if o=1 then (x.1,s,x.2.2) else (x.1,x.2.1,s,x.2.2.2)
theorem qnp{o:Nat}(h:o=1\/o=2):(ndV x)[o]?=some (elSl (getO x o)):=by rcases h with rfl|rfl<;>rfl
theorem qw8{o:Nat}(h:o=1\/o=2):splice (ndV x) o [elSl s]=ndV (setO x o s):=by rcases h with rfl|rfl<;>rfl
theorem pushK{z A m o:Nat}{s':Sl}{l:List Sl}{Bk:List Nat}{K:WP}(ho:o=1\/o=2)(h:Own [] w0 w ((z,.cells (ndV x) ND (0,0))::(A,.cells #[elSl s'] T (0,0))::L))(hr:RdB [] w0 s' b)(y:m<=b.length)(aD:b.length<=1000000)(V:Buf encSl 1 w (getO x o) l Bk)(Q:∀c∈Bk,w0.heap.size<=c/\c∉z::A::L.map (·.1))(hl:l.length<=100000)(kk:∀sn sN E Bk' w',Own [] w0 w' ((z,.cells (ndV (setO x o E)) ND (0,0))::(A,.cells #[elSl sN] T (0,0))::L)->RdB [] w0 sN (b.drop m)->Buf encSl 1 w' E (l++[sn]) Bk'-> (∀c∈Bk',c∈Bk\/w.heap.size<=c)->(∀c∈Bk',c∉z::A::L.map (·.1))->Fr (z::A::Bk) w w'->(∀G:List Nat,(∀c∈G,c<w.heap.size\/c∈Bk')->RdB G w' sn (b.take m))->K w'): (ld Cell.slice ⟨z,o,none⟩ w.drew<| fun (u:Sl)=> callV prog (takerV A) ([Value.int IntKind.i64 m]) ([Ty1.one Cell.slice]) w.drew<| fun (I:Sl) (aa:World)=> held [fun (an:Go.World)=>World.cell? an ⟨z,o,none⟩=some (Value.slice u.a u.len u.cap)] aa<| new (.cells #[Value.slice I.a I.len I.cap] 27) aa<| fun (ao:Nat) (ab:World)=> held [fun (ap:Go.World)=>World.cell? ap ⟨z,o,none⟩=some (Value.slice u.a u.len u.cap)] ab<| run [Ty1.one Cell.slice] ((Builtin.append_ (#[161,161]) 161 (#[Value.slice u.a u.len u.cap,Value.slice (pW ao) 1 1])).run prog ab)<| fun (J:Sl) (aq:World)=> st ⟨z,o,none⟩ ([Value.slice J.a J.len J.cap]) aq K):=by
 have hd:=h.drew;refine oA hd 0 rfl (getO x o) (qnp ho)<|qqL hd (i:=1) rfl hr y aD fun aE aF sN ae R aG aH hN af=>?_;have R:Own [] w0 ae ((z,.cells (ndV x) ND (0,0))::(A,.cells #[elSl sN] T (0,0))::L):=R;refine qaj (R.cell 0 rfl (qnp ho))<|oB R fun aT aU aV ag ah=>qaj (ah.cell 1 rfl (qnp ho)) ?_;have ai:Buf encSl 1 w.drew (getO x o) l Bk:=V;have ar:=ai.frame af fun c C y=>(Q c C).2 (by rw[zE.1 y];simp);have au:=ar.frame0 ag;refine appK au hl (ah.at (i:=0) rfl) fun E Bk' aW aI aj av=>?_;have aw:=ah.sub (L':=(z,.cells (ndV x) ND (0,0))::(A,.cells #[elSl sN] T (0,0))::L) (sublist_cons_self _ _);have aX:w.heap.size<=ae.heap.size:=af.size;have aY:=ag.size;have aZ:=aj.size;have O:∀c∈z::A::L.map (·.1),c<w.heap.size:=fun c C=>by obtain⟨p,hp,rfl⟩:=mem_map.1 (show c∈((z,Obj.cells (ndV x) ND (0,0))::(A,.cells #[elSl s'] T (0,0))::L).map (·.1) from C);exact qac (h.blk p hp)
 have ak:∀p∈((z,Obj.cells (ndV x) ND (0,0))::(A,.cells #[elSl sN] T (0,0))::L),p.1∉Bk:=fun p hp y=>(Q p.1 y).2 (zY (f:=(·.1)) hp);have aK:=aw.frame aj (fun i U=>.inr (Q i U).1) ak;have ac:∀c∈Bk',c∈Bk\/w.heap.size<=c:=fun c C=>(av c C).elim .inl fun h=>.inr oJ;have ax:∀c∈Bk',c∉z::A::L.map (·.1):=fun c C y=>by
  rcases ac c C with h|h;exact (Q c h).2 y
  have:=O c y;omega
 refine oG aK 0 rfl (ndV (setO x o E)) (qw8 ho) rfl (by rcases ho with rfl|rfl<;>exact zO rfl) fun al aL ay=>?_;have h5:∀c∈Bk',c∉[z]:=fun c C y=>ax c C (by rw[zE.1 y];simp);have az:Fr (z::A::Bk) ae al:=((ag.mono fun _ h _=>nomatch h).trans (aj.mono fun i U _=>by simp[U])).trans (ay.mono fun i U _=>by simp[zE.1 U]);have aM:Fr (z::A::Bk) w al:=((Fr.refl _ w).drew.trans (af.mono fun i U _=>by simp[zE.1 U])).trans az;refine kk aE sN E Bk' al aL hN (aI.frame ay h5) ac ax aM fun G hG=>?_;have aA:∀c∈aF,c∉z::A::Bk++G.filter fun c=>decide (c<w.heap.size):=fun c C y=>by
  have h1:w.heap.size<=c:=aH c C;rcases zD.1 y with y|y;rcases zG.1 y with rfl|y
  have:=O c oL;omega
  rcases zG.1 y with rfl|y
  have:=O c oL;omega
  have:=V.lt c y;omega
  have:=(mem_filter.1 y).2
  simp at this;omega
 refine (aG.rds qas aA).frame (az.mono fun i U _=>zH _ U) fun c C=>?_;rcases hG c C with h1|h1;exact .inl (zI _ (mem_filter.2 ⟨C,by simpa using h1⟩));rcases av c h1 with h2|h2;exact .inl (zH _ (by simp[h2]));exact .inr oJ
section
theorem qh7{L':List (Nat×Obj)}(h:Own S w0 w L)(p:L.Perm L'):Own S w0 w L':=⟨fun x u=>h.blk x (p.mem_iff.2 u),(p.map _).nodup_iff.1 h.nodup,h.fr,fun x u=>h.own x (p.mem_iff.2 u)⟩
theorem qcQ{α:Type}{enc:α->List Value}{l:List α}(h:Buf enc k w s l B):B.Nodup:=by rcases h with ⟨_,_,rfl⟩|⟨b,_,_,_,rfl,_⟩<;>simp
def Els (w:World) (ps:Kps) (T:List Nat):Prop:=∀p∈ps,RdB T w p.1 p.2
theorem Els.frame{w w':World}{ps:Kps}{T T' S:List Nat}(h:Els w ps T)(f:Fr S w w')(u:∀b∈S,b∈T)(y:∀b∈T',b∈T\/w.heap.size<=b):Els w' ps T':=fun p z=>(h p z).frame (f.mono fun i A _=>u i A) y
theorem Els.snoc{T:List Nat}{a:Key}(h:Els w ps T)(g:RdB T w s a):Els w (ps++[(s,a)]) T:=fun p u=>by rcases zD.1 u with u|u;exact h p u;rw[zE.1 u];exact g
theorem qsb{G:List Nat}{pk pv:Kps}{Bk h u T:List Nat}(Q:x.1=n.leaf)(R:NB n)(E:Buf encSl 1 w x.2.1 (slsP pk) Bk)(e1:keyP pk=n.keys)(I:Buf encSl 1 w x.2.2.1 (slsP pv) h)(U:keyP pv=n.vals)(J:Buf encU 1 w x.2.2.2 n.kids u)(K:∀c∈Bk,c∉h/\c∉u)(V:∀c∈h,c∉u)(g1:Els w pk T)(g2:Els w pv T)(O:∀c∈G++(Bk++(h++u)),c∈T):NodeB (G++(Bk++(h++u))) w x n (Bk++(h++u)):=by refine⟨Q,R,Bk,h,u,rfl,?_,⟨pk,E,e1,fun p A=>(g1 p A).weak fun c C=>.inl (O c C)⟩,⟨pv,I,U,fun p A=>(g2 p A).weak fun c C=>.inl (O c C)⟩,J⟩;refine yL.2 ⟨qcQ E,yL.2 ⟨qcQ I,qcQ J,fun a z b y e=>V a z (e▸y)⟩,fun a z b y e=>?_⟩;rcases zD.1 y with y|y;exact (K a z).1 (e▸y);exact (K a z).2 (e▸y)
section
variable {w:World} {s:Sl} {b:List Int}
theorem qw0{count v:Nat}{K:NdC×Bool->WP}(hb:RdB [] w s b)(hB:IsB b)(hl:b.length<=1000)(hc:count<=100000)(hk:1<=k/\k<=1000)(hv:v<=1000)(kk:∀x B n w',(b.length=count*(k+v)->n=⟨true,(leafR k v count b).1,(leafR k v count b).2,[]⟩)->NodeB (List.range w.heap.size++B) w' x n B->Fr [] w w'->(∀c∈B,w.heap.size<=c)->K (x,decide (b.length=count*(k+v))) w'): cW 154 [s.v,.i count,.i k,.i v] [.agg qab,.one .bool] w K:=by
 refine qqg ?_;unfold qmB;refine oB (oE [] w) fun r1 w1 e1 f1 h=>?_;have aY:count*(k+v)<=100000*2000:=Nat.mul_le_mul hc oJ;have ew:wrap .i64 ((count:Int)*wrap .i64 ((k:Int)+(v:Int)))=((count*(k+v):Nat):Int):=by have e1:wrap .i64 ((k:Int)+(v:Int))=((k+v:Nat):Int):=(by rw[wi' _ oJ];rfl);rw[e1,<- Int.natCast_mul,wi' _ oJ]
 rw[ew];have al:=hb.1;apply qaa<;>intro U;have am:b.length≠count*(k+v):=fun e=>by rw[al,e] at U;simp at U
 refine oD h 0 rfl (ndV zeroX) fun w2 h f2=>oC h 0 rfl zeroX rfl ?_
 have:=kk zeroX [] zeroN w2 (fun e=>absurd e am) (.zero _ _) h.fr (fun _ h=>nomatch h)
 rw[zU am] at this;exact this;have aG:b.length=count*(k+v):=by
  have:((s.len:Int)==((count*(k+v):Nat):Int))=true:=by simpa using U
  have:=yO.1 this
  omega
 have a5:count<=1000:=(by have:count*1<=count*(k+v):=Nat.mul_le_mul_left _ oJ;omega);refine oB h fun y w2 e2 f2 h=>oD h 0 rfl (ndV (true,⟨none,0,0⟩,⟨none,0,0⟩,⟨none,0,0⟩)) fun w3 h f3=>qiy ?_;unfold qgP;refine oB h fun A w4 e4 f4 h=>?_;have h:=qh7 h (List.Perm.swap _ _ _);have a6:=h.nodup;have a7:=fun p hp=>(h.own p hp).elim (fun h=>(nomatch h:False).elim) (id:w.heap.size<=p.1->_);refine qag (fun i w'=>∃(c:Nat) (sk R sn:Sl) (pk pv:Kps) (Bk C:List Nat),i=(c:Int)/\c<=count/\Own [] w w' [(y,.cells (ndV (true,sk,R,⟨none,0,0⟩)) ND (0,0)),(A,.cells #[elSl sn] 27 (0,0)),(r1,.cells (ndV zeroX) ND (0,0))]/\
   RdB [] w sn (b.drop (c*(k+v)))/\Buf encSl 1 w' sk (slsP pk) Bk/\keyP pk=(leafR k v c b).1/\Buf encSl 1 w' R (slsP pv) C/\keyP pv=(leafR k v c b).2/\(∀c∈Bk,w.heap.size<=c/\c∉[y,A,r1])/\(∀c∈C,w.heap.size<=c/\c∉[y,A,r1])/\(∀c∈Bk,c∉C)/\
   Els w' pk (List.range w.heap.size++y::A::r1::(Bk++C))/\Els w' pv (List.range w.heap.size++y::A::r1::(Bk++C))) (fun i _=>((count:Int)-i).toNat)
  ⟨0,⟨none,0,0⟩,⟨none,0,0⟩,s,[],[],[],[],rfl,yW _,h,by rw[Nat.zero_mul,xD];exact hb,.nil _ _ _,rfl,.nil _ _ _,rfl,fun _ h=>(nomatch h),fun _ h=>(nomatch h),fun _ h=>(nomatch h),fun _ h=>(nomatch h),fun _ h=>(nomatch h)⟩ ?_
 rintro _ w' ⟨c,sk,R,sn,pk,pv,Bk,C,rfl,a9,h,aH,an,ek,V,ev,nk,nv,af,gk,gv⟩ X hX;have lk:pk.length=c:=(by rw[<- zK (f:=(·.2)),show pk.map (·.2)=keyP pk from rfl,ek,(qgi c b).1]);have lv:pv.length=c:=(by rw[<- zK (f:=(·.2)),show pv.map (·.2)=keyP pv from rfl,ev,(qgi c b).2]);have G:∀z∈[y,A,r1],z<w'.heap.size:=fun z u=>by simp only[zG,xV,or_false] at u;rcases u with rfl|rfl|rfl;exact qac (h.at (i:=0) rfl);exact qac (h.at (i:=1) rfl);exact qac (h.at (i:=2) rfl)
 apply qaa<;>intro ag;have ao:c<count:=(by have:=zC ag;omega);have ah:(c+1)*(k+v)<=count*(k+v):=Nat.mul_le_mul_right _ ao;rw[xR,Nat.one_mul] at ah;have ba:(b.drop (c*(k+v))).length=b.length-c*(k+v):=yB;refine pushK (o:=1) (m:=k) (.inl rfl) h aH oJ oJ (x:=(true,sk,R,⟨none,0,0⟩)) an (fun z u=>nk z u) oO fun J sN O Bk' w5 h5 aK b5 n5 m5 f5 g5=>?_;have h5:Own [] w w5 [(y,.cells (ndV (true,O,R,⟨none,0,0⟩)) ND (0,0)),(A,.cells #[elSl sN] 27 (0,0)),(r1,.cells (ndV zeroX) ND (0,0))]:=h5;have ap:=V.frame f5 fun z u E=>by simp only[zG] at E;rcases E with rfl|rfl|E;exact (nv _ u).2 oL;exact (nv _ u).2 oL;exact af z E u
 have aq:∀z∈List.range w.heap.size++y::A::r1::(Bk'++C),z∈List.range w.heap.size++y::A::r1::(Bk++C)\/w'.heap.size<=z:=fun z u=>by simp only[zD,zG] at u⊢;rcases u with u|rfl|rfl|rfl|u|u;exact .inl (.inl u);simp;simp;simp;rcases n5 z u with h|h;simp[h];exact .inr h;simp[u]
 have ar:∀z∈y::A::Bk,z∈List.range w.heap.size++y::A::r1::(Bk++C):=fun z u=>by simp only[zD,zG] at u⊢;rcases u with rfl|rfl|u<;>simp[*]
 have aN:=(gk.frame f5 ar aq).snoc (s:=J) (a:=(b.drop (c*(k+v))).take k) (g5 _ fun z u=>by
  simp only[zD,zG,mem_range] at u
  have:=h.fr.size
  rcases u with u|rfl|rfl|rfl|u|u;exact .inl oJ;exact .inl (G _ oL);exact .inl (G _ oL);exact .inl (G _ oL);exact .inr u;exact .inl (V.lt z u))
 have aO:=gv.frame f5 ar aq;have ai:∀z∈Bk',w.heap.size<=z/\z∉[y,A,r1]:=fun z u=>⟨by rcases n5 z u with I|I;exact (nk z I).1;exact zL h.fr.size I,m5 z u⟩;have ae:∀z∈Bk',z∉C:=fun z u E=>by
  rcases n5 z u with I|I;exact af z I E
  have:=V.lt z E;omega
 have aP:Buf encSl 1 w5 O (slsP (pk++[(J,(b.drop (c*(k+v))).take k)])) Bk':=(by rw[show slsP (pk++[(J,(b.drop (c*(k+v))).take k)])=slsP pk++[J] by simp];exact b5);refine pushK (o:=2) (m:=v) (.inr rfl) h5 aK (by rw[yB];omega) (by rw[yB];omega) (x:=(true,O,R,⟨none,0,0⟩)) ap (fun z u=>nv z u) oO fun ab au av aw w6 h6 ax b6 n6 m6 f6 g6=>?_;have h6:Own [] w w6 [(y,.cells (ndV (true,O,av,⟨none,0,0⟩)) ND (0,0)),(A,.cells #[elSl au] 27 (0,0)),(r1,.cells (ndV zeroX) ND (0,0))]:=h6;have Q:∀z∈[y,A,r1],z<w5.heap.size:=fun z u=>yC (G z u) f5.size;have ay:=aP.frame f6 fun z u E=>by simp only[zG] at E;rcases E with rfl|rfl|E;exact (ai _ u).2 oL;exact (ai _ u).2 oL;exact ae z u E
 have az:∀z∈List.range w.heap.size++y::A::r1::(Bk'++aw),z∈List.range w.heap.size++y::A::r1::(Bk'++C)\/w5.heap.size<=z:=fun z u=>by simp only[zD,zG] at u⊢;rcases u with u|rfl|rfl|rfl|u|u;exact .inl (.inl u);simp;simp;simp;simp[u];rcases n6 z u with h|h;simp[h];exact .inr h
 have aA:∀z∈y::A::C,z∈List.range w.heap.size++y::A::r1::(Bk'++C):=fun z u=>by simp only[zD,zG] at u⊢;rcases u with rfl|rfl|u<;>simp[*]
 have aT:=(aO.frame f6 aA az).snoc (s:=ab) (a:=((b.drop (c*(k+v))).drop k).take v) (g6 _ fun z u=>by
  simp only[zD,zG,mem_range] at u
  have:=h5.fr.size
  rcases u with u|rfl|rfl|rfl|u|u;exact .inl oJ;exact .inl (Q _ oL);exact .inl (Q _ oL);exact .inl (Q _ oL);exact .inl (b5.lt z u);exact .inr u)
 have aU:=aN.frame f6 aA az;rw[qbD oJ];have aB:=qmw (k:=k) (v:=v) c b;refine hX _ _ ⟨c+1,O,av,au,pk++[(J,(b.drop (c*(k+v))).take k)],pv++[(ab,((b.drop (c*(k+v))).drop k).take v)],Bk',aw,rfl,ao,h6,?_,ay,?_,?_,?_,ai,fun z u=>⟨?_,m6 z u⟩,fun z u E=>?_,aU,aT⟩ oJ;rw[xB,xB] at ax;have e:c*(k+v)+(k+v)=(c+1)*(k+v):=(by rw[xR];omega);rw[<- e];exact ax;rw[aB];simp[ek];rw[show slsP (pv++[(ab,((b.drop (c*(k+v))).drop k).take v)])=slsP pv++[ab] by simp];exact b6;rw[aB];simp[ev];rcases n6 z u with I|I;exact (nv z I).1;exact zL h5.fr.size I;rcases n6 z E with I|I;exact ae z u I
 have:=b5.lt z u;omega
 have aV:c=count:=(by have:=zB ag;omega);subst aV;refine oC h 0 rfl (true,sk,R,⟨none,0,0⟩) rfl<|oD h 2 rfl (ndV (true,sk,R,⟨none,0,0⟩)) fun w5 h5 f5=>oC h5 2 rfl (true,sk,R,⟨none,0,0⟩) rfl ?_;have aC:∀ {B:List Nat},(∀z∈B,w.heap.size<=z/\z∉[y,A,r1])->∀z∈B,z∉[r1]:=fun hB z u E=>(hB z u).2 (by rw[zE.1 E];simp);have aD:∀z∈[r1],z∈List.range w.heap.size++y::A::r1::(Bk++C):=fun z u=>by rw[zE.1 u];simp
 have:=kk (true,sk,R,⟨none,0,0⟩) (Bk++(C++[])) ⟨true,(leafR k v c b).1,(leafR k v c b).2,[]⟩ w5 (fun _=>rfl)
  (qsb (T:=List.range w.heap.size++y::A::r1::(Bk++C)) rfl ⟨(qji c hB).1,(qji c hB).2,fun _ h=>(nomatch h)⟩ (an.frame f5 (aC nk)) ek (V.frame f5 (aC nv)) ev (.nil _ _ _) (fun z u=>⟨af z u,fun h=>nomatch h⟩) (fun _ _ h=>nomatch h)
   (gk.frame f5 aD fun z u=>.inl u) (gv.frame f5 aD fun z u=>.inl u) fun z u=>by simp only[xF,zD,zG] at u⊢;rcases u with u|u|u<;>simp[*]) h5.fr (fun z u=>by
   rw[xF] at u;rcases zD.1 u with u|u;exact (nk z u).1;exact (nv z u).1)
 rw[zZ aG] at this;exact this
end
end
section
theorem qq9(u:IsB l)(z:4<=l.length):first4 (l.take 4)=getV (l.take 4):=by
 match l,z with
 | a::b::c::d::r,_=>
  have A:=u a oL;have C:=u b oL;have E:=u c oL;have G:=u d oL;show first4 [a,b,c,d]=getV [a,b,c,d];show get4V a b c d=_;rw[qpP A C E G,qh1 (fun v y=>u v (by simp at y⊢;rcases y with h|h|h|h<;>simp[h])) (zM _)];show _=(((0*256+a)*256+b)*256+c)*256+d;omega
theorem qvF(l:List Int):U32 (getV l):=by
 unfold getV;have:∀(l:List Int) (r:Int),U32 r->U32 (l.foldl (fun r x=>bits .or .u32 (wrap .u32 (r*2^8)) (wrap .u32 x)) r):=by
  intro l;induction l with
  | nil=>intro r h;exact h
  | cons x l ih=>intro r h;exact ih _ (qco _ _ _)
 exact this l 0 ⟨oM,oM⟩
theorem qn8:∀(c:Nat) (b:List Int),∀x∈kidsR c b,U32 x
 | 0,_,_,h=>nomatch h
 | c+1,b,x,h=>by rcases zG.1 h with rfl|h;exact qvF _;exact qn8 c _ x h
theorem qxf{C E:Nat}{s':Sl}{Bi:List Nat}{K:WP}(h:Own [] w0 w ((C,.cells (ndV x) ND (0,0))::(E,.cells #[elSl s'] T (0,0))::L))(hr:RdB [] w0 s' b)(hB:IsB b)(Q:4<=b.length)(ax:b.length<=1000000)(ae:Buf encU 1 w x.2.2.2 l Bi)(R:∀c∈Bi,w0.heap.size<=c/\c∉C::E::L.map (·.1))(hl:l.length<=100000)(kk:∀V G I w',Own [] w0 w' ((C,.cells (ndV (x.1,x.2.1,x.2.2.1,G)) ND (0,0))::(E,.cells #[elSl V] T (0,0))::L)->RdB [] w0 V (b.drop 4)->Buf encU 1 w' G (l++[getV (b.take 4)]) I-> (∀c∈I,w0.heap.size<=c/\c∉C::E::L.map (·.1))->K w'): (callV prog (takerV E) ([Value.int IntKind.i64 4]) ([Ty1.one Cell.slice]) w<| fun (z:Sl) (u:World)=> ld Cell.slice ⟨C,3,none⟩ u.drew<| fun (y:Sl)=> idx z 0 1<| fun (af:Addr)=> ld (Cell.int IntKind.u8) af u.drew<| fun (ag:Int)=> idx z 1 1<| fun (ah:Addr)=> ld (Cell.int IntKind.u8) ah u.drew<| fun (ai:Int)=> idx z 2 1<| fun (aj:Addr)=> ld (Cell.int IntKind.u8) aj u.drew<| fun (ak:Int)=> idx z 3 1<| fun (al:Addr)=> ld (Cell.int IntKind.u8) al u.drew<| fun (am:Int)=> new (.cells #[Value.int IntKind.u32 (bits .or .u32 (bits .or .u32 (bits .or .u32 (wrap IntKind.u32 (wrap IntKind.u32 ag*2^24)) (wrap IntKind.u32 (wrap IntKind.u32 ai*2^16))) (wrap IntKind.u32 (wrap IntKind.u32 ak*2^8))) (wrap IntKind.u32 am))] 32) u.drew<| fun (an:Nat) (aa:World)=> held [fun (ao:Go.World)=>World.cell? ao ⟨C,3,none⟩=some (Value.slice y.a y.len y.cap)] aa<| run [Ty1.one Cell.slice] ((Builtin.append_ (#[31,31]) 31 (#[Value.slice y.a y.len y.cap,Value.slice (pW an) 1 1])).run prog aa)<| fun (J:Sl) (ap:World)=> st ⟨C,3,none⟩ ([Value.slice J.a J.len J.cap]) ap K):=by
 refine qqL (m:=4) h (i:=1) rfl hr Q ax fun ay aT V U az aA aU hN aB=>?_;have hd:Own [] w0 U.drew ((C,.cells (ndV x) ND (0,0))::(E,.cells #[elSl V] T (0,0))::L):=oF az;refine oA hd 0 rfl x.2.2.2 rfl ?_;have A:RdB [] U.drew ay (b.take 4):=(aA.rds qas (S:=[]) (fun _ _ h=>nomatch h)).frame0 (Fr.refl [] U).drew;have h4:4<=(b.take 4).length:=(by rw[yK];omega);refine RdB.at A 0 rfl (getD_some oJ)<|RdB.at A 1 rfl (getD_some oJ)<|RdB.at A 2 rfl (getD_some oJ)<|RdB.at A 3 rfl (getD_some oJ) ?_;have e4:=qq9 hB Q;unfold first4 get4V at e4;rw[e4];refine oB hd fun aW aC aX aD ab=>qaj (ab.cell 1 rfl rfl) ?_;have aq:=ae.frame aB fun c hc Q=>(R c hc).2 (by rw[zE.1 Q];simp);have ar:=(aq.frame0 (Fr.refl [] U).drew).frame0 aD;refine qnc ar hl (ab.at (i:=0) rfl) fun G I aY aE aF aG=>?_;have O:=ab.sub (L':=(C,.cells (ndV x) ND (0,0))::(E,.cells #[elSl V] T (0,0))::L) (sublist_cons_self _ _);have ad:∀p∈((C,Obj.cells (ndV x) ND (0,0))::(E,.cells #[elSl V] T (0,0))::L),p.1∉Bi:=fun p hp Q=>(R p.1 Q).2 (zY (f:=(·.1)) hp);have aI:=O.frame aF (fun i hi=>.inr (R i hi).1) ad;have au:∀c∈C::E::L.map (·.1),c<aC.heap.size:=fun c hc=>by obtain⟨p,hp,rfl⟩:=mem_map.1 (show c∈((C,Obj.cells (ndV x) ND (0,0))::(E,.cells #[elSl V] T (0,0))::L).map (·.1) from hc);exact qac (O.blk p hp)
 have av:∀c∈I,w0.heap.size<=c/\c∉C::E::L.map (·.1):=fun c hc=>by rcases aG c hc with h|h;exact R c h;exact⟨zL O.fr.size h,fun Q=>by have:=au c Q;omega⟩
 exact oD aI 0 rfl (ndV (x.1,x.2.1,x.2.2.1,G)) fun aJ aK aL=>kk V G I aJ aK hN (aE.frame aL fun c hc Q=>(av c hc).2 (by rw[zE.1 Q];simp)) av
section
variable {w:World} {s:Sl} {b:List Int}
theorem que{count:Nat}{K:NdC×Bool->WP}(hb:RdB [] w s b)(hB:IsB b)(hl:b.length<=1000)(hc:count<=100000)(hk:1<=k/\k<=1000)(kk:∀x B n w',(1<=count/\b.length=count*4+(count-1)*k->n=⟨false,keysR k (count-1) (b.drop (count*4)),[],kidsR count b⟩)->NodeB (List.range w.heap.size++B) w' x n B->Fr [] w w'->(∀c∈B,w.heap.size<=c)->K (x,decide (1<=count/\b.length=count*4+(count-1)*k)) w'): cW 155 [s.v,.i count,.i k] [.agg qab,.one .bool] w K:=by
 refine qoS ?_;unfold qkU;refine oB (oE [] w) fun r1 w1 e1 f1 h=>?_;have ak:=hb.1;have al:(count-1)*k<=100000*1000:=Nat.mul_le_mul oJ hk.2;refine qaf (fun d w'=>d = !decide (1<=count/\b.length=count*4+(count-1)*k)/\w'=w1) ?_ ?_;apply qaa<;>intro h1;have h1:=zC h1;refine⟨?_,rfl⟩;rw[zU (fun h=>oJ)];rfl;have h1:=zB h1;refine⟨?_,rfl⟩;have ea:wrap .i64 ((count:Int)-1)=((count-1:Nat):Int):=(by rw[wi' _ oJ];omega);have ew:wrap .i64 (wrap .i64 ((count:Int)*4)+wrap .i64 (wrap .i64 ((count:Int)-1)*(k:Int)))=((count*4+(count-1)*k:Nat):Int):=by have e4:wrap .i64 ((count:Int)*4)=((count*4:Nat):Int):=(by rw[wi' _ oJ];rfl);have e5:wrap .i64 (((count-1:Nat):Int)*(k:Int))=(((count-1)*k:Nat):Int):=(by rw[<- Int.natCast_mul,wi' _ oJ]);rw[ea,e4,e5];generalize (count-1)*k=z at al;rw[wi' _ oJ];rfl
 rw[ew,ak];congr 1;rw[Bool.eq_iff_iff,yO,yM];generalize (count-1)*k=z;omega;rintro d aW ⟨rfl,rfl⟩;apply qaa<;>intro I;have an:¬(1<=count/\b.length=count*4+(count-1)*k):=(by rw[zT] at I;exact zB I);refine oD h 0 rfl (ndV zeroX) fun Q h f2=>oC h 0 rfl zeroX rfl ?_
 have:=kk zeroX [] zeroN Q (fun e=>absurd e an) (.zero _ _) h.fr (fun _ h=>nomatch h)
 rw[zU an] at this;exact this;have aC:1<=count/\b.length=count*4+(count-1)*k:=(by rw[yD] at I;exact zC I);refine oB h fun A Q e2 f2 h=>qiy ?_;unfold qgP;refine oB h fun C w4 e4 f4 h=>?_;have h:=qh7 h (List.Perm.swap _ _ _);refine qag (fun i w'=>∃(c:Nat) (G sn:Sl) (E:List Nat),i=(c:Int)/\c<=count/\Own [] w w' [(A,.cells (ndV (false,⟨none,0,0⟩,⟨none,0,0⟩,G)) ND (0,0)),(C,.cells #[elSl sn] 27 (0,0)),(r1,.cells (ndV zeroX) ND (0,0))]/\
   RdB [] w sn (b.drop (c*4))/\Buf encU 1 w' G (kidsR c b) E/\(∀c∈E,w.heap.size<=c/\c∉[A,C,r1])) (fun i _=>((count:Int)-i).toNat)
  ⟨0,⟨none,0,0⟩,s,[],rfl,yW _,h,by rw[Nat.zero_mul,xD];exact hb,.nil _ _ _,fun _ h=>(nomatch h)⟩ ?_
 rintro _ w' ⟨c,G,sn,E,rfl,aY,h,ao,y,ni⟩ X hX;apply qaa<;>intro ac;have R:c<count:=(by have:=zC ac;omega);have aE:(b.drop (c*4)).length=b.length-c*4:=yB;refine qxf h ao (hB.drop _) oJ oJ (x:=(false,⟨none,0,0⟩,⟨none,0,0⟩,G)) y ni (by rw[qjh];omega) fun sN aF aG w5 h5 J b5 n5=>?_;rw[qbD oJ];refine hX _ _ ⟨c+1,aF,sN,aG,rfl,R,h5,?_,by rw[qmu];exact b5,n5⟩ oJ;rw[xB] at J;have e:c*4+4=(c+1)*4:=oJ;rw[<- e];exact J;have ad:c=count:=(by have:=zB ac;omega);subst ad;have aQ:∀z∈E,w.heap.size<=z:=fun z u=>(ni z u).1;refine qag (fun i Q=>∃(d:Nat) (sk sn:Sl) (pk:Kps) (Bk:List Nat),i=(d:Int)/\d<=c-1/\Own [] w Q [(A,.cells (ndV (false,sk,⟨none,0,0⟩,G)) ND (0,0)),(C,.cells #[elSl sn] 27 (0,0)),(r1,.cells (ndV zeroX) ND (0,0))]/\
   RdB [] w sn ((b.drop (c*4)).drop (d*k))/\Buf encU 1 Q G (kidsR c b) E/\Buf encSl 1 Q sk (slsP pk) Bk/\keyP pk=keysR k d (b.drop (c*4))/\(∀c∈Bk,w.heap.size<=c/\c∉[A,C,r1])/\(∀c∈Bk,c∉E)/\
   Els Q pk (List.range w.heap.size++A::C::r1::(Bk++E))) (fun i _=>(((c-1:Nat):Int)-i).toNat)
  ⟨0,⟨none,0,0⟩,sn,[],[],rfl,yW _,h,by rw[Nat.zero_mul,xD];exact ao,y,.nil _ _ _,rfl,fun _ h=>(nomatch h),fun _ h=>(nomatch h),fun _ h=>(nomatch h)⟩ ?_
 rintro _ Q ⟨d,sk,aZ,pk,Bk,rfl,a0,h,aq,y,ar,ek,nk,ae,gk⟩ X hX;have lk:pk.length=d:=(by rw[<- zK (f:=(·.2)),show pk.map (·.2)=keyP pk from rfl,ek,qjg]);have ea:wrap .i64 ((c:Int)-1)=((c-1:Nat):Int):=(by rw[wi' _ oJ];omega);have O:∀z∈[A,C,r1],z<Q.heap.size:=fun z u=>by simp only[zG,xV,or_false] at u;rcases u with rfl|rfl|rfl;exact qac (h.at (i:=0) rfl);exact qac (h.at (i:=1) rfl);exact qac (h.at (i:=2) rfl)
 rw[ea];apply qaa<;>intro af;have R:d<c-1:=(by have:=zC af;omega);have ag:(d+1)*k<=(c-1)*k:=Nat.mul_le_mul_right _ R;rw[xR,Nat.one_mul] at ag;have aE:((b.drop (c*4)).drop (d*k)).length=b.length-c*4-d*k:=(by rw[yB,yB]);refine pushK (o:=1) (m:=k) (.inl rfl) h aq oJ oJ (x:=(false,sk,⟨none,0,0⟩,G)) ar nk oO fun U sN au Bk' w5 h5 J b5 n5 m5 f5 g5=>?_;have h5:Own [] w w5 [(A,.cells (ndV (false,au,⟨none,0,0⟩,G)) ND (0,0)),(C,.cells #[elSl sN] 27 (0,0)),(r1,.cells (ndV zeroX) ND (0,0))]:=h5;have av:=y.frame f5 fun z u V=>by simp only[zG] at V;rcases V with rfl|rfl|V;exact (ni _ u).2 oL;exact (ni _ u).2 oL;exact ae z V u
 have aJ:∀z∈List.range w.heap.size++A::C::r1::(Bk'++E),z∈List.range w.heap.size++A::C::r1::(Bk++E)\/Q.heap.size<=z:=fun z u=>by simp only[zD,zG] at u⊢;rcases u with u|rfl|rfl|rfl|u|u;exact .inl (.inl u);simp;simp;simp;rcases n5 z u with h|h;simp[h];exact .inr h;simp[u]
 have aK:∀z∈A::C::Bk,z∈List.range w.heap.size++A::C::r1::(Bk++E):=fun z u=>by simp only[zD,zG] at u⊢;rcases u with rfl|rfl|u<;>simp[*]
 have aL:=(gk.frame f5 aK aJ).snoc (s:=U) (a:=((b.drop (c*4)).drop (d*k)).take k) (g5 _ fun z u=>by
  simp only[zD,zG,mem_range] at u
  have:=h.fr.size
  rcases u with u|rfl|rfl|rfl|u|u;exact .inl oJ;exact .inl (O _ oL);exact .inl (O _ oL);exact .inl (O _ oL);exact .inr u;exact .inl (y.lt z u))
 rw[qbD oJ];refine hX _ _ ⟨d+1,au,sN,pk++[(U,((b.drop (c*4)).drop (d*k)).take k)],Bk',rfl,R,h5,?_,av,?_,?_,fun z u=>⟨?_,m5 z u⟩,fun z u V=>?_,aL⟩ oJ;rw[xB] at J;have e:d*k+k=(d+1)*k:=(by rw[xR];omega);rw[<- e];exact J;rw[show slsP (pk++[(U,((b.drop (c*4)).drop (d*k)).take k)])=slsP pk++[U] by simp];exact b5;rw[qmt];simp[ek];rcases n5 z u with h'|h';exact (nk z h').1;exact zL h.fr.size h';rcases n5 z u with h'|h';exact ae z h' V
 have:=y.lt z V;omega
 have ad:d=c-1:=(by have:=zB af;omega);subst ad;refine oC h 0 rfl (false,sk,⟨none,0,0⟩,G) rfl<|oD h 2 rfl (ndV (false,sk,⟨none,0,0⟩,G)) fun w5 h5 f5=>oC h5 2 rfl (false,sk,⟨none,0,0⟩,G) rfl ?_;have aw:∀ {B:List Nat},(∀z∈B,w.heap.size<=z/\z∉[A,C,r1])->∀z∈B,z∉[r1]:=fun hB z u V=>(hB z u).2 (by rw[zE.1 V];simp);have aM:∀z∈[r1],z∈List.range w.heap.size++A::C::r1::(Bk++E):=fun z u=>by rw[zE.1 u];simp
 have:=kk (false,sk,⟨none,0,0⟩,G) (Bk++([]++E)) ⟨false,keysR k (c-1) (b.drop (c*4)),[],kidsR c b⟩ w5 (fun _=>rfl)
  (qsb (pv:=[]) (T:=List.range w.heap.size++A::C::r1::(Bk++E)) rfl ⟨qn7 _ (hB.drop _),fun _ h=>(nomatch h),qn8 _ _⟩ (ar.frame f5 (aw nk)) ek (.nil _ _ _) rfl (y.frame f5 (aw ni)) (fun z u=>⟨fun h=>(nomatch h),ae z u⟩) (fun _ h=>nomatch h)
   (gk.frame f5 aM fun z u=>.inl u) (fun _ h=>nomatch h) fun z u=>by simp only[xG,zD,zG] at u⊢;rcases u with u|u|u<;>simp[*]) h5.fr (fun z u=>by
   rw[xG] at u;rcases zD.1 u with u|u;exact (nk z u).1;exact (ni z u).1)
 rw[zZ aC] at this;exact this
end
end
end
end Go.Proofs.YtgjidjnaigkdfaaGreatDoor
