/- Texts PmB, PrI, NdA, PmC, PrJ, PrK, PrL, PrM, PmD, PmE, PrN, PrQ, PmN, StA, DkF, TrC, TrD, TrE, TrF, TrG, TrH, PmP, PmQ, PmG: contracts of the program's functions, one behind the other. Conditions: those that stand in each line. -/
import Derived.Test.YtmmkegapckbomaaGreatDoorCTL3
import Derived.Test.YtmmkegapckbomaaGreatDoorCTL2
import Derived.Test.YtmmkegapckbomaaGreatDoorCTL1
import Derived.Lib.Bytealg
import Derived.Lib.BytesEntry
import Derived.Laws.IdiomStrings
import Derived.Laws.BytesString
set_option linter.unusedVariables false
set_option linter.unusedSimpArgs false
namespace Go.Proofs.YtmmkegapckbomaaGreatDoor
open Go Go.Pt
attribute [local irreducible] ld ldA ldV fld fldA newZ st new idx idxS idxA slc slcS slcP mkS chk nn call callV inv run runQ runU join loop held ext rng undefer s2a nxt ent IntKind.wrap
open Go.Proofs.Tryz (prog)
section
open Go Go.Pt List
open Go.IntKind (wrap)
variable {D D1:DiskM} {F F1 FD S:List Nat} {K:Int->WP} {M:PgM} {Z wk:List Value} {a b body l l' named numbers pages roots:List Int} {db:Option Addr} {dbk k pb:Nat} {f:DiskM->DiskM×Int} {ls:List (Int×Int)} {n turn:Int} {over:Bool} {r:DiskM×Int} {s sup:Sup} {sl sn:Sl} {u w:World}
def view (D:DiskM) (n:Int):List Int:=match lastW n D.waits with|some b=>b.1|none=>(D.safe.getD n.toNat .zero).1
def DiskM.size (D:DiskM):Int:=D.safe.length
theorem qeW(h:D.down=false)(u:0<=n/\n<D.size):readV D n=(view D n,0):=by have y:n<(D.safe.length:Int):=u.2;rw[readV,if_neg (by rw[h];decide),iN,view];cases lastW n D.waits<;>rfl
theorem qfm(n:Int):∀(l:List (Int×Blk)) (x:Int×Blk),lastW n (l++[x])=if x.1=n then some x.2 else lastW n l
 | [],x=>rfl
 | y::l,x=>by simp only[xH,lastW];rw[qfm n l x];by_cases h:x.1=n;simp[h];simp[h]
theorem qli(n:Nat):∀(l:List (Int×Blk)) (s:List Blk),(∀x∈l,0<=x.1/\x.1<s.length)->(l.foldl laySafe s).getD n .zero=match lastW n l with|some b=>b|none=>s.getD n .zero
 | [],s,_=>rfl
 | x::l,s,h=>by
  have z:=h x (by simp);rw[foldl_cons,qli n l (laySafe s x) (fun y u=>by rw[laySafe,xE];exact h y (zN _ u)),lastW];cases lastW (n:Int) l with
  | some b=>rfl
  | none=>
   dsimp only;by_cases he:x.1=n;rw[if_pos he,laySafe,yQ];have:x.1.toNat=n:=(by omega);rw[this,List.getElem?_set_self (by omega)];rfl;rw[if_neg he,laySafe,yQ,List.getElem?_set_ne (by omega),yQ]
structure Quiet (D:DiskM):Prop where
 down:D.down=false
 fuse:D.fuse=-1
 at_:∀ x∈D.waits,0<=x.1/\x.1<D.safe.length
theorem Quiet.act(h:Quiet D):actM D=(D,false):=by rw[actM,if_neg (by rw[h.fuse];decide),if_neg (by rw[h.fuse];decide)]
theorem Quiet.write(h:Quiet D)(z:0<=n/\n<D.size)(y:l.length=512): ∃D',writeM D n l=(D',0)/\Quiet D'/\D'.size=D.size/\∀m,view D' m=if m=n then l else view D m:=by have C:n<(D.safe.length:Int):=z.2;have A:Quiet (addW D n ⟨l,y⟩):=⟨h.down,h.fuse,fun x u=>by rcases zD.1 u with u|u;exact h.at_ x u;simp at u;subst u;exact⟨z.1,C⟩⟩;refine⟨addW D n ⟨l,y⟩,?_,A,rfl,fun m=>?_⟩;rw[writeM,if_neg (by rw[h.down];decide),iN,dif_pos y,A.act];rfl;rw[view,addW];dsimp only;rw[qfm];by_cases hm:m=n;rw[if_pos hm,if_pos hm.symm];rw[if_neg hm,if_neg (fun e=>hm e.symm),view]
theorem Quiet.sync(h:Quiet D):∃D',syncM D=(D',0)/\Quiet D'/\D'.size=D.size/\D'.waits=[]/\∀m,0<=m->view D' m=view D m:=by refine⟨{ D with safe:=D.waits.foldl laySafe D.safe,waits:=[] },?_,⟨h.down,h.fuse,fun x u=>by cases u⟩,?_,rfl,fun m y=>?_⟩;rw[syncM,if_neg (by rw[h.down];decide),h.act];rfl;show ((D.waits.foldl laySafe D.safe).length:Int)=_;rw[qcF];rfl;obtain⟨k,rfl⟩:∃k:Nat,m=k:=⟨m.toNat,by omega⟩;show ((D.waits.foldl laySafe D.safe).getD (k:Int).toNat .zero).1=_;rw[zJ,qli k _ _ h.at_,view,zJ];cases lastW (k:Int) D.waits<;>rfl
theorem Quiet.writes:∀ {l:List (Int×List Int)} {D:DiskM},Quiet D->(∀x∈l,(0<=x.1/\x.1<D.size)/\x.2.length=512)->(l.map (·.1)).Nodup-> ∃D',writesM l D=(D',0)/\Quiet D'/\D'.size=D.size/\(∀x∈l,view D' x.1=x.2)/\∀m,m∉l.map (·.1)->view D' m=view D m
 | [],D,h,_,_=>⟨D,rfl,h,rfl,(fun x u=>by cases u),fun m _=>rfl⟩
 | y::l,D,h,E,z=>by obtain⟨K,A⟩:=E y (by simp);obtain⟨D1,e1,O,G,I⟩:=h.write K A;rw[xK,nodup_cons] at z;obtain⟨D2,R,U,V,v2,J⟩:=Quiet.writes (l:=l) O (fun x u=>by rw[G];exact E x (zN _ u)) z.2;refine⟨D2,?_,U,V.trans G,fun x u=>?_,fun m C=>?_⟩;rw[writesM,e1];exact R;rcases zG.1 u with rfl|u;rw[J _ z.1,I,if_pos rfl];exact v2 x u;rw[xK,zG,not_or] at C;rw[J m C.2,I,if_neg C.1]
def chunk (numbers:List Int) (i:Nat):List Int:=(numbers.drop (123*i)).take 123
def Listed (D:DiskM) (numbers pages:List Int):Prop:=∀(i:Nat) p,pages[i]?=some p->view D p=sealV p 2 (bodyV (pages.getD (i+1) 0) (chunk numbers i))
theorem qeR(numbers pages:List Int)(k i:Nat):(bodiesL numbers pages k)[i]?=if i<k then some (bodyV (pages.getD (i+1) 0) (chunk numbers i)) else none:=by rw[bodiesL,zQ];by_cases h:i<k;rw[if_pos h,List.getElem?_range h];rfl;rw[if_neg h,yR (by simpa using h)];rfl
theorem qgt(numbers pages:List Int)(k:Nat):(bodiesL numbers pages k).length=k:=by simp[bodiesL]
theorem qfR(numbers:List Int)(i:Nat):(chunk numbers i).length<=123:=by rw[chunk,yK];omega
structure ListOk (n:Int) (numbers pages:List Int):Prop where
 rises:numbers.Pairwise (· < ·)
 nums:∀ x∈numbers,2<=x/\x<n
 pgs:∀ x∈pages,2<=x/\x<n
 nodup:pages.Nodup
 apart:∀ x∈pages,x∉numbers
 room:numbers.length<=123*pages.length
theorem qhW:∀(l:List Int) (a:Int),risesB a l=true↔(∀x∈l,a<x)/\l.Pairwise (· < ·)
 | [],a=>by simp[risesB]
 | x::l,a=>by rw[risesB,yA,yM,qhW l x,yI];constructor;rintro⟨h,u,z⟩;refine⟨fun y A=>?_,u,z⟩;rcases zG.1 A with rfl|A;exact h;exact Int.lt_trans h (u y A);rintro⟨h,u,z⟩;exact⟨h x (by simp),u,z⟩
theorem ListOk.bodies(h:ListOk n numbers pages):bodiesV numbers pages=(bodiesL numbers pages pages.length,0):=by
 have u:risesB 1 numbers=true:=(qhW _ _).2 ⟨fun x y=>by have:=h.nums x y;omega,h.rises⟩;rw[bodiesV,if_neg (by rw[u];have:=h.room;simp;omega),if_neg];rintro⟨p,z,A⟩
 have:=h.pgs p z
 omega
theorem qkE{α β:Type}{x:α×β}:∀ {l:List α} {r:List β},x∈l.zip r->∃i:Nat,l[i]?=some x.1/\r[i]?=some x.2
 | [],_,h=>by simp at h
 | _::_,[],h=>by simp at h
 | a::l,b::r,h=>by rw[zip_cons_cons,zG] at h;rcases h with rfl|h;exact⟨0,rfl,rfl⟩;obtain⟨i,u,y⟩:=qkE h;exact⟨i+1,by simpa using u,by simpa using y⟩
theorem qnu{α β:Type}:∀ {l:List α} {r:List β},l.length=r.length->(l.zip r).map (·.1)=l
 | [],[],_=>rfl
 | a::l,b::r,h=>by rw[zip_cons_cons,xK,qnu (by simpa using h)]
theorem Quiet.spread(h:Quiet D)(C:ListOk D.size numbers pages): ∃D',spreadM D numbers pages=(D',0)/\Quiet D'/\D'.size=D.size/\D'.waits=[]/\Listed D' numbers pages/\∀m,0<=m->m∉pages->view D' m=view D m:=by
 have I:((pages.zip (bodiesL numbers pages pages.length)).map fun x=>(x.1,sealV x.1 2 x.2)).map (·.1)=pages:=(by rw[map_map];exact qnu (by rw[qgt]));obtain⟨D1,e1,O,R,U,J⟩:=h.writes (l:=(pages.zip (bodiesL numbers pages pages.length)).map fun x=>(x.1,sealV x.1 2 x.2)) (fun x V=>by
  obtain⟨y,hy,rfl⟩:=mem_map.1 V;obtain⟨i,h1,u⟩:=qkE hy;rw[qeR] at u;have z:=C.pgs _ (yE h1);refine⟨⟨by show 0<=y.1;omega,z.2⟩,qbz ?_⟩;by_cases E:i<pages.length;rw[if_pos E] at u;have u:=yN u;rw[<- u,qd8]
  have:=qfR numbers i
  omega;rw[if_neg E] at u;cases u) (by rw[I];exact C.nodup)
 rw[I] at J;obtain⟨D2,e2,q2,s2,w2,K⟩:=O.sync;refine⟨D2,?_,q2,s2.trans R,w2,fun i p z=>?_,fun m hm G=>by rw[K m hm,J m G]⟩;rw[spreadM,C.bodies,if_neg (by simp)];show andThen _ _=_;rw[e1];exact e2;have E:=(zP.1 z).1;have A:(p,sealV p 2 (bodyV (pages.getD (i+1) 0) (chunk numbers i)))∈(pages.zip (bodiesL numbers pages pages.length)).map fun x=>(x.1,sealV x.1 2 x.2):=by refine mem_map.2 ⟨(p,bodyV (pages.getD (i+1) 0) (chunk numbers i)),?_,rfl⟩;refine yE (i:=i) ?_;rw[List.getElem?_zip_eq_some];exact⟨z,by rw[qeR,if_pos E]⟩
 have ah:=C.pgs _ (yE z);rw[K p (by omega)];exact U _ A
theorem qkv(numbers:List Int):∀k,(List.range k).flatMap (chunk numbers)=numbers.take (123*k)
 | 0=>by simp
 | k+1=>by rw[range_succ,yP,qkv numbers k,flatMap_singleton,chunk,Nat.mul_succ,<- xC (123*k) (numbers.take (123*k+123))];congr 1;rw[take_take,xN (by omega)];rw[drop_take,xY]
theorem qsd{D:DiskM}{numbers pages:List Int}{n:Int}(R:D.down=false)(U:D.size=n)(hn:n<=4096)(C:ListOk n numbers pages)(V:Listed D numbers pages): ∀(k i f:Nat),i+k=pages.length->k<f->walkM D n f (pages.getD i 0) (pages.take i) ((List.range i).flatMap (chunk numbers))=some (pages,numbers)
 | 0,i,f+1,hi,hf=>by have:pages.getD i 0=0:=(by rw[yQ,yR (by omega)];rfl);have hr:=C.room;have K:i=pages.length:=(by omega);subst K;rw[this,walkM,if_pos rfl,qkv,xX,zS hr]
 | k+1,i,f+1,hi,hf=>by
  have u:i<pages.length:=(by omega);have hp:pages.getD i 0=pages[i]:=(by rw[yQ,zA u];rfl);have hr:=C.pgs _ (zW u);have G:pages[i]∉pages.take i:=fun hm=>by
   obtain⟨j,hj,he⟩:=getElem_of_mem hm;rw[getElem_take] at he;rw[yK] at hj
   have:=pairwise_iff_getElem.1 C.nodup j i (by omega) u (by omega)
   exact this he
  have hv:=V i _ (zA u);have y:=qeW R (n:=pages[i]) (by rw[U];omega);rw[hv] at y;have O:=qfR numbers i;have E:=qgA (number:=pages[i]) (kind:=2) (body:=bodyV (pages.getD (i+1) 0) (chunk numbers i)) (by omega) (by rw[qd8];omega);have I:∀x∈chunk numbers i,x∈numbers:=fun x J=>yT (yU J);have z:U32 (pages.getD (i+1) 0)/\pages.getD (i+1) 0≠1:=by
   rw[yQ];cases h:pages[i+1]? with
   | none=>exact⟨⟨by decide,by decide⟩,by decide⟩
   | some p=>
    have:=C.pgs p (yE h)
    constructor;constructor<;>(simp;omega);simp;omega
  have A:=qp7 z.1 z.2 (c:=chunk numbers i) (fun x J=>by have:=C.nums x (I x J);constructor<;>omega)
   ((qhW _ _).2 ⟨fun x J=>by have:=C.nums x (I x J);omega,C.rises.sublist ((take_sublist _ _).trans (drop_sublist _ _))⟩) O
  rw[hp,walkM,iN,if_neg (by intro h;rcases h with h|h|h;omega;omega;exact G h),y,E,if_neg (by simp),if_neg (by simp),A,if_neg (by simp)]
  have:=qsd R U hn C V k (i+1) f (by omega) (by omega)
  rw[yF u,range_succ,yP,flatMap_singleton] at this;exact this
theorem qhJ(n:Int)(lists:List Int):∀(l:List Int) (a:Int),namedB n lists a l=true↔(∀x∈l,a<x/\x<n/\x∉lists)/\l.Pairwise (· < ·)
 | [],a=>by simp[namedB]
 | x::l,a=>by
  rw[namedB,yA,qhJ n lists l x,yI];simp only[zT,Bool.or_eq_false_iff,decide_eq_false_iff_not,Int.not_le,Int.not_lt,ge_iff_le];constructor;rintro⟨⟨⟨u,z⟩,A⟩,C,E⟩;refine⟨fun y h=>?_,fun y h=>(C y h).1,E⟩;rcases zG.1 h with rfl|h;exact⟨u,z,A⟩
  have:=C y h;exact⟨by omega,this.2⟩
  rintro⟨u,z,A⟩
  have:=u x (by simp)
  exact⟨⟨⟨this.1,this.2.1⟩,this.2.2⟩,fun y h=>⟨z y h,(u y (zN _ h)).2⟩,A⟩
theorem qjc:∀(n:Nat) (l:List Nat),l.Nodup->(∀x∈l,x<n)->l.length<=n
 | 0,l,_,h=>by cases l with
  | nil=>simp
  | cons a l=>exact absurd (h a (by simp)) (by omega)
 | n+1,l,y,h=>by
  by_cases hm:n∈l;have A:=qjc n (l.erase n) (y.erase n) (fun x u=>by
   have z:=(y.mem_erase_iff).1 u
   have:=h x z.2
   have:=z.1
   omega)
  have:=length_erase_of_mem hm
  have:=length_pos_of_mem hm
  omega
  have:=qjc n l y (fun x u=>by
   have:=h x u
   have:x≠n:=fun e=>hm (e▸u);omega)
  omega
theorem qct(A:l.Nodup)(h:∀x∈l,2<=x/\x<n):(l.length:Int)<=n-2\/l=[]:=by
 by_cases h0:l=[];exact .inr h0;left;obtain⟨a,C⟩:=exists_mem_of_ne_nil l h0;have G:=h a C
 have:=qjc (n-2).toNat (l.map fun x=>(x-2).toNat) (by
  refine pairwise_map.2 (A.imp_of_mem fun {x y} u z E=>?_)
  have:=h x u
  have:=h y z
  omega) (fun x u=>by
  obtain⟨y,z,rfl⟩:=mem_map.1 u
  have:=h y z
  omega)
 rw[zK] at this;omega
structure Opens (D:DiskM) (s:Sup) (pages numbers:List Int):Prop where
 down:D.down=false
 size:8<=D.size/\D.size<=4096
 newest:newestV (view D 0) (view D 1)=(s,0)
 blocks:s.2.getD 0 0=D.size
 list:s.2.getD 1 0=pages.headD 0
 free:s.2.getD 2 0=numbers.length
 ok:ListOk D.size numbers pages
 listed:Listed D numbers pages
theorem Opens.load(h:Opens D s pages numbers):loadM D s=some (pages,numbers):=by
 have z:walkM D D.size (D.size.toNat+1) (pages.headD 0) [] []=some (pages,numbers):=by
  have:=qsd h.down rfl h.size.2 h.ok h.listed pages.length 0 (D.size.toNat+1) (by omega) (by
   have:=qct h.ok.nodup h.ok.pgs
   have C:=h.size;rcases this with y|y;omega;rw[y];simp)
  have e:pages.headD 0=pages.getD 0 0:=(by cases pages<;>rfl);rw[e];exact this
 rw[loadM,h.blocks,h.list,z];dsimp only;rw[if_pos];exact⟨(qhJ _ _ _ _).2 ⟨fun x u=>⟨by have:=h.ok.nums x u;omega,(h.ok.nums x u).2,fun A=>h.ok.apart x A u⟩,h.ok.rises⟩,h.free.symm⟩
theorem Opens.open(h:Opens D s pages numbers):openM D=(some (begunM s pages numbers 1 false numbers),0):=by have u:=qeW h.down (n:=0) ⟨by decide,by have:=h.size;omega⟩;have y:=qeW h.down (n:=1) ⟨by decide,by have:=h.size;omega⟩;have z:s.2.getD 0 0=(D.safe.length:Int):=h.blocks;rw[openM,u,y,h.newest,if_neg (by simp),if_neg (by simp),if_neg (by simp),if_neg (by rw[z];simp),h.load]
theorem qe5{α:Type}{enc:α->List Value}{P:Program}{s:Sl}{l:List α}{tx e':TypeId}(h:Rds enc k S w s l)(y:∀x,(enc x).length=k)(z:∀x,∀u∈enc x,u.oneCell'=true)(C:P.underlying tx=some (.slice e'):=by kernel_rfl): Src P k tx s.v s.len (l.flatMap enc) w:=by
 obtain⟨a,len,cap⟩:=s;have A:=h.1;simp only at A;cases a with
 | none=>
  have:l=[]:=by rcases h.2.2 with h|⟨b,o,J,T,K,E,_⟩;exact h;cases E
  subst this;simp at A;subst A;exact .ofNil w C cap
 | some a=>
  refine .ofSlice w C a len cap _ (by rw[qbj y,A]) (h.cells y rfl) fun u G=>?_;obtain⟨x,_,I⟩:=yJ.1 G;exact z x u I
theorem qsq{s src:Sl}{ys:List Int}{B:List Nat}{K:Sl->WP}(h:BufU w s l B)(E:Rd S w src ys)(V:l.length+ys.length<=1000000)(I:∀z B' w',BufU w' z (l++ys) B'->Fr B w w'->(∀b∈B',b∈B\/w.heap.size<=b)->K z w'): Pt.run [Ty1.one Cell.slice] ((Builtin.append_ #[92,92] 92 #[s.v,src.v]).run prog w) K:=by obtain⟨i,J,O,A,C⟩:=qed;have y:=E.1;refine Buf.appSrc (e:=37) h qaK (by kernel_rfl) J O A rfl (qe5 (e':=37) E qaK (fun x u G=>by simp at G;subst G;rfl)) y (by rw[C];omega) (by omega) fun z B' w' R U n' _=>I z B' w' R U n'
theorem qbW(h:D.Ok)(n:Int):IsB (readV D n).1/\(readV D n).1.length<=512:=by
 have E:IsB (zs 512):=IsB.zs 512;unfold readV;split;exact⟨(fun x z=>by cases z),by simp⟩;split;exact⟨(fun x z=>by cases z),by simp⟩;split;rename_i b G;refine⟨?_,Nat.le_of_eq b.2⟩;have:∀l:List (Int×Blk),(∀x∈l,IsB x.2.1)->lastW n l=some b->IsB b.1:=by
  intro l;induction l with
  | nil=>intro _ h;cases h
  | cons x l ih=>
   intro C u;rw[lastW] at u;cases A:lastW n l with
   | some c=>rw[A] at u;exact ih (fun y I=>C y (zN _ I)) (by rw[A];exact u)
   | none=>
    rw[A] at u;dsimp only at u;split at u;cases u;exact C x (by simp);cases u
 exact this _ h.bytesW G;refine⟨?_,Nat.le_of_eq (D.safe.getD n.toNat .zero).2⟩;rw[yQ];cases J:D.safe[n.toNat]? with
 | none=>exact E
 | some b=>exact h.bytesS b (yE J)
theorem qn3(h:IsB l)(n:Int):IsB (openV n l).2.1/\(openV n l).2.1.length<=l.length:=by
 have u:IsB ([]:List Int):=fun x y=>by cases y
 unfold openV;split;exact⟨u,by simp⟩;split;exact⟨u,by simp⟩;split;exact⟨u,by simp⟩;split;exact⟨u,by simp⟩;split;exact⟨u,by simp⟩;refine⟨(h.take _).drop _,?_⟩;rw[yB,yK];omega
abbrev MIT:TypeId:=200
theorem qxD:prog.underlying MIT=some (.map 37 3):=by kernel_rfl
theorem qx3:∀w,(zeroValue 3).run prog w=.ok (.i 0) w:=fun w=>by kernel_rfl
def onesM (l:List Int):List (Int×Value):=l.map fun n=>(n,.i 1)
theorem qhM(n:Int):∀l:List Int,(n∈l->∃i,look n (onesM l)=some (i,.i 1))/\(n∉l->look n (onesM l)=none)
 | []=>⟨(fun h=>by cases h),fun _=>rfl⟩
 | a::l=>by
  obtain⟨A,C⟩:=qhM n l;simp only[onesM,xK,look];by_cases h:n=a;rw[if_pos h];exact⟨fun _=>⟨0,rfl⟩,fun E=>absurd (by rw[h];simp) E⟩;rw[if_neg h];refine⟨fun u=>?_,fun u=>?_⟩;rcases zG.1 u with e|u;exact absurd e h;obtain⟨i,z⟩:=A u;unfold onesM at z;exact⟨i+1,by rw[z];rfl⟩
  have:=C (fun y=>u (zN _ y))
  unfold onesM at this;rw[this];rfl
theorem qpG{r:Nat}{lists:List Int}{K:Int->Prop}(h:MapS u32V w r (onesM lists))(k:∀x:Int,decide (x>0)=decide (n∈lists)->K x): runQ [Ty1.one .i] (fun w'=>(Instr.lookup MIT (.map (some r)) (.u n) false).run prog w') w K:=by
 have:=qeY (P:=prog) qxD qx3 qcs h.at n
 rw[qbZ] at this;obtain⟨y,z⟩:=qhM n lists;by_cases hn:n∈lists;obtain⟨i,A⟩:=y hn;rw[A] at this;exact qaQ (ts:=[Ty1.one .i]) (1:Int) this (k 1 (by simp[hn]));rw[z hn] at this;exact qaQ (ts:=[Ty1.one .i]) (0:Int) this (k 0 (by simp[hn]))
theorem qod{u:Sl}(y:sup.2.length=27):splice (pgRaw db sup sl sn turn over wk) 29 [u.v]=pgRaw db sup u sn turn over wk:=by
 have h:=qa2 (db:=db) y
 have:=qa8 (A:=(Value.pointer db::supV sup.1 sup.2)) (X:=[sl.v]) (Y:=[u.v]) (Z:=sn.v::.i turn::.bool over::wk) rfl
 rw[h] at this;simpa[pgRaw] using this
theorem qoe{u:Sl}(y:sup.2.length=27):splice (pgRaw db sup sl sn turn over wk) 30 [u.v]=pgRaw db sup sl u turn over wk:=by
 have h:((Value.pointer db::supV sup.1 sup.2)++([sl.v]:List Value)).length=30:=by rw[zF,qa2 y];rfl
 have:=qa8 (A:=(Value.pointer db::supV sup.1 sup.2)++([sl.v]:List Value)) (X:=[sn.v]) (Y:=[u.v]) (Z:=.i turn::.bool over::wk) rfl
 rw[h] at this;simpa[pgRaw] using this
theorem qiV:U32 (first4 l):=by unfold first4 get4V;exact qcr _ _ _
theorem qsV(l:List Int):U32 (parseV l).1:=by unfold parseV;split;constructor<;>decide;split;constructor<;>decide;split;exact qiV;constructor<;>decide
theorem qsW(l:List Int):(parseV l).2.1.length<=123:=by unfold parseV;split;simp;split;simp;rename_i h;split;simp only[numsV,zK,length_range];omega;simp
structure Walk (w:World) (FD:List Nat) (pb r:Nat) (db:Option Addr) (sup:Sup) (turn:Int) (over:Bool) (wk:List Value) (a:Int) (lists named:List Int) (w':World) (sl sn:Sl) (B1 B2:List Nat):Prop where
 own:Own [pb] w w' [(pb,.cells (pgRaw db sup sl sn turn over wk) PGT (0,0))]
 b1:BufU w' sl lists B1
 b2:BufU w' sn named B2
 map:MapS u32V w' r (onesM lists)
 n1:∀ b∈B1,w.heap.size<=b/\b≠r/\b∉B2
 n2:∀ b∈B2,w.heap.size<=b/\b≠r
 nr:w.heap.size<=r
 at_:U32 a
 nodup:lists.Nodup
 range:∀ x∈lists,2<=x/\x<sup.2.getD 0 0
 len:named.length<=123*lists.length
theorem qva{K:Bool->WP}(hc:w.heap[pb]?=some (.cells (pgRaw (pW dbk) sup ⟨none,0,0⟩ ⟨none,0,0⟩ turn over wk) PGT (0,0)))(I:sup.2.length=27)(hw:wk.length=27)(hd:DiskAt w dbk FD D)(hD:D.Ok)(hv:Hv w)(a7:pb∉FD)(a8:pb≠HG)(bN:sup.2.getD 0 0<=4096)(a9:U32 (sup.2.getD 1 0))(bO:U32 (sup.2.getD 2 0))(O:loadM D sup=none->∀w',Fr [pb] w w'->K false w')(hk:∀sl sn u named w',loadM D sup=some (u,named)->Own [pb] w w' [(pb,.cells (pgRaw (pW dbk) sup sl sn turn over wk) PGT (0,0))]->(∀G:List Nat,(∀b∈G,b<w.heap.size)->Rd G w' sl u/\Rd G w' sn named)->K true w'): cW 98 [.pointer (pW pb)] [.one .bool] w K:=by
 have bD:=qab hc;have ho:Own [pb] w w [(pb,.cells (pgRaw (pW dbk) sup ⟨none,0,0⟩ ⟨none,0,0⟩ turn over wk) PGT (0,0))]:=⟨by simpa using hc,by simp,.refl _ _,by simp⟩;refine qiy ?_;unfold qeK;refine oB ho fun r w1 e1 f1 V=>?_;have al:MapS u32V w1 r (onesM []):=.empty (V.at (i:=0) rfl);have V:=V.sub (L':=[(pb,_)]) (List.Sublist.cons _ (List.Sublist.refl _));refine qae (oA V 0 rfl (sup.2.getD 1 0) (qjV I 1) ?_);have aC:∀ {w':World},Fr [pb] w w'->DiskAt w' dbk FD D:=fun f=>hd.frame f fun b A=>by simp only[zE];rintro rfl;exact a7 A
 have half:∀ {w':World},Fr [pb] w w'->Hv w':=fun f=>hv.frame f (by simpa using fun e=>a8 e.symm);generalize a':(sup.2.getD 0 0).toNat+1=F0;have C:loadM D sup=match walkM D (sup.2.getD 0 0) F0 (sup.2.getD 1 0) [] [] with|none=>none|some x=>if namedB (sup.2.getD 0 0) x.1 0 x.2=true/\(x.2.length:Int)=sup.2.getD 2 0 then some x else none:=by rw[<- a'];rfl
 refine qah (fun a w'=>∃u named sl sn B1 B2 f,Walk w FD pb r (pW dbk) sup turn over wk a u named w' sl sn B1 B2/\f+u.length=F0/\walkM D (sup.2.getD 0 0) f a u named=walkM D (sup.2.getD 0 0) F0 (sup.2.getD 1 0) [] [])
  (fun a w'=>match w'.heap[r]? with|some (.map es _)=>F0-es.size|_=>0) ⟨[],[],⟨none,0,0⟩,⟨none,0,0⟩,[],[],F0,⟨V,.nil _ _ _,.nil _ _ _,al,by simp,by simp,by rw[e1];exact zM _,a9,.nil,by simp,by simp⟩,rfl,rfl⟩ ?_
 rintro a w2 ⟨u,named,sl,sn,B1,B2,f,H,hf,z⟩ X hX;have bE:u.length<F0:=by rcases qct H.nodup H.range with h|h;omega;rw[h];simp;omega
 obtain⟨f,rfl⟩:∃g,f=g+1:=⟨f-1,by omega⟩;have aD:=H.own.fr;apply qaa<;>intro am;have an:a≠0:=(by simpa using am);rw[walkM,if_neg an] at z;refine qaf (fun b w'=>b=decide (a<2\/a>=sup.2.getD 0 0\/a∈u)/\w'=w2) ?_ ?_;refine qaa (fun h=>⟨by rw[zZ (Or.inl (zC h))],rfl⟩) (fun h=>?_);have h1:=zB h;refine qae (oA H.own 0 rfl (sup.2.getD 0 0) (qjV I 0) ?_);refine qaa (fun h=>⟨by rw[zZ (Or.inr (Or.inl (zC h)))],rfl⟩) (fun h=>?_);have R:=zB h;refine qpG H.map fun x hx=>⟨?_,rfl⟩;rw[hx];refine decide_eq_decide.2 ⟨fun h=>.inr (.inr h),fun h=>?_⟩;rcases h with h|h|h;exact absurd h h1;exact absurd h R;exact h;rintro b w3 ⟨rfl,rfl⟩;apply qaa<;>intro h;have h:=zC h;rw[if_pos h] at z;exact O (by rw[C,<- z]) w3 aD;have af:=zB h;rw[if_neg af] at z;have bd:2<=a:=(by omega);have bf:a<sup.2.getD 0 0:=(by omega);have aE:a∉u:=fun h=>af (.inr (.inr h));obtain⟨o,hr,hm⟩:=qhX (v:=.i 1) qxD H.map a;refine qjW _ hr ?_;have ao:setL a (.i 1) (onesM u)=onesM (u++[a]):=by rw[setL,(qhM a u).2 aE];simp[onesM]
 rw[ao] at hm;have aF:=H.map.lt;have fm:Fr [r] w3 (upd w3 r o):=qfF aF o;have aG:r≠pb:=(by have:=H.nr;omega);have ab:=H.own.frame fm (fun b A=>by simp only[zE] at A;subst A;exact .inr H.nr) (fun p hp=>by simp at hp;subst hp;simpa using fun e=>aG e.symm);have ap:=H.b1.frame fm (fun b A=>by simpa using (H.n1 b A).2.1);have aH:=H.b2.frame fm (fun b A=>by simpa using (H.n2 b A).2);generalize upd w3 r o=w4 at hm fm ab ap aH;refine qae (oA ab 0 rfl (pW dbk) qxX ?_);rw[wi' a (by omega)];refine qhp (aC ab.fr) hD fun s5 B5 w5 b5 f5 n5=>?_;have aq:=ab.frame0 f5;apply qaa<;>intro h;have h:(readV D a).2≠0:=(by simpa using h);rw[if_pos h] at z;exact O (by rw[C,<- z]) w5 aq.fr;have h:¬(readV D a).2≠0:=(by simpa using h);rw[if_neg h] at z;refine qne (b5.rds qat (S:=[]) (by simp)) (half aq.fr) (qbW hD a).1 (by have:=(qbW hD a).2;omega) fun s6 B6 w6 b6 f6 n6=>?_;have aJ:=aq.frame0 f6;refine qaf (fun b w'=>b=decide ((openV a (readV D a).1).2.2≠0\/(openV a (readV D a).1).1≠2)/\w'=w6) ?_ ?_;apply qaa<;>intro h;have h:(openV a (readV D a).1).2.2≠0:=(by simpa using h);exact⟨by rw[zZ (Or.inl h)],rfl⟩;have h:(openV a (readV D a).1).2.2=0:=(by simpa using h);refine⟨?_,rfl⟩;by_cases R:(openV a (readV D a).1).1=2<;>simp[h,R];rintro b bi ⟨rfl,rfl⟩;apply qaa<;>intro h;have h:=zC h;rw[if_pos h] at z;exact O (by rw[C,<- z]) bi aJ.fr;have h:=zB h;rw[if_neg h] at z;have aK:=qn3 (qbW hD a).1 a;refine qtt (b6.rds qat (S:=[]) (by simp)) aK.1 (by have:=aK.2;have:=(qbW hD a).2;omega) fun s7 B7 w7 b7 f7 n7=>?_;have aL:=aJ.frame0 f7;apply qaa<;>intro h;have h:(parseV (openV a (readV D a).1).2.1).2.2≠0:=(by simpa using h);rw[if_pos h] at z;exact O (by rw[C,<- z]) w7 aL.fr;have h:¬(parseV (openV a (readV D a).1).2.1).2.2≠0:=(by simpa using h);rw[if_neg h] at z;have bj:=qsW (openV a (readV D a).1).2.1;have aM:=qsV (openV a (readV D a).1).2.1;generalize parseV (openV a (readV D a).1).2.1=pv at z b7 bj aM;have bk:=(f5.trans f6).trans f7;have bl:=H.len;have bm:u.length<=4096:=(by omega);have E:=aL.drew;have ac:Fr [] w4 w7.drew:=bk.drew;have ar:=ap.frame0 ac;have au:=aH.frame0 ac;have aN:=hm.frame ac (by simp);have aO:=b7.frame0 ((Fr.refl [] w7).drew);have l7:∀b∈B7,w4.heap.size<=b:=fun b A=>zL (f5.trans f6).size (n7 b A);have b4:r<w4.heap.size:=hm.lt;generalize w7.drew=wd at E ac ar au aN aO;refine qae (oA E 0 rfl sl (qek I 0) ?_);refine qae (oA E 0 rfl sn (qek I 1) ?_);refine oB E fun rn w8 e8 f8 ad=>qan (ad.cell 1 rfl (qek I 1)) (ad.cell 1 rfl (qek I 0)) ?_;have aR:Rd [] w8 ⟨pW rn,1,1⟩ [a]:=by
  refine⟨rfl,zM _,.inr ⟨rn,0,_,_,_,rfl,ad.at (i:=0) rfl,by simp,fun i x hx=>?_⟩⟩;match i with
  | 0=>simp at hx;subst hx;rfl
  | i+1=>simp at hx
 refine qsq (s:=sl) (src:=⟨pW rn,1,1⟩) (ar.frame0 f8) aR (by simp;omega) fun s9 B9 w9 b9 f9 n9=>?_;have b8:∀b∈B1,b<wd.heap.size:=fun b A=>ar.lt b A;have br:∀b∈B2,b<wd.heap.size:=fun b A=>au.lt b A;have bs:wd.heap.size<=w8.heap.size:=f8.size;have b':w4.heap.size<=wd.heap.size:=ac.size;have ca:w.heap.size<=w4.heap.size:=ab.fr.size;have aT:=(ad.sub (L':=[(pb,_)]) (List.Sublist.cons _ (List.Sublist.refl _))).frame f9 (fun b A=>.inr (H.n1 b A).1) (fun p hp A=>by simp at hp;subst hp;have:=(H.n1 _ A).1;dsimp only at this;omega);refine qaj (aT.cell 0 rfl (qek I 1)) ?_;have bt:=(au.frame0 f8).frame f9 (fun b A av=>(H.n1 b av).2.2 A);have bu:Rd [] w9 s7 pv.2.1:=((aO.frame0 f8).frame f9 (fun b A av=>by have:=l7 b A;have:=ap.lt b av;omega)).rds qaK (by simp);refine qsq bt bu (by omega) fun aU aw cb bv ax aV=>?_;have bJ:wd.heap.size<=w9.heap.size:=zL bs f9.size;have aW:=aT.frame ax (fun b A=>.inr (H.n2 b A).1) (fun p hp A=>by simp at hp;subst hp;have:=(H.n2 _ A).1;dsimp only at this;omega);have U:∀b∈B9,w.heap.size<=b/\b≠r/\b∉B2/\b<w9.heap.size:=fun b A=>by refine⟨?_,?_,?_,b9.lt b A⟩;rcases n9 b A with h|h;exact (H.n1 b h).1;omega;rcases n9 b A with h|h;exact (H.n1 b h).2.1;omega;rcases n9 b A with h|h;exact (H.n1 b h).2.2;intro R;have:=br b R;omega
 have ah:∀b∈aw,w.heap.size<=b/\b≠r:=fun b A=>by rcases aV b A with h|h;exact H.n2 b h;constructor<;>omega
 have aX:=b9.frame ax (fun b A R=>(U b A).2.2.1 R);have bw:∀b∈B9,b∉aw:=fun b A bx=>by
  rcases aV b bx with h|h;exact (U b A).2.2.1 h
  have:=(U b A).2.2.2;omega
 refine qae (oG aW 0 rfl (pgRaw (pW dbk) sup s9 sn turn over wk) (qod I) rfl (by rw[qbF I,hw];exact zO rfl) fun cc aY bz=>?_);refine qae (oG aY 0 rfl (pgRaw (pW dbk) sup s9 aU turn over wk) (qoe I) rfl (by rw[qbF I,hw];exact zO rfl) fun cd aZ bA=>?_);have J:=bz.trans bA;have ay:∀b,w.heap.size<=b->b∉[pb]:=fun b A=>by simp;omega
 have ai:=(((aN.frame f8 (by simp)).frame f9 (fun h=>(H.n1 r h).2.1 rfl)).frame ax (fun h=>(H.n2 r h).2 rfl)).frame J (ay r H.nr);refine hX _ _ ⟨u++[a],named++pv.2.1,s9,aU,B9,aw,f,⟨aZ,aX.frame J (fun b A=>ay b (U b A).1),bv.frame J (fun b A=>ay b (ah b A).1),ai,fun b A=>⟨(U b A).1,(U b A).2.1,bw b A⟩,ah,H.nr,aM,?_,?_,?_⟩,?_,z⟩ ?_;rw[yL];exact⟨H.nodup,by simp,fun x hx y hy=>by simp at hy;subst hy;exact fun e=>aE (e▸hx)⟩;intro x hx;rcases zD.1 hx with h|h;exact H.range x h;simp at h;subst h;exact⟨bd,bf⟩;rw[zF,zF];have:[a].length=1:=rfl;omega;rw[zF];have:[a].length=1:=rfl;omega;have key:∀ {w':World} {l:List Int},MapS u32V w' r (onesM l)->(match w'.heap[r]? with|some (.map es _)=>F0-es.size|_=>0)=F0-l.length:=by
  rintro w' l ⟨es,c,h1,R,_⟩;rw[h1]
  have:=congrArg List.length R
  simp[onesM] at this;simp[this]
 rw[key ai,key H.map,zF];have:[a].length=1:=rfl;omega;have an:a=0:=(by simpa using am);subst an;rw[walkM,if_pos rfl] at z;rw[<- z] at C;dsimp only at C;refine qae (oA H.own 0 rfl sn (qek I 1) ?_);have rn:Rd [] w2 sn named:=H.b2.rds qaK (by simp);have ce:=rn.1;have bl:=H.len;have bm:u.length<=4096:=(by omega);refine qah (fun x w'=>w'=w2/\∃i:Nat,x.2=i/\i<=named.length/\namedB (sup.2.getD 0 0) u x.1 (named.drop i)=namedB (sup.2.getD 0 0) u 0 named) (fun x _=>((named.length:Int)-x.2).toNat) ⟨rfl,0,rfl,by omega,rfl⟩ ?_;rintro⟨a0,ii⟩ w' ⟨rfl,i,a1,hi,hn⟩ Z hZ;simp only at a1 hn;subst a1;apply qaa<;>intro hc;have a2:i<named.length:=(by have:=zC hc;dsimp only at this;omega);refine Rd.at rn i rfl (zA a2) ?_;rw[zX a2,namedB] at hn;refine qaf (fun b w3=>b=(decide (named[i]<=a0)||decide (named[i]>=sup.2.getD 0 0)||decide (named[i]∈u))/\w3=w') ?_ ?_;refine qaa (fun h=>⟨by rw[h];rfl,rfl⟩) fun h=>qae (oA H.own 0 rfl (sup.2.getD 0 0) (qjV I 0) ?_);refine qaa (fun R=>⟨by rw[h,R];rfl,rfl⟩) fun R=>qpG H.map fun x hx=>⟨?_,rfl⟩;rw[hx,h,R];rfl;rintro b w3 ⟨rfl,rfl⟩;apply qaa<;>intro h;rw[h] at hn;refine O ?_ w3 aD;rw[C,if_neg];rw[<- hn];simp;rw[h] at hn;rw[wi' _ (by dsimp only;omega)];exact hZ _ _ ⟨rfl,i+1,by simp,by omega,by simpa using hn⟩ (by dsimp only;omega);have:i=named.length:=(by have:=zB hc;dsimp only at this;omega);subst this;rw[drop_length] at hn;have bB:namedB (sup.2.getD 0 0) u 0 named=true:=hn.symm;have E:=H.own.drew;refine qae (oA E 0 rfl sn (qek I 1) ?_);refine qae (oA E 0 rfl (sup.2.getD 2 0) (qjV I 2) ?_);rw[wi' _ (by omega)];by_cases hfree:(named.length:Int)=sup.2.getD 2 0;rw[if_pos ⟨bB,hfree⟩] at C;have e:((sn.len:Int)==sup.2.getD 2 0)=true:=(by rw[yO];omega);rw[e];refine hk sl sn u named _ C E fun G hG=>?_;have ak:∀b,w.heap.size<=b->b∉G:=fun b A h=>by have:=hG b h;omega
 exact⟨(H.b1.frame0 ((Fr.refl [] w').drew)).rds qaK fun b A=>ak b (H.n1 b A).1,(H.b2.frame0 ((Fr.refl [] w').drew)).rds qaK fun b A=>ak b (H.n2 b A).1⟩;have e:((sn.len:Int)==sup.2.getD 2 0)=false:=(by rw[zR];omega);rw[e];exact O (by rw[C,if_neg (fun h=>hfree h.2)]) _ E.fr
theorem qkn{s:Sl}(h:RdB S w s l):(Extern.Bytes.bytesOf (.slice s.a s.len s.cap)).run prog w=.ok ⟨(Lib.bytesOf l).toArray⟩ w:=by
 have hlen:=h.1;cases ha:s.a with
 | none=>
  have hl0:l=[]:=by rcases h.2.2 with h3|⟨b,o,cs,T,fr,ha',_⟩;exact h3;rw[ha] at ha';cases ha'
  subst hl0;rfl
 | some a=>
  have hc:=h.cells qat ha
  have:=Lib.run_loadBytesX (P:=prog) w l a .empty (fun j x hj=>hc j (.int .u8 x) (by rw[qaH,zQ,hj];rfl))
  rw[hlen];show (Extern.Bytes.loadBytes a l.length .empty).run prog w=_;rw[this];have e:(#[]:Array UInt8)++(Lib.bytesOf l).toArray=(Lib.bytesOf l).toArray:=(by simp);exact congrArg (fun d=>Result.ok (ByteArray.mk d) w) e
theorem qfU:∀ {a b:List Int},IsB a->IsB b->Lib.compareBytes (Lib.bytesOf a) (Lib.bytesOf b)=cmpL a b
 | [],[],_,_=>rfl
 | [],y::b,_,_=>rfl
 | x::a,[],_,_=>rfl
 | x::a,y::b,G,I=>by
  have A:=G x (by simp);have C:=I y (by simp);have ih:=qfU (a:=a) (b:=b) (fun z E=>G z (zN _ E)) (fun z E=>I z (zN _ E));have e:∀ {u v:Int},(0<=u/\u<256)->(0<=v/\v<256)->(u.toNat.toUInt8<v.toNat.toUInt8↔u<v):=fun {u v} J K=>by rw[UInt8.lt_iff_toNat_lt];simp;omega
  show (if x.toNat.toUInt8<y.toNat.toUInt8 then (-1:Int) else if y.toNat.toUInt8<x.toNat.toUInt8 then 1 else Lib.compareBytes (Lib.bytesOf a) (Lib.bytesOf b))=cmpL (x::a) (y::b);rw[cmpL,ih];by_cases h1:x<y;rw[if_pos ((e A C).2 h1),if_pos h1];rw[if_neg (fun h=>h1 ((e A C).1 h)),if_neg h1];by_cases h2:y<x;rw[if_pos ((e C A).2 h2),if_pos h2];rw[if_neg (fun h=>h2 ((e C A).1 h)),if_neg h2]
theorem qqU{S':List Nat}{s u:Sl}(h:RdB S w s l)(z:RdB S' w u l')(A:IsB l)(y:IsB l'): (Extern.BytealgCompare.compare #[s.v,u.v]).run prog w=.ok (.i (cmpL l l')) w:=by show Sem.run prog (do pure (goInt (Extern.BytealgCompare.cmp (<- Extern.Bytes.bytesOf s.v) (<- Extern.Bytes.bytesOf u.v)))) w=_;have e:=qfU A y;simp only[Sem.run_bind,qkn h,Result.andThen_ok,qkn z,Lib.cmp_eq];rw[e];rfl
theorem qoQ{S':List Nat}{s y:Sl}(h:RdB S w s l)(z:RdB S' w y l')(A:IsB l)(u:IsB l')(C:K (cmpL l l') w): cW 111 [s.v,y.v] [.one .i] w K:=by refine qsL ?_;unfold qpJ;refine qk7 ?_;unfold qgJ;exact qiU (e:=Extern.BytealgCompare.compare) Tryz.func182 (by kernel_rfl) (by kernel_rfl) (by kernel_rfl) (by kernel_rfl) (cmpL l l') w (qqU h z A u) C
def encSl (s:Sl):List Value:=[s.v]
theorem qcW(s:Sl):(encSl s).length=1:=rfl
theorem qtT(s:Sl):∀u∈encSl s,u.oneCell'=true:=fun u h=>by rw[zE.1 h];rfl
abbrev Kps:=List (Sl×Key)
abbrev slsP (ps:Kps):List Sl:=ps.map (·.1)
abbrev keyP (ps:Kps):List Key:=ps.map (·.2)
def RdK (S:List Nat) (w:World) (s:Sl) (ps:Kps):Prop:=Rds encSl 1 S w s (slsP ps)/\∀p∈ps,RdB S w p.1 p.2
theorem RdK.frame{S S':List Nat}{w w':World}{s:Sl}{ps:Kps}(h:RdK S w s ps)(f:Fr S w w')(u:∀b∈S',b∈S\/w.heap.size<=b):RdK S' w' s ps:=⟨h.1.frame f u,fun p y=>(h.2 p y).frame f u⟩
theorem RdK.frame0{S:List Nat}{w w':World}{s:Sl}{ps:Kps}(h:RdK S w s ps)(f:Fr [] w w'):RdK S w' s ps:=⟨h.1.frame0 f,fun p u=>(h.2 p u).frame0 f⟩
theorem RdK.len{S:List Nat}{w:World}{s:Sl}{ps:Kps}(h:RdK S w s ps):s.len=ps.length:=by rw[h.1.1,zK]
theorem RdK.nil(S:List Nat)(w:World):RdK S w ⟨none,0,0⟩ []:=⟨.nil _ _ _ _,fun p h=>nomatch h⟩
theorem RdK.get{S:List Nat}{w:World}{s:Sl}{ps:Kps}(h:RdK S w s ps)(n:Nat){i:Int}{K:Sl->Prop}(hi:i=n)(u:n<ps.length)(z:K ps[n].1):idx s i 1 fun a=>ld .slice a w K:=
 Rds.get h.1 n hi (x:=ps[n].1) (by rw[zQ,zA u];rfl) (y:=ps[n].1) rfl z
theorem andThen_ok:andThen (D,0) f=f D:=if_pos rfl
structure SupOk (s:Sup):Prop where
 seq:0<=s.1/\s.1<4611686018427387904
 len:s.2.length=27
 u32:∀ x∈s.2,U32 x
theorem SupOk.place(h:SupOk s):Int.tmod s.1 2=s.1%2:=Int.tmod_eq_emod_of_nonneg h.seq.1
theorem SupOk.superP{s:Sup}(h:SupOk s):superP s=(s.1%2,sealV (s.1%2) 1 (superB s.1 s.2)):=by rw[Go.Proofs.YtmmkegapckbomaaGreatDoor.superP,h.place,qa5 _]
theorem SupOk.read(h:SupOk s):readSV (s.1%2) (sealV (s.1%2) 1 (superB s.1 s.2))=(s,0):=by
 have:=h.seq
 exact qrm (by constructor<;>omega) h.len h.u32 h.place
theorem SupOk.sealLen(h:SupOk s)(p:Int):(sealV p 1 (superB s.1 s.2)).length=512:=qbz (by rw[qcy h.len];decide)
theorem Quiet.sealOk(h:Quiet D)(y:SupOk s)(R:8<=D.size): ∃D',sealM D s=(D',0)/\Quiet D'/\D'.size=D.size/\D'.waits=[]/\view D' (s.1%2)=sealV (s.1%2) 1 (superB s.1 s.2)/\∀m,0<=m->m≠s.1%2->view D' m=view D m:=by obtain⟨D1,e1,C,E,z⟩:=h.write (n:=s.1%2) (l:=sealV (s.1%2) 1 (superB s.1 s.2)) (by omega) (y.sealLen _);obtain⟨D2,G,I,J,K,A⟩:=C.sync;refine⟨D2,?_,I,J.trans E,K,by rw[A _ (by omega),z,if_pos rfl],fun m O u=>by rw[A m O,z,if_neg u]⟩;rw[sealM,y.superP];show andThen (writeM D (s.1%2) _) syncM=_;rw[e1];exact G
theorem qrn{p:Int}:(readSV p (zs 512)).2≠0:=by have u:(openV p (zs 512)).1=0:=(by unfold openV;split<;>(try rfl);split<;>(try rfl);split<;>(try rfl);split<;>(try rfl);split<;>rfl);unfold readSV;generalize openV p (zs 512)=o at u⊢;by_cases h:o.2.2≠0;rw[if_pos h];exact h;have y:o.1≠1\/o.2.1.length≠116:=.inl (by rw[u];decide);rw[if_neg h,if_pos y];exact (by decide:(2:Int)≠0)
theorem qrF{n i:Nat}(h:i<n-2:=by omega):(allV n)[i]?=some ((i:Int)+2):=by rw[allV,zQ,List.getElem?_range h];rfl
theorem qhs(n:Nat):(allV n).length=n-2:=by simp[allV]
theorem qht{n:Nat}{x:Int}:x∈allV n↔2<=x/\x<n:=by rw[allV,mem_map];constructor;rintro⟨i,h,rfl⟩;rw[mem_range] at h;omega;rintro⟨u,y⟩;exact⟨(x-2).toNat,by rw[mem_range];omega,by omega⟩
theorem qhu(n:Nat):(allV n).Pairwise (· < ·):=by rw[allV,pairwise_map];exact pairwise_lt_range.imp (fun h=>by omega)
theorem qhK{n:Nat}:n<=124*needP n:=by
 unfold needP;split;omega
 have:=Nat.div_add_mod (n-1) 124
 have:=Nat.mod_lt (n-1) (show 0<124 by decide)
 omega
theorem qlk{n:Nat}:needP n<=n:=by
 unfold needP;split;omega
 have:=Nat.div_le_self (n-1) 124
 omega
theorem ql2{n:Nat}:ListOk n ((allV n).drop (needP (allV n).length)) ((allV n).take (needP (allV n).length)) where
 rises:=(qhu n).sublist (drop_sublist _ _)
 nums:=fun x u=>qht.1 (yT u)
 pgs:=fun x u=>qht.1 (yU u)
 nodup:=(qbd (qhu n)).sublist (take_sublist _ _)
 apart:=fun x u y=>by have h:=qbd (qhu n);rw[<- xC (needP (allV n).length) (allV n),yL] at h;exact h.2.2 x u x y rfl
 room:=by have A:=qhK (n:=(allV n).length);have z:=qlk (n:=(allV n).length);rw[yB,yK,xN z];omega
theorem qiZ{n:Nat}(u:8<=n)(y:n<=4096):SupOk (fmtSup n) where
 seq:=⟨(by decide:(0:Int)<=1),(by decide:(1:Int)<4611686018427387904)⟩
 len:=rfl
 u32:=fun x h=>by
  simp only[fmtSup,zD,zG,xV,or_false] at h;rcases h with (rfl|rfl|rfl)|h;exact qaW _;exact⟨by decide,by decide⟩;exact qaW _
  have:=eq_of_mem_replicate h
  subst this;exact⟨by decide,by decide⟩
theorem qpx{n:Nat}(h:Quiet D)(hn:D.size=n)(U:8<=n)(V:n<=4096): ∃D',formatM D=(D',0)/\Quiet D'/\D'.size=n/\D'.waits=[]/\Opens D' (fmtSup n) ((allV n).take (needP (allV n).length)) ((allV n).drop (needP (allV n).length))/\view D' 0=zs 512:=by
 have ah:D.safe.length=n:=(by have:(D.safe.length:Int)=n:=hn;omega);obtain⟨D1,e1,q1,s1,v1⟩:=h.write (n:=0) (l:=zs 512) (by omega) (qaI _);obtain⟨D2,e2,q2,s2,v2⟩:=q1.write (n:=1) (l:=zs 512) (by omega) (qaI _);obtain⟨E,e3,q3,s3,w3,v3⟩:=q2.sync;have y:E.size=n:=(by omega);have G:E.safe.length=n:=(by have:(E.safe.length:Int)=n:=y;omega);have u:=ql2 (n:=n);rw[<- y] at u;obtain⟨I,e4,q4,s4,w4,l4,v4⟩:=q3.spread u;have J:I.size=n:=(by omega);have K:I.safe.length=n:=(by have:(I.safe.length:Int)=n:=J;omega);obtain⟨O,e5,q5,s5,w5,p5,R⟩:=q4.sealOk (qiZ U V) (by omega);have z:(fmtSup n).1%2=1:=rfl;rw[z] at p5 R;have A:=u.pgs;have z0:view O 0=zs 512:=(by rw[R 0 (by decide) (by decide),v4 0 (by decide) (fun hm=>by have:=A 0 hm;omega),v3 0 (by decide),v2,if_neg (by decide),v1,if_pos rfl]);refine⟨O,?_,q5,by omega,w5,?_,z0⟩;rw[formatM,e1,andThen_ok,e2,andThen_ok,e3,andThen_ok,G,e4,andThen_ok,K,e5];have az:1<=needP (allV n).length:=by
  have:=qhK (n:=(allV n).length)
  rw[qhs] at this⊢;omega
 refine { down:=q5.down,size:=by omega,newest:=?_,blocks:=?_,list:=?_,free:=?_,ok:=by rw[show O.size=E.size by omega];exact u,listed:=fun i p hp=>?_ };have hr:=(qiZ U V).read;rw[z] at hr;rw[z0,p5,newestV,hr,if_neg (by simp),if_pos (.inl qrn)];show wrap .u32 (n:Int)=_;rw[qa5 _];omega;have:(allV n).take (needP (allV n).length)=2::((allV n).take (needP (allV n).length)).drop 1:=by
  have C:(allV n)[0]?=some 2:=(by rw[qrF (by omega)];rfl);obtain⟨k,hk⟩:∃k,needP (allV n).length=k+1:=⟨needP (allV n).length-1,by omega⟩;rw[hk];cases hA:allV n with
  | nil=>rw[hA] at C;cases C
  | cons a r=>rw[hA] at C;simp at C;subst C;rfl
 rw[this];rfl;show wrap .u32 _=_
 have:=qlk (n:=(allV n).length)
 rw[yB,qa5 _ (by rw[qhs] at *;omega)];omega
 have:=A p (yE hp)
 rw[R p (by omega) (by omega)];exact l4 i p hp
theorem qsU(n:Nat):Quiet (newM n):=⟨rfl,rfl,fun x h=>by cases h⟩
theorem qur(n:Nat):(newM n).size=n:=by show ((List.replicate n Blk.zero).length:Int)=n;simp
theorem qdw(h:newestV a b=(s,0)):(readSV 0 a=(s,0)/\Int.tmod s.1 2=0/\((readSV 1 b).2=0->(readSV 1 b).1.1<=s.1))\/(readSV 1 b=(s,0)/\Int.tmod s.1 2=1/\((readSV 0 a).2=0->(readSV 0 a).1.1<s.1)):=by
 have A:∀(p:Int) (l:List Int),(readSV p l).2=0->Int.tmod (readSV p l).1.1 2=p:=(by intro p l y;unfold readSV at y⊢;split;rename_i h;rw[if_pos h] at y;exact absurd y h;rename_i h;rw[if_neg h] at y;split;rename_i h;rw[if_pos h] at y;cases y;rename_i h;rw[if_neg h] at y;split;rename_i h;rw[if_pos h] at y;cases y;rename_i h;exact Classical.byContradiction h);unfold newestV at h;split at h;cases h;rename_i J;split at h;rename_i u;right;have C:(readSV 1 b).2=0:=by rcases u with u|u;exact Classical.byContradiction fun E=>J ⟨u,E⟩;exact u.1
 have z:(readSV 1 b).1=s:=congrArg Prod.fst h;have G:=A 1 b C;rw[z] at G;refine⟨Prod.ext z C,G,fun I=>?_⟩;rcases u with u|u;exact absurd I u;rw[<- z];exact u.2;rename_i u;left;have C:(readSV 0 a).2=0:=Classical.byContradiction fun E=>u (.inl E);have z:(readSV 0 a).1=s:=congrArg Prod.fst h;have G:=A 0 a C;rw[z] at G;refine⟨Prod.ext z C,G,fun I=>?_⟩;have:¬(readSV 1 b).1.1>(readSV 0 a).1.1:=fun E=>u (.inr ⟨I,E⟩);rw[z] at this;omega
theorem qqC{w':World}{s:Sl}(h:Told w w' s l):∃B,BufU w' s l B/\∀b∈B,w.heap.size<=b:=by rcases h with ⟨rfl,rfl⟩|⟨b,d,T,cap,rfl,z,E,A,C,u,y⟩;exact⟨[],.nil _ _ _,by simp⟩;refine⟨[b],.inr ⟨b,0,u32s d,T,rfl,rfl,rfl,z,rfl,A,by rw[qdi];dsimp only;omega,?_⟩,by simpa using u⟩;rw[xD,xQ,u32s,Array.toList_map,<- xL,C,qfh]
def newestM (D:DiskM):Sup×Int:=
 if (readV D 0).2≠0 then (supZero,(readV D 0).2) else if (readV D 1).2≠0 then (supZero,(readV D 1).2) else newestV (readV D 0).1 (readV D 1).1
theorem qrc(D:DiskM):(newestM D).1.2.length=27:=by unfold newestM;split;rfl;split;rfl;exact qkF _ _
theorem qsl{K:List Value×Int->WP}(h:DiskAt w dbk FD D)(C:D.Ok)(J:Hv w)(G:∀w',Fr [] w w'->K (supV (newestM D).1.1 (newestM D).1.2,(newestM D).2) w'): cW 96 [.pointer (pW dbk)] [.raw,.one .i] w K:=by
 refine qmu ?_;unfold qig;refine oI (oE [] w) qfw fun r w1 e1 y=>qhp (h.frame0 y.fr) C fun s2 B2 w2 O R n2=>?_;have y:=y.frame0 R;apply qaa<;>intro u;have u:(readV D 0).2≠0:=(by simpa using u);refine qe7<|qcI y 0 rfl rfl rfl fun E z=>?_
 have:=G E z
 rw[newestM,if_pos u] at this;exact this;have A:¬(readV D 0).2≠0:=(by simpa using u);refine qhp (h.frame0 y.fr) C fun s3 B3 E U z n3=>?_;have y:=y.frame0 z;apply qaa<;>intro u;have u:(readV D 1).2≠0:=(by simpa using u);refine qe7<|qcI y 0 rfl rfl rfl fun E z=>?_
 have:=G E z
 rw[newestM,if_neg A,if_pos u] at this;exact this;have I:¬(readV D 1).2≠0:=(by simpa using u);have V:=qbW C 0;have i1:=qbW C 1;refine qso ((O.frame0 z).rds qat (S:=[]) (by simp)) (U.rds qat (S:=[]) (by simp)) (J.frame0 y.fr) V.1 i1.1 (by omega) (by omega) fun w4 f4=>qcI (y.frame0 f4) 0 rfl rfl (qkF _ _) fun w5 f5=>?_
 have:=G w5 f5
 rw[newestM,if_neg A,if_neg I] at this;exact this
theorem qp3(D:DiskM):openM D=if (newestM D).2≠0 then (none,(newestM D).2) else if (newestM D).1.2.getD 0 0≠D.safe.length then (none,2) else match loadM D (newestM D).1 with|none=>(none,2)|some x=>(some (begunM (newestM D).1 x.1 x.2 1 false x.2),0):=by unfold openM newestM;by_cases h0:(readV D 0).2≠0;rw[if_pos h0,if_pos h0];exact (if_pos h0).symm;rw[if_neg h0,if_neg h0];by_cases h1:(readV D 1).2≠0;rw[if_pos h1,if_pos h1];exact (if_pos h1).symm;rw[if_neg h1,if_neg h1]<;>rfl
theorem pgZ:(prog.info? PGT).bind (·.zero)=some (.agg (pgRaw none supZero ⟨none,0,0⟩ ⟨none,0,0⟩ 0 false (workV none none none (zs 24)))):=by kernel_rfl
theorem qvo{d:Option Addr}{q:Int}{t:List Int}(h:t.length=27)(w:World): (Instr.build PGT #[(0,.pointer d),(1,.agg (supV q t).toArray)]).run prog w=.ok (.agg (pgRaw d (q,t) ⟨none,0,0⟩ ⟨none,0,0⟩ 0 false (workV none none none (zs 24)))) w:=by
 refine qc8 (parts:=[(0,.pointer d),(1,.agg (supV q t).toArray)]) (offs:=#[(0,1),(1,28),(29,1),(30,1),(31,1),(32,1),(33,27)]) pgZ (by kernel_rfl) (fun w=>by kernel_rfl) ?_ w;have u:(Value.agg (supV q t).toArray).cells.size=28:=qgl h;rw[qaD (o:=0) (s:=1) rfl rfl (zO rfl),qaD (o:=1) (s:=28) rfl u (zO rfl)];show some _=_;congr 1;have y:splice (Value.agg (pgRaw none supZero ⟨none,0,0⟩ ⟨none,0,0⟩ 0 false (workV none none none (zs 24)))).cells 0 (Value.pointer d).cells.toList=pgRaw d supZero ⟨none,0,0⟩ ⟨none,0,0⟩ 0 false (workV none none none (zs 24)):=rfl;rw[y]
 have:=qa8 (A:=[Value.pointer d]) (X:=supV 0 (zs 27)) (Y:=supV q t) (Z:=[.slice none 0 0,.slice none 0 0,.i 0,.bool false]++workV none none none (zs 24)) (by rw[qaG h];rfl)
 refine Eq.trans ?_ (this.trans ?_);show splice (pgRaw d supZero ⟨none,0,0⟩ ⟨none,0,0⟩ 0 false (workV none none none (zs 24))) 1 (supV q t)=_;congr 1;simp[pgRaw]
theorem qmB(place:Int)(l:List Int):∀x∈(readSV place l).1.2,U32 x:=by
 have h:∀x∈supZero.2,U32 x:=fun x u=>by
  have:=eq_of_mem_replicate (show x∈List.replicate 27 (0:Int) from u)
  subst this;exact⟨by decide,by decide⟩
 unfold readSV;split;exact h;split;exact h;split;exact h;intro x u;obtain⟨i,_,rfl⟩:=mem_map.1 u;exact qiV
theorem qrd(D:DiskM):∀x∈(newestM D).1.2,U32 x:=by
 have h:∀x∈supZero.2,U32 x:=fun x u=>by
  have:=eq_of_mem_replicate (show x∈List.replicate 27 (0:Int) from u)
  subst this;exact⟨by decide,by decide⟩
 unfold newestM;split;exact h;split;exact h;unfold newestV;split;exact h;split;exact qmB _ _;exact qmB _ _
theorem qpz(h:∀x∈l,U32 x)(n:Nat):U32 (l.getD n 0):=by
 rw[yQ];cases u:l[n]? with
 | none=>exact⟨by decide,by decide⟩
 | some x=>exact h x (yE u)
theorem qiI{K:Option Addr×Int->WP}(X:List Nat)(ap:∀b∈X,b<w.heap.size)(h:DiskAt w dbk FD D)(hD:D.Ok)(hv:Hv w)(ai:(openM D).1=none->∀w',Fr [] w w'->K (none,(openM D).2) w')(hk:∀pb F M w',openM D=(some M,0)->PagerAt w' X pb (pW dbk) F M->Fr [] w w'->(∀b∈F,w.heap.size<=b)->K (pW pb,0) w'): cW 56 [.pointer (pW dbk)] [.one .ptr,.one .i] w K:=by
 refine qoE ?_;unfold qkN;refine qsl h hD hv fun w1 f1=>?_;have I:=qrc D;have hu:=qpz (qrd D);have z:=qp3 D;generalize hs:newestM D=sm at I hu z;obtain⟨sup,e⟩:=sm;simp only at I hu z;refine oI ((oE [] w).frame0 f1) qfw fun r w2 e2 ho=>qg7 ho 0 rfl rfl I fun w3 ho=>?_;apply qaa<;>intro J;have J:e≠0:=(by simpa using J);rw[if_pos J] at z
 have:=ai (by rw[z]) w3 ho.fr
 rw[z] at this;exact this;have au:¬e≠0:=(by simpa using J);rw[if_neg au] at z;refine qeT (ho.at (i:=0) rfl) I<|qaQ (ts:=[Ty1.raw]) (pgRaw (pW dbk) (sup.1,sup.2) ⟨none,0,0⟩ ⟨none,0,0⟩ 0 false (workV none none none (zs 24))).toList (qvo I w3)<|oB ho fun pb O e4 f4 ag=>?_;have G:=ag.fr;have aj:=h.frame0 G;have ak:∀b∈FD,b<O.heap.size/\b≠pb:=fun b A=>by
  have h1:=h.lt b A
  have:=G.size
  have:=ho.fr.size
  constructor<;>omega
 have ah:∀b∈X,b<O.heap.size/\b≠pb:=fun b A=>by
  have h1:=ap b A
  have:=G.size
  have:=ho.fr.size
  constructor<;>omega
 have aw:=hD.safe;have R:O.heap[pb]?=some (.cells (pgRaw (pW dbk) sup ⟨none,0,0⟩ ⟨none,0,0⟩ 0 false (workV none none none (zs 24))) PGT (0,0)):=ag.at (i:=0) rfl;have ae:O.heap[r]?=some (.cells (supV sup.1 sup.2).toArray 121 (0,0)):=ag.at (i:=1) rfl;have aa:w.heap.size<=pb:=(by have:=ho.fr.size;omega);have ax:pb≠HG:=(by have:=hv.lt;omega);refine qaf (fun b w'=>(b=true/\(openM D).1=none/\(openM D).2=2/\Fr [] w w')\/(b=false/\∃sl sn C named,openM D=(some (begunM sup C named 1 false named),0)/\Own [pb] O w' [(pb,.cells (pgRaw (pW dbk) sup sl sn 0 false (workV none none none (zs 24))) PGT (0,0))]/\Rd (X++[pb]) w' sl C/\Rd (X++[pb]) w' sn named/\named.Pairwise (· < ·)/\named.length<=100000)) ?_ ?_;refine qai (w:=O.drew) (c:=.u) ae (sup.2.getD 0 0) (qhg 0)<|qiF (aj.frame0 (Fr.refl [] O).drew)<|qaj (by show _=_;rw[qag (w:=O.drew) ae];exact qhg 0) ?_;rw[qa5 (D.safe.length:Int)];apply qaa<;>intro J;have J:sup.2.getD 0 0≠(D.safe.length:Int):=by intro h;rw[h] at J;simp at J
 rw[if_pos J] at z;exact .inl ⟨rfl,by rw[z],by rw[z],G.drew⟩;have J:sup.2.getD 0 0=(D.safe.length:Int):=by by_cases h:sup.2.getD 0 0=(D.safe.length:Int);exact h;rw[show ((sup.2.getD 0 0==(D.safe.length:Int))=false) by rw[zR];exact h] at J;cases J
 rw[if_neg (by rw[J];simp)] at z;have ab:Fr [] O O.drew:=(Fr.refl [] O).drew;refine qva (pb:=pb) (D:=D) (sup:=sup) (FD:=FD) (w:=O.drew) R I (qav (by rfl)) (aj.frame0 ab) hD ((hv.frame0 G).frame0 ab) (fun A=>(ak pb A).2 rfl) ax (by omega) (hu 1) (hu 2) (fun hl w5 f5=>?_) (fun sl sn C named w5 hl E al=>?_);rw[hl] at z;refine .inl ⟨rfl,by rw[z],by rw[z],(G.trans ab).trans' f5 fun b A=>by simp at A;subst A;exact .inr aa⟩;rw[hl] at z;have U:namedB (sup.2.getD 0 0) C 0 named=true:=by unfold loadM at hl;split at hl;cases hl;rename_i x hx;split at hl;rename_i hh;cases hl;exact hh.1;cases hl
 have U:=(qhJ _ _ _ _).1 U;have V:named.length<=100000:=by
  have:=qct (n:=sup.2.getD 0 0+1) (l:=named.map (·+1)) (by
   rw[List.Nodup,pairwise_map];exact U.2.imp (fun h=>by omega)) (fun x hx=>by
   obtain⟨y,hy,rfl⟩:=mem_map.1 hx
   have:=U.1 y hy
   omega)
  rcases this with h|h;rw[zK] at h;omega
  have:=congrArg List.length h;simp at this;simp[this]
 have af:∀b∈X++[pb],b<O.drew.heap.size:=fun b A=>by rcases zD.1 A with A|A;exact (ah b A).1;rw[zE.1 A];exact qab R
 refine .inr ⟨rfl,sl,sn,C,named,z,⟨E.blk,E.nodup,(ab.mono (fun b A=>by cases A)).trans E.fr,E.own⟩,(al _ af).1,(al _ af).2,U.2,V⟩;rintro b w5 (⟨rfl,h1,h2,f5⟩|⟨rfl,sl,sn,C,named,az,E,r1,r2,hp,V⟩);refine cond_true rfl ?_
 have:=ai h1 w5 f5
 rw[h2] at this;exact this;refine cond_false rfl ?_;have hX:∀b∈X,b<w5.heap.size/\b≠pb:=fun b A=>⟨yC (ah b A).1 E.fr.size,(ah b A).2⟩;refine qfO (X:=X) (E.at (i:=0) rfl) I (qav (by rfl)) (by decide) hX r1 r2 V fun F w6 am f6 n6=>?_;rw[qi2 hp] at am;refine hk pb F _ w6 az am ((G.trans' E.fr fun b A=>by simp at A;subst A;exact .inr aa).trans' f6 fun b A=>by simp at A;subst A;exact .inr aa) fun b A=>?_;rcases n6 b A with h|h;rw[h];exact aa;exact zL (zL G.size E.fr.size) h
structure Lim (D:DiskM) (k:Nat):Prop where
 ok:D.Ok
 waits:D.waits.length<=k
 writes:D.writes<=k
theorem qrE(h:D.Ok):(actM D).1.Ok/\(actM D).1.writes=D.writes:=by have u:=h.fuse;unfold actM;split;exact⟨⟨h.at_,u,h.safe,h.waits,h.writes,h.bytesS,h.bytesW⟩,rfl⟩;split;exact⟨⟨h.at_,⟨by show -1<=D.fuse-1;omega,by show D.fuse-1<=_;omega⟩,h.safe,h.waits,h.writes,h.bytesS,h.bytesW⟩,rfl⟩;exact⟨h,rfl⟩
theorem Lim.mono{k':Nat}(h:Lim D k)(u:k<=k'):Lim D k':=⟨h.ok,zL h.waits u,by have:=h.writes;omega⟩
theorem Lim.write(h:Lim D k)(G:k<1000000)(z:IsB l):Lim (writeM D n l).1 (k+1):=by
 unfold writeM;split;exact h.mono (by omega);split;exact h.mono (by omega);split;rename_i I J y;have A:(addW D n ⟨l,y⟩).Ok:={
  at_:=fun x u=>by rcases zD.1 u with u|u;exact h.ok.at_ x u;simp at u;subst u;show 0<=n/\n<(D.safe.length:Int);omega
  fuse:=h.ok.fuse
  safe:=h.ok.safe
  waits:=by show (D.waits++[_]).length<=_;have:=h.waits;simp;omega
  writes:=⟨by show 0<=D.writes+1;have:=h.ok.writes;omega,by show D.writes+1<=_;have:=h.writes;omega⟩
  bytesS:=h.ok.bytesS
  bytesW:=fun x u=>by rcases zD.1 u with u|u;exact h.ok.bytesW x u;simp at u;subst u;exact z }
 obtain⟨C,E⟩:=qrE A;refine⟨C,?_,?_⟩;show (actM (addW D n ⟨l,y⟩)).1.waits.length<=k+1;rw[(qbU _).2];show (D.waits++[_]).length<=_
 have:=h.waits
 simp;omega;show (actM (addW D n ⟨l,y⟩)).1.writes<=((k+1:Nat):Int);rw[E];show D.writes+1<=_
 have:=h.writes
 omega;exact h.mono (by omega)
theorem qr4:∀(l:List (Int×Blk)) (s:List Blk),(∀x∈l,IsB x.2.1)->(∀b∈s,IsB b.1)->∀b∈l.foldl laySafe s,IsB b.1
 | [],s,_,h=>h
 | x::l,s,z,h=>qr4 l (laySafe s x) (fun y A=>z y (zN _ A)) fun b u=>by rcases mem_or_eq_of_mem_set u with u|rfl;exact h b u;exact z x (by simp)
theorem Lim.sync(h:Lim D k):Lim (syncM D).1 k:=by obtain⟨u,z⟩:=qrE h.ok;unfold syncM;split;exact h;split;exact⟨u,by show (actM D).1.waits.length<=k;rw[(qbU D).2];exact h.waits,by show (actM D).1.writes<=_;rw[z];exact h.writes⟩;refine⟨⟨(fun x y=>by cases y),u.fuse,?_,by simp,u.writes,?_,(fun x y=>by cases y)⟩,by simp,by show (actM D).1.writes<=_;rw[z];exact h.writes⟩;show (D.waits.foldl laySafe D.safe).length<=4096;rw[qcF];exact h.ok.safe;exact qr4 _ _ h.ok.bytesW h.ok.bytesS
theorem Lim.then{k':Nat}(h:Lim r.1 k)(u:k<=k')(y:∀D,Lim D k->Lim (f D).1 k'):Lim (andThen r f).1 k':=by unfold andThen;split;exact y _ h;exact h.mono u
theorem Lim.writes':∀ {l:List (Int×List Int)} {D:DiskM} {k:Nat},Lim D k->k+l.length<=1000000->(∀x∈l,IsB x.2)->Lim (writesM l D).1 (k+l.length)
 | [],D,k,h,_,_=>h
 | x::l,D,k,h,z,u=>by
  rw[yH] at z⊢;refine Lim.then (k:=k+1) (h.write (by omega) (u x (by simp))) (by omega) fun D' A=>?_
  have:=Lim.writes' (l:=l) A (by omega) (fun y C=>u y (zN _ C))
  rw[Nat.add_right_comm] at this;exact this
theorem qdB:(writeM D n l).1.safe.length=D.safe.length:=by unfold writeM;split;rfl;split;rfl;split;show (actM _).1.safe.length=_;rw[(qbU _).1];rfl;rfl
theorem qjq:(syncM D).1.safe.length=D.safe.length:=by unfold syncM;split;rfl;split;show (actM _).1.safe.length=_;rw[(qbU _).1];show (D.waits.foldl laySafe D.safe).length=_;rw[qcF]
theorem qel{n:Nat}(h:r.1.safe.length=n)(u:∀D:DiskM,D.safe.length=n->(f D).1.safe.length=n):(andThen r f).1.safe.length=n:=by unfold andThen;split;exact u _ h;exact h
theorem qd0:∀ {l:List (Int×List Int)} {D:DiskM},(writesM l D).1.safe.length=D.safe.length
 | [],D=>rfl
 | x::l,D=>qel qdB fun D' h=>by rw[qd0,h]
theorem qgD:(spreadM D a b).1.safe.length=D.safe.length:=by unfold spreadM;split;rfl;exact qel qd0 fun D' h=>by rw[qjq,h]
theorem quR:(sealM D s).1.safe.length=D.safe.length:=qel qdB fun D' h=>by rw[qjq,h]
theorem qrr:∀x∈(pages.zip (bodiesV numbers pages).1).map fun x=>(x.1,sealV x.1 2 x.2),IsB x.2:=by intro x u;obtain⟨y,h,rfl⟩:=mem_map.1 u;refine qc9 (by decide) ?_;have h:=(of_mem_zip h).2;unfold bodiesV at h;split at h;cases h;split at h;cases h;obtain⟨i,_,z⟩:=mem_map.1 h;rw[<- z];exact qnA _ _
theorem qmU{α β:Type}(a:List α)(b:List β):(a.zip b).length<=a.length:=by rw[length_zip];exact Nat.min_le_left _ _
theorem Lim.spread(h:Lim D k)(z:k+pages.length<=1000000):Lim (spreadM D numbers pages).1 (k+pages.length):=by
 unfold spreadM;split;exact h.mono (by omega);have u:=qmU pages (bodiesV numbers pages).1;refine Lim.then (k:=k+pages.length) ?_ (zM _) fun D' y=>y.sync
 refine (Lim.writes' h (by rw[zK];omega) qrr).mono ?_;rw[zK];omega
theorem qmM(s:Sup):IsB (superP s).2:=qc9 (by decide) (qtn _ _)
theorem Lim.sealOk(h:Lim D k)(u:k<1000000):Lim (sealM D s).1 (k+1):=
 Lim.then (h.write u (qmM s)) (zM _) fun D' y=>y.sync
theorem qoN{numbers pages:List Int}{i:Nat}{h:List (List Int)}(u:i<pages.length)(y:i<h.length):(pages.zip h).drop i=(pages[i],h[i])::(pages.zip h).drop (i+1):=by rw[zX (by rw[length_zip];omega)];simp
theorem qsm{sp:Sl}(h:DiskAt w dbk FD D)(hD:Lim D k)(aR:k+pages.length<=1000000)(hv:Hv w)(hg:HG∉FD)(hn:Rd FD w sn numbers)(hp:Rd FD w sp pages)(aw:numbers.length<=100000)(ax:pages.length<=100000)(ay:∀x∈pages,U32 x)(hk:∀F' w',DiskAt w' dbk F' (spreadM D numbers pages).1->Fr FD w w'->(∀b∈F',b∈FD\/w.heap.size<=b)->K (spreadM D numbers pages).2 w'): cW 102 [.pointer (pW dbk),sn.v,sp.v] [.one .i] w K:=by
 refine qmv ?_;unfold qih;refine qsh (G:=FD) hn hp aw ax h.lt fun s1 B1 w1 b1 f1 n1=>?_;apply qaa<;>intro z;have z:(bodiesV numbers pages).2≠0:=by simpa using z
 have:=hk FD w1 (by rw[spreadM,if_pos z];exact h.frame0 f1) (f1.mono fun b u=>by cases u) (fun b u=>.inl u)
 rw[spreadM,if_pos z] at this;exact this;have C:¬(bodiesV numbers pages).2≠0:=(by simpa using z);rw[spreadM,if_neg C] at hk;have J:(bodiesV numbers pages).1.length=pages.length/\∀b∈(bodiesV numbers pages).1,b.length<=500/\IsB b:=by
  unfold bodiesV at C⊢;split;rename_i h1;rw[if_pos h1] at C;exact absurd (by decide) C;rename_i h1;rw[if_neg h1] at C;split;rename_i h1;rw[if_pos h1] at C;exact absurd (by decide) C;refine⟨qgt _ _ _,fun b u=>?_⟩;obtain⟨i,_,rfl⟩:=mem_map.1 u;rw[qd8]
  have:=qfR numbers i
  unfold chunk at this;exact⟨by omega,qnA _ _⟩
 generalize (bodiesV numbers pages).1=A at hk J b1;obtain⟨I,q1,q2,q3⟩:=b1;have aX:=q1.len;have aN:=J.1;have aY:=hp.1;refine qah (fun x w'=>∃(i j:Nat) (F':List Nat) (D':DiskM),x=i/\i<=pages.length/\DiskAt w' dbk F' D'/\Lim D' (k+i)/\Fr FD w w'/\Fr FD w1 w'/\(∀b∈F',b∈FD\/w1.heap.size<=b)/\
   andThen (writesM ((pages.zip A).map fun x=>(x.1,sealV x.1 2 x.2)) D) syncM=andThen (writesM (((pages.zip A).drop i).map fun x=>(x.1,sealV x.1 2 x.2)) D') syncM) (fun x _=>((pages.length:Int)-x).toNat)
  ⟨0,0,FD,D,rfl,by omega,h.frame0 f1,hD,f1.mono (fun b u=>by cases u),.refl _ _,fun b u=>.inl u,rfl⟩ ?_
 rintro x w2 ⟨i,j,F',D',rfl,hi,ah,ac,f2,O,n2,he⟩ X hX;have az:=hv.frame f2 hg;have a0:=f1.size;apply qaa<;>intro z;have R:i<pages.length:=(by have:=zC z;dsimp only at this;omega);have U:i<A.length:=(by omega);have aj:i<I.length:=(by omega);have aA:Rds encS 1 FD w1 s1 I:=q1.rds qpm (fun b u hm=>by have:=h.lt b hm;have:=n1 b u;omega);have ak:Rds encS 1 FD w2 s1 I:=aA.frame O (fun b u=>.inl u);have al:Rd FD w2 sp pages:=hp.frame f2 (fun b u=>.inl u);refine Rds.get (y:=I[i]) ak i rfl (zA aj) rfl<|Rd.at al i rfl (zA R) ?_;have am:RdB FD w1 I[i] A[i]:=(q3 i _ _ (zA aj) (zA U)).weak fun b u=>.inl (zH _ u);have ad:RdB FD w2 I[i] A[i]:=am.frame O (fun b u=>.inl u);have aB:=(J.2 _ (zW U)).1;have a2:=ay _ (zW R);refine qnk ad az (by omega) (fun h=>by omega) fun _ b3 T3 w3 c3 f3 n3=>Rd.at (al.frame0 f3) i rfl (zA R) ?_;rw[wi' pages[i] (by omega)];have V:=qbz (number:=pages[i]) (kind:=2) aB;refine qnv (S:=[]) (ah.frame0 f3) ac.ok (qg8 (o:=0) (n:=512) c3 (by rw[V];exact zM _) (zM _)) fun F4 w4 d4 f4 n4=>?_;rw[xD,zS (by rw[V];exact zM _)] at d4⊢;have E:∀b∈F',b∈FD\/w.heap.size<=b:=fun b u=>by rcases n2 b u with h|h;exact .inl h;exact .inr (by omega)
 have a5:w2.heap.size<=w3.heap.size:=f3.size;have a6:=O.size;have an:Fr FD w w4:=(f2.trans' f3 (by simp)).trans' f4 E;have aG:Fr FD w1 w4:=(O.trans' f3 (by simp)).trans' f4 n2;have ao:∀b∈F4,b∈FD\/w1.heap.size<=b:=fun b u=>by rcases n4 b u with h|h;exact n2 b h;exact .inr (by omega)
 rw[qoN R U (numbers:=numbers),xK,writesM] at he;apply qaa<;>intro z;have z:(writeM D' pages[i] (sealV pages[i] 2 A[i])).2≠0:=(by simpa using z);have aH:andThen (writesM ((pages.zip A).map fun x=>(x.1,sealV x.1 2 x.2)) D) syncM=writeM D' pages[i] (sealV pages[i] 2 A[i]):=by rw[he];show andThen (andThen (writeM D' pages[i] (sealV pages[i] 2 A[i])) _) syncM=_;rw[show ∀f,andThen (writeM D' pages[i] (sealV pages[i] 2 A[i])) f=writeM D' pages[i] (sealV pages[i] 2 A[i]) from fun f=>if_neg z];exact if_neg z
 rw[aH] at hk;exact hk F4 w4 d4 an (fun b u=>by rcases ao b u with h|h;exact .inl h;exact .inr (by omega));have z:(writeM D' pages[i] (sealV pages[i] 2 A[i])).2=0:=(by simpa using z);rw[wi' _ (by omega)];refine hX _ _ ⟨i+1,0,F4,(writeM D' pages[i] (sealV pages[i] 2 A[i])).1,by simp,by omega,d4,?_,an,aG,ao,?_⟩ (by omega)
 have:=ac.write (n:=pages[i]) (l:=sealV pages[i] 2 A[i]) (by omega) (qc9 (by decide) (J.2 _ (zW U)).2)
 rw[Nat.add_assoc] at this;exact this;rw[he];show andThen (andThen (writeM D' pages[i] (sealV pages[i] 2 A[i])) _) syncM=_;rw[show ∀f,andThen (writeM D' pages[i] (sealV pages[i] 2 A[i])) f=f (writeM D' pages[i] (sealV pages[i] 2 A[i])).1 from fun f=>if_pos z];have:i=pages.length:=(by have:=zB z;dsimp only at this;omega);subst this;have aI:(pages.zip A).drop pages.length=[]:=xZ (qmU _ _);rw[aI] at he;have aJ:andThen (writesM ((pages.zip A).map fun x=>(x.1,sealV x.1 2 x.2)) D) syncM=syncM D':=he;rw[aJ] at hk;refine qoU ah ac.ok fun F3 w3 d3 f3 n3=>?_;have E:∀b∈F',b∈FD\/w.heap.size<=b:=fun b u=>by rcases n2 b u with h|h;exact .inl h;exact .inr (by omega)
 exact hk F3 w3 d3 (f2.trans' f3 E) fun b u=>E b (n3 b u)
section
structure DS (dbk:Nat) (w:World) (FD:List Nat) (w':World) (F':List Nat) (D':DiskM) (k:Nat):Prop where
 at_:DiskAt w' dbk F' D'
 lim:Lim D' k
 fr:Fr FD w w'
 nw:∀ b∈F',b∈FD\/w.heap.size<=b
variable {dbk:Nat}
theorem DS.refl{w:World}{FD:List Nat}{D:DiskM}{k:Nat}(h:DiskAt w dbk FD D)(u:Lim D k):DS dbk w FD w FD D k:=⟨h,u,.refl _ _,fun b y=>.inl y⟩
theorem DS.trans{y z:World}{F2:List Nat}{D2:DiskM}{A k2:Nat}(h:DS dbk w FD y F1 D1 A)(g:DS dbk y F1 z F2 D2 k2):DS dbk w FD z F2 D2 k2:=
 ⟨g.at_,g.lim,h.fr.trans' g.fr h.nw,fun b C=>by rcases g.nw b C with u|u;exact h.nw b u;exact .inr (zL h.fr.size u)⟩
theorem DS.frame0{w u y:World}{FD F1:List Nat}{D1:DiskM}{z:Nat}(h:DS dbk w FD u F1 D1 z)(f:Fr [] u y):DS dbk w FD y F1 D1 z:=
 ⟨h.at_.frame0 f,h.lim,h.fr.trans' f (by simp),h.nw⟩
theorem DS.hv{C:Nat}(h:DS dbk w FD u F1 D1 C)(y:Hv w)(z:HG∉FD):Hv u/\HG∉F1:=
 ⟨y.frame h.fr z,fun E=>by
  rcases h.nw _ E with A|A;exact z A
  have:=y.lt;omega⟩
theorem DS.rd{y:Nat}{s:Sl}(h:DS dbk w FD u F1 D1 y)(z:Rd FD w s l):Rd F1 u s l:=z.frame h.fr h.nw
theorem DS.lims{y k2:Nat}(h:DS dbk w FD u F1 D1 y)(z:y<=k2):DS dbk w FD u F1 D1 k2:=⟨h.at_,h.lim.mono z,h.fr,h.nw⟩
theorem qfN{s:Sl}(h:DS dbk w FD u F1 D k)(E:k<1000000)(G:RdB S u s l)(I:IsB l)(J:∀y z,DS dbk w FD y z (writeM D n l).1 (k+1)->Fr F1 u y->(∀b∈z,b∈F1\/u.heap.size<=b)->K (writeM D n l).2 y): cW 99 [.pointer (pW dbk),.i n,s.v] [.one .i] u K:=by exact qnv h.at_ h.lim.ok G fun z y O A C=>J y z (h.trans ⟨O,h.lim.write E I,A,C⟩) A C
theorem qoT{y:World}(h:DS dbk w FD y F1 D k)(G:∀u z,DS dbk w FD u z (syncM D).1 k->Fr F1 y u->(∀b∈z,b∈F1\/y.heap.size<=b)->K (syncM D).2 u): cW 100 [.pointer (pW dbk)] [.one .i] y K:=by exact qoU h.at_ h.lim.ok fun z u I C E=>G u z (h.trans ⟨I,h.lim.sync,C,fun b A=>.inl (E b A)⟩) C (fun b A=>.inl (E b A))
theorem qo1{z:World}(h:DS dbk w FD z F1 D k)(hk:k<1000000)(hv:Hv z)(O:s.2.length=27)(hq:0<=s.1)(E:∀G V,DS dbk w FD G V (sealM D s).1 (k+1)->Fr F1 z G->(∀b∈V,b∈F1\/z.heap.size<=b)->K (sealM D s).2 G): cW 103 [.pointer (pW dbk),.agg (supV s.1 s.2).toArray] [.one .i] z K:=by
 refine qoF ?_;unfold qkO;refine oB (oE [] z) fun r G e2 f2 I=>?_;have c0:(supV s.1 s.2).toArray[0]?=some (.int .u64 s.1):=rfl;refine oA I.drew 0 rfl s.1 c0<|qeT (I.drew.at (i:=0) rfl) O<|qtA (hv.frame0 I.drew.fr) O fun b T w3 c3 f3 n3=>?_;have u:=I.drew.frame0 f3;refine qaj (u.cell 0 rfl c0) ?_;have ht:=Int.tmod_eq_emod_of_nonneg (b:=2) hq;rw[wi' (Int.tmod s.1 2) (by omega)];have y:(sealV (wrap .u32 (Int.tmod s.1 2)) 1 (superB s.1 s.2)).length=512:=qbz (by rw[qcy O];decide);have R:RdB [] w3 ⟨pW b,512,512⟩ (superP s).2:=by
  have:=qg8 (S:=[]) (o:=0) (n:=512) (cap:=512) c3 (by rw[y];exact zM _) (zM _)
  rw[xD,zS (Nat.le_of_eq y)] at this;exact this
 show cW 99 [.pointer (pW dbk),.i (superP s).1,_] _ _ _;refine qfN (h.frame0 u.fr) hk R (qmM s) fun w4 F4 J f4 n4=>?_;have am:=u.fr.size;apply qaa<;>intro A;have A:(writeM D (superP s).1 (superP s).2).2≠0:=(by simpa using A);have e:sealM D s=writeM D (superP s).1 (superP s).2:=if_neg A;rw[e] at E;exact E w4 F4 J ((u.fr.mono fun b C=>by cases C).trans f4) fun b C=>by rcases n4 b C with h|h;exact .inl h;exact .inr (by omega)
 have A:(writeM D (superP s).1 (superP s).2).2=0:=(by simpa using A);have e:sealM D s=syncM (writeM D (superP s).1 (superP s).2).1:=if_pos A;rw[e] at E;refine qoT J fun w5 F5 U f5 n5=>?_;have g4:DS dbk z F1 w4 F4 (writeM D (superP s).1 (superP s).2).1 (k+1):=⟨J.at_,J.lim,(u.fr.mono (T:=F1) fun b C=>by cases C).trans f4,fun b C=>by rcases n4 b C with h|h;exact .inl h;exact .inr (by omega)⟩;have g5:=g4.trans ⟨U.at_,U.lim,f5,n5⟩;exact E w5 F5 U g5.fr g5.nw
theorem qlK{I:Sl}(h:DS dbk w FD u F1 D k)(y:k+pages.length<=1000000)(R:Hv u)(U:HG∉F1)(V:Rd F1 u sn numbers)(hp:Rd F1 u I pages)(C:numbers.length<=100000)(E:pages.length<=100000)(G:∀x∈pages,U32 x)(kk:∀z A,DS dbk w FD z A (spreadM D numbers pages).1 (k+pages.length)->Fr F1 u z->(∀b∈A,b∈F1\/u.heap.size<=b)->K (spreadM D numbers pages).2 z): cW 102 [.pointer (pW dbk),sn.v,I.v] [.one .i] u K:=by exact qsm h.at_ h.lim y R U V hp C E G fun A z d2 J O=>kk z A (h.trans ⟨d2,h.lim.spread y,J,O⟩) J O
theorem qh6(a:DiskM×Int)(f g:DiskM->DiskM×Int):andThen (andThen a f) g=andThen a fun D=>andThen (f D) g:=by unfold andThen;by_cases h:a.2=0;rw[if_pos h,if_pos h];rw[if_neg h,if_neg h,if_neg h]
theorem qb3{a:DiskM×Int}(h:a.2≠0):andThen a f=a:=if_neg h
theorem qcq{a:DiskM×Int}(h:a.2=0):andThen a f=f a.1:=if_pos h
theorem qsu{a b c:Int}(w:World):(Instr.build 121 #[(0,.int .u64 1),(1,.u a),(2,.u b),(3,.u c)]).run prog w=.ok (.agg (supV 1 ([a,b,c]++zs 24)).toArray) w:=by obtain⟨z,A,h⟩:=yS.1 qfw;have y:z.cells=(supV 0 (zs 27)).toArray:=(by rw[<- h]);refine qc8 (parts:=[(0,.int .u64 1),(1,.u a),(2,.u b),(3,.u c)]) (offs:=#[(0,1),(1,1),(2,1),(3,1),(4,24)]) A (by kernel_rfl) (fun w=>by kernel_rfl) ?_ w;rw[y,qaD (o:=0) (s:=1) rfl rfl (zO rfl),qaD (o:=1) (s:=1) rfl rfl (zO rfl),qaD (o:=2) (s:=1) rfl rfl (zO rfl),qaD (o:=3) (s:=1) rfl rfl (zO rfl)];rfl
theorem qsk(h:DiskAt w dbk FD D)(hl:Lim D k)(hk:k<=900000)(h8:2<=D.safe.length)(hv:Hv w)(hg:HG∉FD)(y:∀w' F',DS dbk w FD w' F' (formatM D).1 (k+5000)->K (formatM D).2 w'): cW 58 [.pointer (pW dbk)] [.one .i] w K:=by
 refine qmt ?_;unfold qif;have ag:=hl.ok.safe;have h0:=DS.refl h hl;have A:(zs 512).length=512:=qaI _;have I:∀ {S0:List Nat} {w0 w':World} {L:List (Nat×Obj)} {b:Nat} {T:TypeId},Own S0 w0 w' ((b,.cells (List.replicate (512:Int).toNat (Value.int .u8 0)).toArray T (0,0))::L)->RdB [] w' ⟨pW b,(512:Int).toNat,(512:Int).toNat⟩ (zs 512):=fun ho=>by
  have z:=ho.at (i:=0) rfl;rw[qqL] at z
  have:=qg8 (S:=[]) (o:=0) (n:=512) (cap:=512) z (by rw[show (512:Int).toNat=512 from rfl,A];exact zM _) (zM _)
  rw[xD,zS (by rw[show (512:Int).toNat=512 from rfl,A];exact zM _)] at this;exact this
 refine qc3 fun X hX=>cond_true rfl<|Own.mk1 (oE [] w) (by decide) (by decide) (by decide) (by decide) fun b1 w1 e1 J=>qfN (h0.frame0 J.fr) (by omega) (I J) (IsB.zs 512) fun w2 F2 d2 f2 n2=>?_;apply qaa<;>intro u;have u:(writeM D 0 (zs 512)).2≠0:=(by simpa using u);have e:formatM D=writeM D 0 (zs 512):=qb3 u;rw[e] at y;exact y w2 F2 (d2.lims (by omega));have ai:(writeM D 0 (zs 512)).2=0:=(by simpa using u);rw[formatM,qcq ai] at y;have aj:=qdB (D:=D) (n:=0) (l:=zs 512);generalize (writeM D 0 (zs 512)).1=D2 at d2 y aj;rw[wi' (0+1) (by decide)];refine hX _ _ (qnY 1 rfl fun X hX=>?_);refine cond_true rfl<|Own.mk1 (oE [] w2) (by decide) (by decide) (by decide) (by decide) fun b3 w3 e3 O=>qfN (d2.frame0 O.fr) (by omega) (I O) (IsB.zs 512) fun w4 F4 d4 f4 n4=>?_;apply qaa<;>intro u;have u:(writeM D2 1 (zs 512)).2≠0:=(by simpa using u);rw[qb3 u] at y;exact y w4 F4 (d4.lims (by omega));have am:(writeM D2 1 (zs 512)).2=0:=(by simpa using u);rw[qcq am] at y;have an:=qdB (D:=D2) (n:=1) (l:=zs 512);generalize (writeM D2 1 (zs 512)).1=D4 at d4 y an;rw[wi' (1+1) (by decide)];refine hX _ _ (qnY 2 rfl fun X hX=>?_);refine cond_false rfl<|qoT d4 fun w5 F5 R f5 n5=>?_;apply qaa<;>intro u;have u:(syncM D4).2≠0:=(by simpa using u);rw[qb3 u] at y;exact y w5 F5 (R.lims (by omega));have aq:(syncM D4).2=0:=(by simpa using u);rw[qcq aq] at y;have ar:=qjq (D:=D4);generalize (syncM D4).1=U at R y ar;have au:U.safe.length=D.safe.length:=(by omega);have al:=qhs D.safe.length;obtain⟨av,aw⟩:=R.hv hv hg;refine qah (fun x w'=>∃(i:Nat) (B:List Nat),x.2=((i+2:Nat):Int)/\i<=D.safe.length-2/\BufU w' x.1 ((allV D.safe.length).take i) B/\Fr [] w5 w'/\∀b∈B,w5.heap.size<=b) (fun x _=>((D.safe.length:Int)-x.2).toNat)
  ⟨0,[],rfl,by omega,.nil _ _ _,.refl _ _,by simp⟩ ?_
 rintro⟨s,x⟩ w6 ⟨i,B,hx,hi,z,f6,n6⟩ Y hY;simp only at hx z;subst hx;have d6:=R.frame0 f6;refine qiF d6.at_ ?_;dsimp only;apply qaa<;>intro u;have ay:i<D.safe.length-2:=(by have:=zC u;omega);rw[qa5 ((i+2:Nat):Int)];refine qs0 z (by rw[yK];omega) fun s7 B7 w7 b7 f7 n7=>?_;rw[wi' _ (by omega)];refine hY _ _ ⟨i+1,B7,by simp;omega,by omega,?_,f6.trans' f7 (fun b z=>.inr (n6 b z)),fun b z=>?_⟩ (by dsimp only;omega);have e:(allV D.safe.length).take (i+1)=(allV D.safe.length).take i++[((i+2:Nat):Int)]:=by rw[yF (by omega)];congr 2;have h1:=qrF ay;have h2:=zA (l:=allV D.safe.length) (i:=i) (by omega);rw[h2] at h1;rw[yN h1];simp
 rw[e];exact b7;rcases n7 b z with h|h;exact n6 b h;exact zL f6.size h;have az:i=D.safe.length-2:=(by have:=zB u;omega);subst az;rw[zS (by omega)] at z;have aA:=z.len;rw[aA];refine qoV (by omega) ?_;have V:=qlk (n:=(allV D.safe.length).length);have aa:∀b∈B,b∉F5:=fun b z hm=>by have:=n6 b z;have:=R.at_.lt b hm;omega
 have C:Rd F5 w6.drew s (allV D.safe.length):=(z.frame0 (Fr.refl [] w6).drew).rds qaK aa;refine Rds.part (k:=1) C (needP (allV D.safe.length).length) (allV D.safe.length).length rfl (by show (s.len:Int)=_;omega) V (zM _) fun sn a0 rn _=>Rds.part (k:=1) C 0 (needP (allV D.safe.length).length) rfl rfl (by omega) V fun sp a1 rp _=>?_;rw[xX] at rn;rw[xD] at rp;have aB:=d6.frame0 (Fr.refl [] w6).drew;have aC:=(av.frame0 f6).frame0 (Fr.refl [] w6).drew;rw[au] at y;refine qlK aB (by rw[yK];omega) aC aw rn rp (by rw[yB];omega) (by rw[yK];omega) (fun x hx=>by
  have:=qht.1 (yU hx)
  constructor<;>omega) fun w7 F7 E f7 n7=>?_
 have E:=E.lims (k2:=k+2+4096) (by rw[yK];omega);apply qaa<;>intro u;have u:(spreadM U ((allV D.safe.length).drop (needP (allV D.safe.length).length)) ((allV D.safe.length).take (needP (allV D.safe.length).length))).2≠0:=(by simpa using u);rw[qb3 u] at y;exact y w7 F7 (E.lims (by omega));have aD:(spreadM U ((allV D.safe.length).drop (needP (allV D.safe.length).length)) ((allV D.safe.length).take (needP (allV D.safe.length).length))).2=0:=(by simpa using u);rw[qcq aD] at y;have aE:=qgD (D:=U) (a:=(allV D.safe.length).drop (needP (allV D.safe.length).length)) (b:=(allV D.safe.length).take (needP (allV D.safe.length).length));generalize (spreadM U ((allV D.safe.length).drop (needP (allV D.safe.length).length)) ((allV D.safe.length).take (needP (allV D.safe.length).length))).1=D7 at E y aE;have aF:D7.safe.length=D.safe.length:=(by omega);refine qiF E.at_ ?_;rw[aF] at y⊢;have G:wrap .i64 (((allV D.safe.length).length:Int)-(needP (allV D.safe.length).length:Int))=((allV D.safe.length).length:Int)-(needP (allV D.safe.length).length:Int):=wi' _ (by omega);rw[G];exact qaQ (ts:=[Ty1.raw]) (supV (fmtSup D.safe.length).1 (fmtSup D.safe.length).2) (qsu w7)<|qo1 (s:=fmtSup D.safe.length) E (by omega) (E.hv hv hg).1 rfl (by show (0:Int)<=1;decide) fun w8 F8 d8 f8 n8=>y w8 F8 (d8.lims (by omega))
end
section
structure PgM.Wf (M:PgM):Prop where
 n4:M.sup.2.getD 0 0<=4096
 u32:∀ x∈M.sup.2,U32 x
 roots:∀ x∈M.roots,U32 x
 namedS:M.named.Pairwise (· < ·)
 named:∀ x∈M.named,2<=x/\x<M.sup.2.getD 0 0
 freeS:M.free.Pairwise (· < ·)
 defS:M.deferred.Pairwise (· < ·)
 nodup:(M.free++(M.deferred++(M.lists++M.fresh.map (·.1)))).Nodup
 range:∀ x∈M.free++(M.deferred++(M.lists++M.fresh.map (·.1))),2<=x/\x<M.sup.2.getD 0 0
 body:∀ e∈M.fresh,(0<=e.2.1/\e.2.1<256)/\e.2.2.length<=500/\IsB e.2.2
theorem qwf(u:l.Nodup)(h:∀x∈l,2<=x/\x<n)(y:n<=4096):l.length<=4096:=by rcases qct u h with h|h;omega;rw[h];simp
theorem PgM.Wf.all(M:PgM)(h:M.Wf):M.free.length+M.deferred.length+M.lists.length+M.fresh.length<=4096:=by
 have:=qwf h.nodup h.range h.n4
 simp only[zF,zK] at this;omega
theorem PgM.Wf.named4(h:M.Wf):M.named.length<=4096:=qwf (qbd h.namedS) h.named h.n4
section
variable {w:World} {X:List Nat} {pb:Nat} {db:Option Addr} {F:List Nat} {M:PgM}
theorem Rds.part3{α:Type}{enc:α->List Value}{w:World}{s:Sl}{l:List α}(h:Rds enc k S w s l){hi:Int}(b:Nat){K:Sl->Prop}(y:hi=b)(V:b<=l.length)(E:∀C,Rds enc k S w C (l.take b)->K C):slc s none (some hi) (some hi) k K:=by
 subst y;obtain⟨h1,h2,z⟩:=h;unfold slc;refine⟨by simp;omega,E _ ?_⟩;simp only[xT,xS,Int.toNat_zero,zJ,Nat.zero_mul,Nat.sub_zero];have e:(if b=0 then s.a else s.a.map (·.add 0))=s.a:=by
  split;rfl;cases s.a with
  | none=>rfl
  | some a=>simp[qiJ]
 rw[e];refine⟨by rw[yK];dsimp only;omega,zM _,?_⟩;rcases z with z|⟨G,o,I,T,J,O,A,R,U⟩;left;rw[z];simp;refine .inr ⟨G,o,I,T,J,O,A,R,fun i x u=>?_⟩;rw[xA] at u;split at u;exact U i x u;cases u
theorem PagerAt.xlt{w:World}{X:List Nat}{pb:Nat}{db:Option Addr}{F:List Nat}{M:PgM}(h:PagerAt w X pb db F M):∀b∈X,b<w.heap.size:=by obtain⟨fb,defb,mb,sl,sn,y,z,A,rfl,u⟩:=h;exact u.xlt
theorem qtu{K:Unit->WP}(h:PagerAt w X pb db F M)(A:0<=M.turn/\M.turn<=1000000000)(C:M.named.length<=100000)(E:∀F' w',PagerAt w' X pb db F' (begunM M.sup M.lists M.named (M.turn+1) M.over (insAll M.named))->Fr F w w'->(∀b∈F',b∈F\/w.heap.size<=b)->K () w'): cW 85 [.pointer (pW pb)] [] w K:=by
 obtain⟨fb,defb,mb,sl,sn,G,I,O,rfl,y⟩:=h;refine qhO ?_;unfold qef;have z:∀b∈X++[pb],b∈X++pb::mb::(G++I):=fun b u=>by rcases zD.1 u with h|h;exact zH _ h;simp at h;subst h;simp
 exact qfO (X:=X) (wk:=workV (pW fb) (pW defb) (some mb) M.roots) (by rw[qbE];exact y.cell) y.suplen (qav y.rootlen) A (fun b u=>⟨y.xlt b u,fun e=>y.xsep b u (by rw[e];simp)⟩) (y.rows.lists.weak fun b u=>.inl (z b u)) (y.rows.named.weak fun b u=>.inl (z b u)) C fun F' w' J f n=>E F' w' J (f.mono fun b u _=>by simp at u;subst u;simp) fun b u=>by rcases n b u with h|h;exact .inl (by rw[h];simp);exact .inr h
theorem qvc{K:Sl×Sl×Bool->WP}(h:PagerAt w X pb db F M)(hW:M.Wf)(al:planM M=none->∀w',Fr [] w w'->K (⟨none,0,0⟩,⟨none,0,0⟩,false) w')(hk:∀sp sn pages named w',planM M=some (pages,named)->Fr [] w w'->(∀G:List Nat,(∀b∈G,b<w.heap.size)->Rd G w' sp pages/\Rd G w' sn named)->K (sp,sn,true) w'): cW 79 [.pointer (pW pb)] [.one .slice,.one .slice,.one .bool] w K:=by
 have aA:=PgM.Wf.all M hW;obtain⟨fb,defb,mb,sl,sn,F1,F2,fs,rfl,A⟩:=h;refine qiz ?_;unfold qeL;refine qae (qai A.cell (pW fb) (qe3 A.suplen) ?_);refine qrA A.free (by omega) fun C y t1 f1=>?_;obtain⟨B1,b1,n1⟩:=qqC t1;have ab:Fr [] w y.drew:=f1.drew;have E:=A.frame0 ab;refine qae (qai (w:=y.drew) (c:=.ptr) E.cell (pW defb) (qmw A.suplen) ?_);refine qae (qai (w:=y.drew) (c:=.slice) E.cell sl (qlq A.suplen) ?_);refine qrA E.deferred (by omega) fun s2 w2 t2 f2=>?_;obtain⟨B2,b2,n2⟩:=qqC t2;have ac:=ab.trans f2;have ad:=A.frame0 ac;refine qaj (by show _=_;rw[qag ad.cell];exact qlq A.suplen)<|qsq b2 ad.rows.lists (by omega) fun s3 B3 w3 b3 f3 n3=>?_;have I:∀b∈B1,b<y.drew.heap.size:=fun b u=>(b1.frame0 (Fr.refl [] y).drew).lt b u;have ap:=(b1.frame0 (Fr.refl [] y).drew).frame0 f2;have J:BufU w3 C M.free B1:=ap.frame f3 (fun b u z=>by have:=I b u;have:=n2 b z;omega);have aR:w.heap.size<=y.heap.size:=f1.size;have aS:=f2.size;have aT:y.drew.heap.size=y.heap.size:=rfl;have O:∀b∈B3,y.drew.heap.size<=b:=fun b u=>by rcases n3 b u with h|h;exact n2 b h;omega
 have ae:Fr [] w w3:=ac.trans' f3 fun b u=>.inr (by have:=n2 b u;omega);have l1:=J.len;have l3:=b3.len;rw[zF] at l3;rw[wi' _ (by omega)];have e:(C.len:Int)+(s3.len:Int)=((M.free.length+(M.deferred++M.lists).length:Nat):Int):=(by rw[zF];omega);rw[e];refine qoV (by rw[zF];omega) ?_;generalize af:needP (M.free.length+(M.deferred++M.lists).length)=k;apply qaa<;>intro hc
 have:=zC hc
 exact al (by rw[planM,af,iP]) w3 ae;have ag:k<=M.free.length:=(by have:=zB hc;omega);have R:planM M=some (M.free.take k,insAll ((M.deferred++M.lists)++M.free.drop k)):=(by rw[planM,af,iN]);have U:Rd [] w3 C M.free:=J.rds qaK (by simp);refine Rds.part (k:=1) U k M.free.length rfl (by show (C.len:Int)=_;omega) ag (zM _) fun s4 aV r4 _=>?_;rw[xX] at r4;refine qsq b3 r4 (by rw[zF,yB];omega) fun s5 B5 w5 b5 f5 n5=>?_;have V:∀b∈B5,y.drew.heap.size<=b/\b∉B1:=fun b u=>by
  have hh:y.drew.heap.size<=b:=by
   rcases n5 b u with h|h;exact O b h
   have:=f3.size;omega
  exact⟨hh,fun z=>by have:=I b z;omega⟩
 have ar:BufU w5 C M.free B1:=J.frame f5 (fun b u z=>by have:=I b u;have:=O b z;omega);refine qo6 b5 (by rw[zF,zF,yB];omega) fun l6 w6 b6 p6 o6 f6=>?_;have au:BufU w6 C M.free B1:=ar.frame f6 (fun b u z=>(V b z).2 u);have av:((M.deferred++M.lists)++M.free.drop k).Nodup:=by
  have h:=hW.nodup;have hp:(M.free++(M.deferred++(M.lists++M.fresh.map (·.1)))).Perm (((M.deferred++M.lists)++M.free)++M.fresh.map (·.1)):=by rw[<- zV M.deferred,<- zV M.free];exact perm_append_comm.append_right _
  have h2:=(hp.nodup_iff.1 h).sublist (sublist_append_left _ _);exact h2.sublist ((List.Sublist.refl _).append (drop_sublist _ _))
 have aw:l6=insAll ((M.deferred++M.lists)++M.free.drop k):=qdO p6 o6 av;rw[aw] at b6;have ax:Fr [] w w6:=(ae.trans' f5 fun b u=>.inr (by have:=O b u;omega)).trans' f6 fun b u=>.inr (by have:=(V b u).1;omega);have ai:∀G:List Nat,(∀b∈G,b<w.heap.size)->Rd G w6 C M.free/\Rd G w6 s5 (insAll ((M.deferred++M.lists)++M.free.drop k)):=fun G hG=>
  ⟨au.rds qaK fun b u z=>by have:=hG b z;have:=n1 b u;omega,b6.rds qaK fun b u z=>by have:=hG b z;have:=(V b u).1;omega⟩
 exact Rds.part3 (ai (List.range w.heap.size) (by simp)).1 k rfl ag fun s7 r7=>hk s7 s5 _ _ w6 R ax fun G hG=>⟨r7.weak fun b u=>.inl (mem_range.2 (hG b u)),(ai G hG).2⟩
end
theorem qpO{mb:Nat}{y:List (Int×Leaf)}{K:Int×Sl->Prop}(h:MapAt u32V w mb (y.map fun e=>(e.1,leafV e.2)))(A:∀q,look n y=some q->K (q.2.1,q.2.2.1))(C:look n y≠none): runQ [Ty1.agg [Cell.int .u8,Cell.slice]] (fun w'=>(Instr.lookup MLT (.map (some mb)) (.u n) false).run prog w') w K:=by
 have:=qeY (P:=prog) qm8 qxC qcs h n
 rw[qbZ,qcm] at this;cases z:look n y with
 | none=>exact absurd z C
 | some q=>
  rw[z] at this;exact qaQ (ts:=[Ty1.agg [Cell.int .u8,Cell.slice]]) (q.2.1,q.2.2.1) this (A q z)
theorem qtv{C:World}{sp:Sl}{next:Sup}(h:DS dbk w FD C F1 D k)(hp:PagerAt C F1 pb (pW dbk) F M)(ac:∀e∈M.fresh,(0<=e.2.1/\e.2.1<256)/\e.2.2.length<=500/\IsB e.2.2)(aD:(M.fresh.map (·.1)).Nodup)(aE:∀x∈M.fresh.map (·.1),U32 x)(aF:M.fresh.length<=100000)(bh:k+M.fresh.length+pages.length+1<=1000000)(hv:Hv C)(hg:HG∉F1)(hn:Rd F1 C sn named)(aH:Rd F1 C sp pages)(aI:named.length<=100000)(aJ:pages.length<=100000)(aK:∀x∈pages,U32 x)(hs:next.2.length=27)(hq:0<=next.1)(V:∀w2 F2,DS dbk w FD w2 F2 (flushM D M.fresh pages named next).1 (k+M.fresh.length+pages.length+1)->Fr F1 C w2->(∀b∈F2,b∈F1\/C.heap.size<=b)->K (flushM D M.fresh pages named next).2 w2): cW 80 [.pointer (pW pb),sp.v,sn.v,.agg (supV next.1 next.2).toArray] [.one .i] C K:=by
 refine qhR ?_;unfold qei;refine oB (oE [] C) fun r w2 e2 f2 ho=>qtw (hp.frame0 f2) aF fun s3 B3 y w3 b3 p3 o3 f3 n3=>?_;have aN:y=insAll (M.fresh.map (·.1)):=qdO p3 o3 aD;have aO:y.length=M.fresh.length:=(by have:=p3.length_eq;rw[zK] at this;exact this);have ad:∀x∈y,x∈M.fresh.map (·.1):=fun x J=>p3.mem_iff.1 J;have z:Fr [] C w3:=f2.trans f3;have hW:freshW M.fresh=y.map fun n=>(n,sealV n (leafOf M.fresh n).1 (leafOf M.fresh n).2):=(by rw[freshW,<- aN]);have aP:=ho.frame0 f3;have bo:=b3.len;have a':=f2.size;have au:∀b∈F1,b<C.heap.size:=h.at_.lt;have r3:Rd F1 w3 s3 y:=b3.rds qaK fun b hb hm=>by have:=n3 b hb;have:=au b hm;omega
 have aa:w3.heap[r]?=some (.cells (supV next.1 next.2).toArray 121 (0,0)):=aP.at (i:=0) rfl;have hr:r∉F1:=fun hm=>by have:=au r hm;omega
 rw[flushM,hW] at V;refine qah (fun x w'=>∃(i:Nat) (F':List Nat) (D':DiskM),x=i/\i<=y.length/\DS dbk w3 F1 w' F' D' (k+i)/\
   andThen (writesM (y.map fun n=>(n,sealV n (leafOf M.fresh n).1 (leafOf M.fresh n).2)) D) (fun D=>andThen (spreadM D named pages) fun D=>sealM D next) =
    andThen (writesM ((y.drop i).map fun n=>(n,sealV n (leafOf M.fresh n).1 (leafOf M.fresh n).2)) D') (fun D=>andThen (spreadM D named pages) fun D=>sealM D next)) (fun x _=>((y.length:Int)-x).toNat)
  ⟨0,F1,D,rfl,by omega,DS.refl (h.at_.frame0 z) h.lim,rfl⟩ ?_
 rintro x w4 ⟨i,F',D',rfl,hi,O,he⟩ Y hY;have ag:PagerAt w4 F' pb (pW dbk) F M:=(hp.frame0 z).frameX O.fr O.at_.lt O.nw;have ah:=O.hv (hv.frame0 z) hg;have E:∀ {A:World} {F5:List Nat} {D5:DiskM} {k5:Nat},DS dbk w3 F1 A F5 D5 k5->DS dbk w FD A F5 D5 k5/\Fr F1 C A/\∀b∈F5,b∈F1\/C.heap.size<=b:=fun d5=>by have g:DS dbk C F1 _ _ _ _:=(DS.refl h.at_ h.lim).frame0 z |>.trans d5;exact⟨h.trans g,g.fr,g.nw⟩
 apply qaa<;>intro u;have aj:i<y.length:=(by have:=zC u;omega);refine Rd.at (O.rd r3) i rfl (zA aj) ?_;have ak:=ad _ (zW aj);have aQ:=aE _ ak;have G:y.drop i=y[i]::y.drop (i+1):=zX aj;generalize y[i]=x at ak aQ G;obtain⟨fb,defb,mb,sl,sm,G1,G2,fs,rfl,J⟩:=ag;have I:=J.frame0 (Fr.refl [] w4).drew;have R:=J.fresh_look x;have av:look x fs≠none:=fun hn=>by rw[hn] at R;exact qbl.1 R ak
 refine qae (qai (w:=w4.drew) (c:=.map) I.cell (some mb) (qbP J.suplen) ?_);refine qpO I.map.at (fun q al=>?_) av;refine qae (qai (w:=w4.drew) (c:=.map) I.cell (some mb) (qbP J.suplen) ?_);refine qpO I.map.at (fun q' aw=>?_) av;rw[al] at aw;cases aw;rw[al] at R;have aS:leafOf M.fresh x=(q.2.1,q.2.2.2):=(by rw[leafOf,R];rfl);have hm:=(qa1 al).2;have ab:=I.rows.bodies _ hm;have U:=ac (x,q.2.1,q.2.2.2) (by rw[J.fresh];exact mem_map.2 ⟨_,hm,rfl⟩);dsimp only at ab U;refine qnk ab (ah.1.frame0 (Fr.refl [] w4).drew) (by omega) (fun h=>by omega) fun _ b5 T5 A c5 f5 n5=>?_;have ax:Fr [] w4 A:=(Fr.refl [] w4).drew.trans f5;have am:=J.frame0 ax;refine qae (qai am.cell (pW dbk) qsX ?_);rw[wi' x (by omega)];have ay:=qbz (number:=x) (kind:=q.2.1) U.2.1;have aU:RdB [] A ⟨pW b5,512,512⟩ (sealV x q.2.1 q.2.2.2):=by
  have:=qg8 (S:=[]) (o:=0) (n:=512) (cap:=512) c5 (by rw[ay];exact zM _) (zM _)
  rw[xD,zS (Nat.le_of_eq ay)] at this;exact this
 rw[G,xK,aS] at he;refine qfN (O.frame0 ax) (by omega) aU (qc9 U.1 U.2.2) fun w6 F6 d6 f6 n6=>?_;apply qaa<;>intro u;have u:(writeM D' x (sealV x q.2.1 q.2.2.2)).2≠0:=(by simpa using u);rw[writesM,qh6,qb3 u] at he;rw[he] at V;have a6:=E d6;exact V w6 F6 (a6.1.lims (by omega)) a6.2.1 a6.2.2;have u:(writeM D' x (sealV x q.2.1 q.2.2.2)).2=0:=(by simpa using u);rw[writesM,qh6,qcq u] at he;rw[wi' _ (by omega)];exact hY _ _ ⟨i+1,F6,_,by simp,by omega,d6,he⟩ (by omega)
 ·have:i=y.length:=(by have:=zB u;omega);subst this;rw[drop_length,map_nil,writesM,andThen_ok] at he;rw[he] at V;obtain⟨fb,defb,mb,sl,sm,G1,G2,fs,hF,J⟩:=id ag;refine qae (qai J.cell (pW dbk) qsX ?_);have aW:=O.rd (hn.frame0 z);have az:=O.rd (aH.frame0 z);refine qlK O (by omega) ah.1 ah.2 aW az aI aJ aK fun A F5 d5 f5 n5=>?_;apply qaa<;>intro u;have u:(spreadM D' named pages).2≠0:=(by simpa using u);rw[qb3 u] at V;have a5:=E d5;exact V A F5 (a5.1.lims (by omega)) a5.2.1 a5.2.2
  ·have u:(spreadM D' named pages).2=0:=(by simpa using u);rw[qcq u] at V;have aY:PagerAt A F5 pb (pW dbk) F M:=ag.frameX f5 d5.at_.lt n5;obtain⟨fb,defb,mb,sl,sm,G1,G2,fs,hF,am⟩:=id aY;have aZ:=am.frame0 (Fr.refl [] A).drew;refine qae (qai (w:=A.drew) (c:=.ptr) aZ.cell (pW dbk) qsX ?_);have ao:A.drew.heap[r]?=some (.cells (supV next.1 next.2).toArray 121 (0,0)):=(by show A.heap[r]?=_;rw[d5.fr.block r (qab aa) hr];exact aa);refine qeT ao hs<|qo1 (d5.frame0 (Fr.refl [] A).drew) (by omega) ((d5.hv (hv.frame0 z) hg).1.frame0 (Fr.refl [] A).drew) hs hq fun w6 F6 d6 f6 n6=>?_;have a6:=E d6;exact V w6 F6 (a6.1.lims (by omega)) a6.2.1 a6.2.2
end
def Ats (D:DiskM):Prop:=∀x∈D.waits,0<=x.1/\x.1<D.safe.length
theorem qnx(h:(actM D).2=false)(u:D.down=false):(actM D).1.down=false:=by unfold actM at h⊢;split;rename_i y;rw[if_pos y] at h;cases h;split<;>exact u
theorem qk1(I:Ats D)(h:(writeM D n l).2=0): (writeM D n l).1.down=false/\Ats (writeM D n l).1/\(0<=n/\n<D.size)/\∀m,view (writeM D n l).1 m=if m=n then l else view D m:=by
 unfold writeM at h⊢;split;rename_i A;rw[if_pos A] at h;cases h;rename_i A;rw[if_neg A] at h;split;rename_i E;rw[if_pos E] at h;cases h;rename_i E;rw[if_neg E] at h;split;rename_i u;rw[dif_pos u] at h;have z:(actM (addW D n ⟨l,u⟩)).2=false:=by
  cases J:(actM (addW D n ⟨l,u⟩)).2 with
  | false=>rfl
  | true=>simp only[J,if_true] at h;cases h
 have C:=qbU (addW D n ⟨l,u⟩);have G:0<=n/\n<(D.safe.length:Int):=(by omega);refine⟨qnx z (show D.down=false by simpa using A),fun x y=>?_,G,fun m=>?_⟩;show 0<=x.1/\x.1<((actM (addW D n ⟨l,u⟩)).1.safe.length:Int);rw[C.1];have y:x∈(actM (addW D n ⟨l,u⟩)).1.waits:=y;rw[C.2] at y;rcases zD.1 y with y|y;exact I x y;simp at y;subst y;exact G;show view (actM (addW D n ⟨l,u⟩)).1 m=_;rw[view,C.1,C.2,addW];dsimp only;rw[qfm];by_cases hm:m=n;rw[if_pos hm,if_pos hm.symm];rw[if_neg hm,if_neg (fun e=>hm e.symm),view];rename_i u;rw[dif_neg u] at h;cases h
theorem qmP(A:Ats D)(h:(syncM D).2=0):(syncM D).1.down=false/\(syncM D).1.waits=[]/\∀m,0<=m->view (syncM D).1 m=view D m:=by unfold syncM at h⊢;split;rename_i y;rw[if_pos y] at h;cases h;rename_i y;rw[if_neg y] at h;split;rename_i z;rw[if_pos z] at h;cases h;rename_i z;have u:(actM D).2=false:=(by simpa using z);refine⟨qnx u (by simpa using y),rfl,fun m C=>?_⟩;obtain⟨k,rfl⟩:∃k:Nat,m=k:=⟨m.toNat,by omega⟩;show ((D.waits.foldl laySafe D.safe).getD (k:Int).toNat .zero).1=_;rw[zJ,qli k _ _ A,view,zJ];cases lastW (k:Int) D.waits<;>rfl
theorem qgG(h:D.waits=[]):Ats D:=fun x u=>by rw[h] at u;cases u
theorem qhh(h:(andThen r f).2=0):r.2=0/\(f r.1).2=0/\andThen r f=f r.1:=by unfold andThen at h⊢;by_cases h0:r.2=0;rw[if_pos h0] at h⊢;exact⟨h0,h,rfl⟩;rw[if_neg h0] at h;exact absurd h h0
theorem qbS:∀ {l:List (Int×List Int)} {D:DiskM},Ats D->D.down=false->(writesM l D).2=0->(l.map (·.1)).Nodup-> (writesM l D).1.down=false/\Ats (writesM l D).1/\(∀x∈l,view (writesM l D).1 x.1=x.2)/\∀m,m∉l.map (·.1)->view (writesM l D).1 m=view D m
 | [],D,z,E,_,_=>⟨E,z,(fun x u=>by cases u),fun m _=>rfl⟩
 | y::l,D,z,E,h,A=>by obtain⟨J,K,O⟩:=qhh (show (andThen (writeM D y.1 y.2) (writesM l)).2=0 from h);obtain⟨R,U,_,G⟩:=qk1 z J;rw[xK,nodup_cons] at A;obtain⟨V,a2,v2,I⟩:=qbS (l:=l) U R K A.2;rw[show writesM (y::l) D=writesM l (writeM D y.1 y.2).1 from O];refine⟨V,a2,fun x u=>?_,fun m C=>?_⟩;rcases zG.1 u with rfl|u;rw[I _ A.1,G,if_pos rfl];exact v2 x u;rw[xK,zG,not_or] at C;rw[I m C.2,G,if_neg C.1]
theorem qdD(I:Ats D)(J:D.down=false)(y:ListOk n numbers pages)(h:(spreadM D numbers pages).2=0): (spreadM D numbers pages).1.down=false/\(spreadM D numbers pages).1.waits=[]/\Listed (spreadM D numbers pages).1 numbers pages/\∀m,0<=m->m∉pages->view (spreadM D numbers pages).1 m=view D m:=by have C:((pages.zip (bodiesL numbers pages pages.length)).map fun x=>(x.1,sealV x.1 2 x.2)).map (·.1)=pages:=(by rw[map_map];exact qnu (by rw[qgt]));have e:spreadM D numbers pages=andThen (writesM ((pages.zip (bodiesL numbers pages pages.length)).map fun x=>(x.1,sealV x.1 2 x.2)) D) syncM:=(by rw[spreadM,y.bodies];exact if_neg (by simp));rw[e] at h;obtain⟨K,O,R⟩:=qhh h;obtain⟨d1,U,V,E⟩:=qbS I J K (by rw[C];exact y.nodup);rw[C] at E;obtain⟨d2,w2,G⟩:=qmP U O;rw[e,R];refine⟨d2,w2,fun i p z=>?_,fun m hm A=>by rw[G m hm,E m A]⟩;have hi:=(zP.1 z).1;have u:(p,sealV p 2 (bodyV (pages.getD (i+1) 0) (chunk numbers i)))∈(pages.zip (bodiesL numbers pages pages.length)).map fun x=>(x.1,sealV x.1 2 x.2):=(by refine mem_map.2 ⟨(p,bodyV (pages.getD (i+1) 0) (chunk numbers i)),?_,rfl⟩;refine yE (i:=i) ?_;rw[List.getElem?_zip_eq_some];exact⟨z,by rw[qeR,if_pos hi]⟩);have ae:=y.pgs _ (yE z);rw[G p (by omega)];exact V _ u
theorem qtg(E:Ats D)(G:SupOk s)(h:(sealM D s).2=0): (sealM D s).1.down=false/\(sealM D s).1.waits=[]/\view (sealM D s).1 (s.1%2)=sealV (s.1%2) 1 (superB s.1 s.2)/\∀m,0<=m->m≠s.1%2->view (sealM D s).1 m=view D m:=by obtain⟨I,J,K⟩:=qhh (show (andThen (writeM D (superP s).1 (superP s).2) syncM).2=0 from h);obtain⟨U,O,_,u⟩:=qk1 E I;obtain⟨A,C,y⟩:=qmP O J;rw[show sealM D s=syncM (writeM D (superP s).1 (superP s).2).1 from K];rw[G.superP] at u y A C⊢;refine⟨A,C,by rw[y _ (by omega),u,if_pos rfl],fun m R z=>by rw[y m R,u,if_neg z]⟩
theorem qcv(h:planM M=some (pages,named)): ∃k,k=needP (M.free.length+(M.deferred++M.lists).length)/\k<=M.free.length/\pages=M.free.take k/\named=insAll ((M.deferred++M.lists)++M.free.drop k):=by unfold planM at h;split at h;cases h;rename_i y;have u:=yN h;exact⟨_,rfl,by omega,(congrArg Prod.fst u).symm,(congrArg Prod.snd u).symm⟩
theorem PgM.Wf.planNodup(h:M.Wf)(k:Nat):(M.free.take k++((M.deferred++M.lists)++M.free.drop k)).Nodup:=by
 have u:(M.free++(M.deferred++(M.lists++M.fresh.map (·.1)))).Perm ((M.free.take k++((M.deferred++M.lists)++M.free.drop k))++M.fresh.map (·.1)):=by
  conv=>lhs;lhs;rw[<- xC k M.free]
  rw[<- zV M.deferred];have:(M.free.drop k++((M.deferred++M.lists)++M.fresh.map (·.1))).Perm (((M.deferred++M.lists)++M.free.drop k)++M.fresh.map (·.1)):=by rw[<- zV];exact perm_append_comm.append_right _
  rw[zV,zV (M.free.take k)];exact this.append_left _
 exact (u.nodup_iff.1 h.nodup).sublist (sublist_append_left _ _)
theorem qa7(z:M.Wf)(h:planM M=some (pages,named)):ListOk (M.sup.2.getD 0 0) named pages:=by obtain⟨k,C,A,rfl,rfl⟩:=qcv h;have y:=z.planNodup k;rw[yL] at y;have E:∀x∈(M.deferred++M.lists)++M.free.drop k,2<=x/\x<M.sup.2.getD 0 0:=fun x u=>z.range x (by simp only[zD] at u⊢;rcases u with (u|u)|u;exact .inr (.inl u);exact .inr (.inr (.inl u));exact .inl (yT u));refine⟨qaX _,fun x u=>E x (qaS.1 u),fun x u=>z.range x (zH _ (yU u)),y.1,fun x u G=>y.2.2 x u x (qaS.1 G) rfl,?_⟩;have I:=(qgx y.2.1).length_eq;have J:=qhK (n:=M.free.length+(M.deferred++M.lists).length);rw[<- C] at J;rw[I,zF,yB,yK,xN A];omega
theorem qeV(G:M.Wf)(h:planM M=some (pages,named)):∀x∈M.fresh.map (·.1),x∉pages/\x∉named:=by obtain⟨k,O,I,rfl,rfl⟩:=qcv h;intro x z;have y:=G.nodup;rw[yL] at y;have A:=y.2.1;rw[yL] at A;have C:=A.2.1;rw[yL] at C;have E:x∉M.free:=fun u=>y.2.2 x u x (zI _ (zI _ z)) rfl;have J:x∉M.deferred:=fun u=>A.2.2 x u x (zI _ z) rfl;have K:x∉M.lists:=fun u=>C.2.2 x u x z rfl;refine⟨fun u=>E (yU u),fun u=>?_⟩;have u:=qaS.1 u;simp only[zD] at u;rcases u with (u|u)|u;exact J u;exact K u;exact E (yT u)
theorem qa6(fresh:List (Int×Int×List Int)):(freshW fresh).map (·.1)=insAll (fresh.map (·.1)):=by rw[freshW,map_map];exact map_id _
theorem qcG{β:Type}:∀ {l:List (Int×β)} {e:Int×β},(l.map (·.1)).Nodup->e∈l->∃i,look e.1 l=some (i,e.2)
 | p::r,e,y,u=>by rw[xK,nodup_cons] at y;simp only[look];rcases zG.1 u with rfl|u;exact⟨0,by rw[if_pos rfl]⟩;have z:e.1≠p.1:=fun h=>y.1 (h▸zY u);obtain⟨i,A⟩:=qcG y.2 u;exact⟨i+1,by rw[if_neg z,A];rfl⟩
theorem ql5{fresh:List (Int×Int×List Int)}(u:(fresh.map (·.1)).Nodup){e:Int×Int×List Int}(h:e∈fresh):(e.1,sealV e.1 e.2.1 e.2.2)∈freshW fresh:=by refine mem_map.2 ⟨e.1,qaS.2 (zY h),?_⟩;obtain⟨i,y⟩:=qcG u h;rw[leafOf,y]
structure Flushed (D D':DiskM) (M:PgM) (pages named:List Int) (next:Sup):Prop where
 down:D'.down=false
 waits:D'.waits=[]
 listed:Listed D' named pages
 super:view D' (next.1%2)=sealV (next.1%2) 1 (superB next.1 next.2)
 fresh:∀ e∈M.fresh,view D' e.1=sealV e.1 e.2.1 e.2.2
 rest:∀ m,0<=m->m∉M.fresh.map (·.1)->m∉pages->m≠next.1%2->view D' m=view D m
theorem PgM.Wf.keysNodup(h:M.Wf):(M.fresh.map (·.1)).Nodup:=h.nodup.sublist (((sublist_append_right _ _).trans (sublist_append_right _ _)).trans (sublist_append_right _ _))
theorem PgM.Wf.keys(h:M.Wf):∀x∈M.fresh.map (·.1),2<=x/\x<M.sup.2.getD 0 0:=fun x u=>h.range x (zI _ (zI _ (zI _ u)))
theorem qq4{next:Sup}(O:Ats D)(R:D.down=false)(A:M.Wf)(u:planM M=some (pages,named))(U:SupOk next)(h:(flushM D M.fresh pages named next).2=0): Flushed D (flushM D M.fresh pages named next).1 M pages named next:=by
 obtain⟨V,h2,h3⟩:=qhh (show (andThen (writesM (freshW M.fresh) D) fun D=>andThen (spreadM D named pages) fun D=>sealM D next).2=0 from h);obtain⟨h4,h5,h6⟩:=qhh h2;have C:((freshW M.fresh).map (·.1)).Nodup:=(by rw[qa6];exact qbd (qaX _));obtain⟨d1,a1,v1,u1⟩:=qbS O R V C;have y:=qa7 A u;obtain⟨d2,w2,l2,I⟩:=qdD a1 d1 y h4;obtain⟨d3,w3,p3,E⟩:=qtg (qgG w2) U h5;have e:flushM D M.fresh pages named next=sealM (spreadM (writesM (freshW M.fresh) D).1 named pages).1 next:=h3.trans h6
 rw[e];have ao:next.1%2=0\/next.1%2=1:=by omega
 refine⟨d3,w3,fun i p J=>?_,p3,fun x G=>?_,fun m K h7 h8 h9=>?_⟩
 have:=y.pgs p (yE J)
 rw[E p (by omega) (by omega)];exact l2 i p J;have hk:=A.keys x.1 (zY G);have hf:=qeV A u x.1 (zY G);rw[E _ (by omega) (by omega),I _ (by omega) hf.1];exact v1 _ (ql5 A.keysNodup G);rw[E m K h9,I m K h8];refine u1 m fun z=>h7 ?_;rw[qa6] at z;exact qaS.1 z
theorem Quiet.flushed{next:Sup}(h:Quiet D)(z:M.Wf)(I:M.sup.2.getD 0 0=D.size)(h8:8<=D.size)(u:planM M=some (pages,named))(J:SupOk next): (flushM D M.fresh pages named next).2=0/\Quiet (flushM D M.fresh pages named next).1/\(flushM D M.fresh pages named next).1.size=D.size:=by
 have C:((freshW M.fresh).map (·.1)).Nodup:=(by rw[qa6];exact qbd (qaX _));obtain⟨D1,e1,K,O,_⟩:=h.writes (l:=freshW M.fresh) (fun x R=>by obtain⟨n,A,rfl⟩:=mem_map.1 R;have A:=qaS.1 A;have hk:=z.keys n A;refine⟨by dsimp only;omega,qbz ?_⟩;obtain⟨e,E,rfl⟩:=mem_map.1 A;obtain⟨i,U⟩:=qcG z.keysNodup E;rw[leafOf,U];exact (z.body e E).2.1) C;have y:=qa7 z u;rw[I,<- O] at y;obtain⟨D2,V,q2,s2,_⟩:=K.spread y;obtain⟨G,e3,q3,s3,_⟩:=q2.sealOk J (by omega);have:flushM D M.fresh pages named next=(G,0):=by rw[flushM,e1,andThen_ok,V,andThen_ok,e3]
 rw[this];exact⟨rfl,q3,by show G.size=D.size;omega⟩
def PgM.all (M:PgM):List Int:=M.free++(M.deferred++(M.lists++M.fresh.map (·.1)))
theorem qfc{t:Int}{ov:Bool}(h:ListOk (s.2.getD 0 0) numbers pages)(A:s.2.getD 0 0<=4096)(z:∀x∈s.2,U32 x):(begunM s pages numbers t ov numbers).Wf where
 n4:=A
 u32:=z
 roots:=fun x u=>z x (yT u)
 namedS:=h.rises
 named:=h.nums
 freeS:=h.rises
 defS:=.nil
 nodup:=by show (numbers++([]++(pages++[]))).Nodup;rw[xG,xF,yL];exact⟨qbd h.rises,h.nodup,fun x u y C e=>h.apart y C (e▸u)⟩
 range:=fun x u=>by have u:x∈numbers++([]++(pages++[])):=u;rw[xG,xF,zD] at u;rcases u with u|u;exact h.nums x u;exact h.pgs x u
 body:=fun e E=>by cases E
theorem qw1:overM.Wf:=by
 have u:∀x∈supZero.2,U32 x:=fun x h=>by
  have:=eq_of_mem_replicate (show x∈List.replicate 27 (0:Int) from h)
  subst this;exact⟨by decide,by decide⟩
 exact qfc (s:=supZero) (pages:=[]) (numbers:=[]) ⟨.nil,(fun x h=>by cases h),(fun x h=>by cases h),.nil,(fun x h=>by cases h),by decide⟩ (by decide) u
theorem qqp{β:Type}{v:β}{l:List (Int×β)}(h:n∉l.map (·.1)):setL n v l=l++[(n,v)]:=by rw[setL,qbl.2 h]
theorem qoj{β:Type}{v:β}{l:List (Int×β)}(h:n∈l.map (·.1)):(setL n v l).map (·.1)=l.map (·.1):=by
 unfold setL;cases y:look n l with
 | none=>exact absurd h (qbl.1 y)
 | some q=>
  dsimp only;rw[map_set];apply ext_getElem?;intro j;rw[xU];by_cases hj:q.1=j;subst hj;have z:=(qa1 y).1;obtain⟨u,A⟩:=zP.1 z;simp[u,A];rw[if_neg hj]
theorem qnI{β:Type}{l:List (Int×β)}(h:n∈l.map (·.1)):(l.map (·.1)).Perm (n::(delL n l).map (·.1)):=by
 unfold delL;cases z:look n l with
 | none=>exact absurd h (qbl.1 z)
 | some q=>
  dsimp only;have A:=(qa1 z).1;obtain⟨u,C⟩:=zP.1 A;rw[qby];have E:(l.map (·.1))[q.1]'(by simpa using u)=n:=(by simp[C]);have y:q.1<(l.map (·.1)).length:=(by simpa using u);have G:l.map (·.1)=(l.map (·.1)).take q.1++n::(l.map (·.1)).drop (q.1+1):=by rw[<- E,<- zX y,xC]
  rw[eraseIdx_eq_take_drop_succ];conv=>lhs;rw[G]
  exact perm_middle
theorem qbr:usedV M n=true↔(2<=n/\n<M.sup.2.getD 0 0)/\n∉M.all:=by unfold usedV PgM.all;simp only[yA,zT,Bool.or_eq_false_iff,decide_eq_false_iff_not,Option.isNone_iff_eq_none,qbl,zD,not_or];constructor;rintro⟨⟨⟨⟨⟨A,C⟩,h⟩,u⟩,y⟩,z⟩;exact⟨⟨by omega,by omega⟩,u,y,h,z⟩;rintro⟨⟨A,C⟩,h,u,y,z⟩;exact⟨⟨⟨⟨⟨by omega,by omega⟩,y⟩,h⟩,u⟩,z⟩
theorem qum{r:List Int}{v:Int×List Int}(u:M.free=n::r)(z:M.Wf):(r++(M.deferred++(M.lists++(setL n v M.fresh).map (·.1)))).Perm M.all:=by
 have h:n∉M.fresh.map (·.1):=fun A=>by have y:=z.nodup;rw[u,xH,nodup_cons] at y;exact y.1 (zI _ (zI _ (zI _ A)))
 rw[qqp h,xJ,PgM.all,u];show (r++(M.deferred++(M.lists++(M.fresh.map (·.1)++[n])))).Perm (n::(r++(M.deferred++(M.lists++M.fresh.map (·.1)))));rw[<- zV M.lists,<- zV M.deferred,<- zV r];exact perm_append_singleton n _
theorem qhq{M':PgM}(h:M.Wf)(u:M'.sup=M.sup)(y:M'.named=M.named)(A:∀x∈M'.roots,U32 x)(z:M'.all.Perm M.all)(C:M'.free.Pairwise (· < ·))(E:M'.deferred.Pairwise (· < ·))(G:∀e∈M'.fresh,(0<=e.2.1/\e.2.1<256)/\e.2.2.length<=500/\IsB e.2.2):M'.Wf where
 n4:=by rw[u];exact h.n4
 u32:=by rw[u];exact h.u32
 roots:=A
 namedS:=by rw[y];exact h.namedS
 named:=by rw[y,u];exact h.named
 freeS:=C
 defS:=E
 nodup:=z.nodup_iff.2 h.nodup
 range:=fun x I=>by rw[u];exact h.range x (z.mem_iff.1 I)
 body:=G
theorem qr6{kind:Int}(u:M.Wf)(A:0<=kind/\kind<256)(C:IsB body):(makeV M kind body).2.Wf/\(makeV M kind body).2.all.Perm M.all:=by
 unfold makeV;split;exact⟨u,.refl _⟩;split;exact⟨u,.refl _⟩;rename_i G;split;exact⟨u,.refl _⟩;rename_i n r y;have z:=qum (v:=(kind,body)) y u;refine⟨qhq u rfl rfl u.roots z ?_ u.defS fun e E=>?_,z⟩
 have:=u.freeS
 rw[y,yI] at this;exact this.2;rcases qhI E with h|h;exact u.body e h;rw[h];exact⟨A,by show body.length<=500;omega,C⟩
theorem quD{kind:Int}(u:M.Wf)(z:0<=kind/\kind<256)(A:IsB body):(putV M n kind body).2.Wf/\(putV M n kind body).2.all.Perm M.all:=by
 unfold putV;split;exact⟨u,.refl _⟩;split;exact⟨u,.refl _⟩;rename_i q C;split;exact⟨u,.refl _⟩;rename_i I;have E:n∈M.fresh.map (·.1):=mem_map.2 ⟨_,(qa1 C).2,rfl⟩;have y:({ M with fresh:=setL n (kind,body) M.fresh }:PgM).all=M.all:=by show M.free++(M.deferred++(M.lists++(setL n (kind,body) M.fresh).map (·.1)))=_;rw[qoj E];rfl
 refine⟨qhq u rfl rfl u.roots (by rw[y]) u.freeS u.defS fun e G=>?_,by rw[y]⟩;rcases qhI G with h|h;exact u.body e h;rw[h];exact⟨z,by show body.length<=500;omega,A⟩
theorem qrO(u:M.Wf):(dropV M n).2.Wf:=by
 unfold dropV;split;exact u;split;rename_i q E;have G:n∈M.fresh.map (·.1):=mem_map.2 ⟨_,(qa1 E).2,rfl⟩;have I:=u.nodup;have A:n∉M.free:=fun h=>by rw[yL] at I;exact I.2.2 n h n (zI _ (zI _ G)) rfl
 have z:({ M with fresh:=delL n M.fresh,free:=ins n M.free }:PgM).all.Perm M.all:=by
  show (ins n M.free++(M.deferred++(M.lists++(delL n M.fresh).map (·.1)))).Perm (M.free++(M.deferred++(M.lists++M.fresh.map (·.1))));refine ((qcN A).append_right _).trans ?_;have J:=qnI G;have K:(M.deferred++(M.lists++M.fresh.map (·.1))).Perm (n::(M.deferred++(M.lists++(delL n M.fresh).map (·.1)))):=by refine ((J.append_left M.lists).append_left M.deferred).trans ?_;rw[<- zV,<- zV];exact perm_middle
  exact (perm_middle.symm.trans (K.symm.append_left M.free))
 exact qhq u rfl rfl u.roots z (qdu u.freeS) u.defS fun e O=>u.body e (qpT O);rename_i E;split;rename_i y;have y:=qbr.1 y;have C:n∉M.deferred:=fun h=>y.2 (zI _ (zH _ h));have z:({ M with deferred:=ins n M.deferred }:PgM).all.Perm (n::M.all):=by show (M.free++(ins n M.deferred++(M.lists++M.fresh.map (·.1)))).Perm (n::(M.free++(M.deferred++(M.lists++M.fresh.map (·.1)))));exact (((qcN C).append_right _).append_left M.free).trans perm_middle
 refine { n4:=u.n4,u32:=u.u32,roots:=u.roots,namedS:=u.namedS,named:=u.named,freeS:=u.freeS,defS:=qdu u.defS,nodup:=z.nodup_iff.2 (nodup_cons.2 ⟨y.2,u.nodup⟩),range:=fun x R=>?_,body:=u.body };rcases zG.1 (z.mem_iff.1 R) with rfl|h;exact y.1;exact u.range x h;exact u
theorem qni{t:Int}{ov:Bool}(u:M.Wf)(h:planM M=some (pages,named))(y:s.2.getD 0 0=M.sup.2.getD 0 0)(z:∀x∈s.2,U32 x):(begunM s pages named t ov named).Wf:=
 qfc (by rw[y];exact qa7 u h) (by rw[y];exact u.n4) z
theorem qf8(u:M.Wf)(h:planM M=some (pages,named)):∀x∈(nextS M pages named).2,U32 x:=by
 have z:=qa7 u h;have A:=u.n4;intro x y;simp only[nextS,zD,zG,xV,or_false] at y;rcases y with (rfl|rfl|rfl)|y;exact qpz u.u32 0;cases pages with
 | nil=>exact⟨by decide,by decide⟩
 | cons a r=>
  have:=z.pgs a (by simp)
  show 0<=a/\a<4294967296;omega
 exact qaW _;exact u.roots x y
theorem qpV(u:M.Wf)(h:planM M=some (pages,named))(y:M.roots.length=24)(z:0<=M.sup.1/\M.sup.1<4611686018427387903):SupOk (nextS M pages named)/\(nextS M pages named).1=M.sup.1+1:=by have e:wrap .u64 (M.sup.1+1)=M.sup.1+1:=qqJ _;refine⟨⟨?_,?_,qf8 u h⟩,e⟩;show 0<=wrap .u64 (M.sup.1+1)/\wrap .u64 (M.sup.1+1)<_;rw[e];omega;show ([M.sup.2.getD 0 0,pages.headD 0,wrap .u32 (named.length:Int)]++M.roots).length=27;rw[zF,y];rfl
theorem qtG(h:M.Wf):(commitM D M).1.2.Wf:=by unfold commitM;split;exact h;split;exact h;split;exact h;rename_i x u;obtain⟨pages,named⟩:=x;split;exact qw1;exact qni h u rfl (qf8 h u)
section
def eq3:List Int->List Int->Bool
 | a::b::c::r,h::u::y::z=>bif (bif a==h then bif b==u then bif c==y then true else false else false else false) then eq3 r z else false
 | _,_=>true
theorem qrP:∀(n:Nat) (l l':List Int),l.length=3*n->l'.length=3*n->eq3 l l'=decide (l=l')
 | 0,l,l',h,u=>by have y:l=[]:=eq_nil_of_length_eq_zero (by omega);have z:l'=[]:=eq_nil_of_length_eq_zero (by omega);subst y z;simp[eq3]
 | n+1,l,l',h,u=>by
  match l,l',h,u with
  | a::b::c::r,C::E::G::A,h,u=>
   have:=qrP n r A (by simp at h;omega) (by simp at u;omega)
   rw[eq3,this];by_cases y:a=C<;>by_cases z:b=E<;>by_cases h3:c=G<;>by_cases h4:r=A<;>simp[y,z,h3,h4]
  | [],_,h,_=>simp at h
  | [_],_,h,_=>simp at h;omega
  | [_,_],_,h,_=>simp at h;omega
  | _::_::_::_,[],_,h=>simp at h
  | _::_::_::_,[_],_,h=>simp at h;omega
  | _::_::_::_,[_,_],_,h=>simp at h;omega
abbrev RAT:TypeId:=119
theorem qxP(a0 a1 a2 a3 a4 a5 a6 a7 a8 a9 h u y z A C E G I J K O R U b0 b1 b2 b3 b4 b5 b6 b7 b8 b9 V aa ab ac ad ae af ag ah ai aj ak al am:Int): eqV prog 3 RAT (.agg (([a0,a1,a2,a3,a4,a5,a6,a7,a8,a9,h,u,y,z,A,C,E,G,I,J,K,O,R,U]:List Int).map (Value.int .u32)).toArray) (.agg (([b0,b1,b2,b3,b4,b5,b6,b7,b8,b9,V,aa,ab,ac,ad,ae,af,ag,ah,ai,aj,ak,al,am]:List Int).map (Value.int .u32)).toArray) = some (eq3 [a0,a1,a2,a3,a4,a5,a6,a7,a8,a9,h,u,y,z,A,C,E,G,I,J,K,O,R,U] [b0,b1,b2,b3,b4,b5,b6,b7,b8,b9,V,aa,ab,ac,ad,ae,af,ag,ah,ai,aj,ak,al,am]):=by kernel_rfl
theorem quj(h:l.length=24):∃a0 a1 a2 a3 a4 a5 a6 a7 a8 a9 u y z A C E G I J K O R U V,l=[a0,a1,a2,a3,a4,a5,a6,a7,a8,a9,u,y,z,A,C,E,G,I,J,K,O,R,U,V]:=
 match l,h with
 | [a0,a1,a2,a3,a4,a5,a6,a7,a8,a9,u,y,z,A,C,E,G,I,J,K,O,R,U,V],_=>⟨_,_,_,_,_,_,_,_,_,_,_,_,_,_,_,_,_,_,_,_,_,_,_,_,rfl⟩
theorem qtb{x y:Operand}{K:Bool->Prop}(u:l.length=24)(h:l'.length=24)(k:K (decide (l=l'))): runQ [Ty1.one Cell.bool] (fun w'=>(do eqGuard .eql RAT x y (.agg (l.map (Value.int .u32)).toArray) (.agg (l'.map (Value.int .u32)).toArray);binOp .eql RAT (.agg (l.map (Value.int .u32)).toArray) (.agg (l'.map (Value.int .u32)).toArray):Sem Value).run prog w') w K:=by refine qxu 3 (by decide) (eq3 l l') ?_ (by kernel_rfl) (by rw[qrP 8 l l' u h];exact k);obtain⟨a0,a1,a2,a3,a4,a5,a6,a7,a8,a9,z,A,C,E,G,I,J,O,R,U,V,aa,ab,ac,rfl⟩:=quj u;obtain⟨b0,b1,b2,b3,b4,b5,b6,b7,b8,b9,ad,ae,af,ag,ah,ai,aj,ak,al,am,an,ao,ap,aq,rfl⟩:=quj h;exact qxP ..
theorem qun{mb:Nat}{f:List (Int×Value)}{K:Int->Prop}(h:MapS u32V w mb f)(k:K f.length): runQ [Ty1.one .i] (fun w'=>(Builtin.len_ #[MLT] 3 #[Value.map (some mb)]).run prog w') w K:=by
 obtain⟨u,c,y,z,_⟩:=h;have A:(u.size:Int)=f.length:=by
  have:=congrArg List.length z
  simp at this;omega
 refine qaQ (ts:=[Ty1.one .i]) (u.size:Int) ?_ (by rw[A];exact k)
 have:=run_len_map (P:=prog) (w:=w) MLT 3 mb u c (by kernel_rfl) y
 exact this
section
variable {db:Option Addr} {sup:Sup} {sl sn:Sl} {turn:Int} {over:Bool} {fb defb mb:Nat} {roots:List Int} {wk:List Value}
theorem qhV(u:sup.2.length=27)(y:roots.length=24):((pgCells db sup sl sn turn over fb defb mb roots).toList.drop 36).take 24=roots.map (Value.int .u32):=by have h:((Value.pointer db::supV sup.1 sup.2)++pgRest sl sn turn over fb defb mb).length=36:=(by rw[zF,qa2 u];rfl);show (((Value.pointer db::supV sup.1 sup.2)++pgRest sl sn turn over fb defb mb++roots.map (Value.int .u32)).drop 36).take 24=_;rw[<- h,drop_append_of_le_length (zM _),drop_length,xG,zS (by rw[zK,y];exact zM _)]
theorem qux(h:sup.2.length=27):((pgCells db sup sl sn turn over fb defb mb roots).toList.drop 5).take 24=(sup.2.drop 3).map (Value.int .u32):=by rw[<- qbE];exact qjj h
theorem qs3{h:Sup}(y:sup.2.length=27)(u:h.2.length=27):splice (pgRaw db sup sl sn turn over wk) 1 (supV h.1 h.2)=pgRaw db h sl sn turn over wk:=by
 have:=qa8 (A:=[Value.pointer db]) (X:=supV sup.1 sup.2) (Y:=supV h.1 h.2) (Z:=([sl.v,sn.v,.i turn,.bool over]:List Value)++wk) (by rw[qaG y,qaG u])
 simpa[pgRaw] using this
end
theorem qsv{q a c:Int}(C:roots.length=24)(w:World):(Instr.build 121 #[(0,.int .u64 q),(1,.u a),(3,.u c),(4,.agg (roots.map (Value.int .u32)).toArray)]).run prog w=.ok (.agg (supV q ([a,0,c]++roots)).toArray) w:=by
 obtain⟨z,E,h⟩:=yS.1 qfw;have y:z.cells=(supV 0 (zs 27)).toArray:=(by rw[<- h]);refine qc8 (parts:=[(0,.int .u64 q),(1,.u a),(3,.u c),(4,.agg (roots.map (Value.int .u32)).toArray)]) (offs:=#[(0,1),(1,1),(2,1),(3,1),(4,24)]) E (by kernel_rfl) (fun w=>by kernel_rfl) ?_ w;have G:(Value.agg (roots.map (Value.int .u32)).toArray).cells.size=24:=(by show (roots.map (Value.int .u32)).toArray.size=24;simp[C]);rw[y,qaD (o:=0) (s:=1) rfl rfl (zO rfl),qaD (o:=1) (s:=1) rfl rfl (zO rfl),qaD (o:=3) (s:=1) rfl rfl (zO rfl),qaD (o:=4) (s:=24) rfl G (zO rfl)];refine congrArg some ?_
 have:=qa8 (A:=[.int .u64 q,.u a,.u 0,.u c]) (X:=(zs 24).map (Value.int .u32)) (Z:=[]) (Y:=roots.map (Value.int .u32)) (by simp[C,qaI])
 refine Eq.trans ?_ (this.trans ?_);rfl;simp[supV]
theorem qst(w:World):(Instr.build PGT #[(5,.bool true)]).run prog w=.ok (.agg (pgRaw none supZero ⟨none,0,0⟩ ⟨none,0,0⟩ 0 true (workV none none none (zs 24)))) w:=by refine qc8 (parts:=[(5,.bool true)]) (offs:=#[(0,1),(1,28),(29,1),(30,1),(31,1),(32,1),(33,27)]) pgZ (by kernel_rfl) (fun w=>by kernel_rfl) ?_ w;rw[qaD (o:=32) (s:=1) rfl rfl (zO rfl)];rfl
def dbOf (dbk:Nat) (M:PgM):Option Addr:=if M.over then none else pW dbk
structure Both (w:World) (dbk pb:Nat) (FD F:List Nat) (D:DiskM) (M:PgM) (k:Nat):Prop where
 disk:DiskAt w dbk FD D
 lim:Lim D k
 pager:PagerAt w FD pb (dbOf dbk M) F M
def Turn (S:List Nat) (w w':World) (S':List Nat):Prop:=Fr S w w'/\∀b∈S',b∈S\/w.heap.size<=b
theorem qw0:((l.map (Value.int .u32)).all Value.oneCell')=true:=by rw[all_eq_true];intro v h;obtain⟨x,_,rfl⟩:=mem_map.1 h;rfl
theorem qv8{x y:Option Addr}{m:Option Nat}:((workV x y m roots).all Value.oneCell')=true:=by rw[workV,all_append,qw0];rfl
theorem qw7(h:(wk.all Value.oneCell')=true):((pgRaw db sup sl sn turn over wk).toList.all Value.oneCell')=true:=by show ((((Value.pointer db::supV sup.1 sup.2)++([sl.v,sn.v,.i turn,.bool over]:List Value))++wk).all Value.oneCell')=true;rw[all_append,all_append,h,all_cons,qh2];rfl
theorem PagerAt.weakX{X X':List Nat}(h:PagerAt w X pb db F M)(y:∀b∈X',b∈X):PagerAt w X' pb db F M:=
 h.frameX (.refl X w) (fun b u=>h.xlt b (y b u)) (fun b u=>.inl (y b u))
theorem qqO{X:List Nat}(hdisk:DiskAt w dbk FD D)(hlim:Lim D k)(hpag:PagerAt w X pb (dbOf dbk M) F M)(hsub:∀b∈FD,b∈X)(hW:M.Wf)(hk6:k+5000<=1000000)(ht:0<=M.turn/\M.turn<=1000000000)(hv:Hv w)(hg:HG∉FD)(kk:∀FD' F' w',DiskAt w' dbk FD' (commitM D M).1.1->Lim (commitM D M).1.1 (k+5000)->PagerAt w' (FD'++X) pb (dbOf dbk (commitM D M).1.2) F' (commitM D M).1.2->Turn (FD++F) w w' (FD'++F')->K (commitM D M).2 w'): cW 39 [.pointer (pW pb)] [.one .i] w K:=by
 have hall:=PgM.Wf.all M hW;have same:∀ {e:Int} {w':World},commitM D M=((D,M),e)->Fr [] w w'->K e w':=by
  intro e w' he hf
  have:=kk FD F w' (by rw[he];exact hdisk.frame0 hf) (by rw[he];exact hlim.mono (by omega)) (by rw[he];exact (hpag.frame0 hf).weakX fun b hb=>(zD.1 hb).elim (hsub b) id) ⟨hf.mono (fun b hb=>by cases hb),fun b hb=>.inl hb⟩
  rw[he] at this;exact this
 have hpag0:=hpag;obtain⟨fb,defb,mb,sl,sn,F1,F2,fs,rfl,hx⟩:=hpag;refine qg0 (p:=pW pb) ?_;unfold qdK;refine qae (qai (c:=.bool) hx.cell M.over (qc6 hx.suplen) ?_);refine qaa (fun hc=>same (by rw[commitM,if_pos hc]) (.refl _ _)) (fun hc=>?_);have ho:¬M.over=true:=(by rw[hc];decide);have hof:M.over=false:=hc;have hdb:dbOf dbk M=pW dbk:=if_neg ho;rw[hdb] at hx hpag0;have hxd:=hx.frame0 (Fr.refl [] w).drew;have hfl:fs.length=M.fresh.length:=(by rw[hx.fresh];simp);have hsr:(M.sup.2.drop 3).length=24:=(by rw[yB,hx.suplen]);refine qaf (fun b w'=>b=decide (M.fresh=[]/\M.deferred=[]/\M.roots=M.sup.2.drop 3)/\w'=w.drew) ?_ ?_;refine qae (qai (w:=w.drew) (c:=.map) hxd.cell (some mb) (qbP hx.suplen) ?_);refine qun hxd.map ?_;rw[zK,hfl];apply qaa<;>intro hc1;have h1:M.fresh=[]:=eq_nil_of_length_eq_zero (by have:(M.fresh.length:Int)=0:=(by simpa using hc1);omega);refine qae (qai (w:=w.drew) (c:=.ptr) hxd.cell (pW defb) (qmw hx.suplen) ?_);refine qrz hxd.deferred ?_;apply qaa<;>intro hc2;have h2:M.deferred=[]:=eq_nil_of_length_eq_zero (by have:(M.deferred.length:Int)=0:=(by simpa using hc2);omega);refine qae (qa0 (b:=pb) (off:=36) hxd.cell (M.roots.map (Value.int .u32)) (by rw[zK,hx.rootlen]) (qhV hx.suplen hx.rootlen) ?_);refine qae (qa0 (b:=pb) (off:=5) hxd.cell ((M.sup.2.drop 3).map (Value.int .u32)) (by rw[zK,hsr]) (qux hx.suplen) ?_);refine qtb hx.rootlen hsr ⟨?_,rfl⟩;simp[h1,h2];have h2:M.deferred≠[]:=fun e=>by rw[e] at hc2;simp at hc2
 exact⟨by simp[h2],rfl⟩;have h1:M.fresh≠[]:=fun e=>by rw[e] at hc1;simp at hc1
 exact⟨by simp[h1],rfl⟩;rintro b w1 ⟨rfl,rfl⟩;have f01:Fr [] w w.drew:=(Fr.refl [] w).drew;refine qaa (fun hc=>same (by rw[commitM,if_neg ho,if_pos (zC hc)]) f01) (fun hc=>?_);have hne:=zB hc;refine qvc (hpag0.frame0 f01) hW (fun hpl w2 f2=>?_) (fun sp sm pages named w2 hpl f2 hrd=>?_);exact cond_true rfl<|same (by rw[commitM,if_neg ho,if_neg hne,hpl]) (f01.trans f2);refine cond_false rfl ?_;have hcm:commitM D M=if (flushM D M.fresh pages named (nextS M pages named)).2≠0 then (((flushM D M.fresh pages named (nextS M pages named)).1,overM),(flushM D M.fresh pages named (nextS M pages named)).2)
  else (((flushM D M.fresh pages named (nextS M pages named)).1,begunM (nextS M pages named) pages named (M.turn+1) false named),0):=by rw[commitM,if_neg ho,if_neg hne,hpl]
 have hplan:=hpl;unfold planM at hplan;split at hplan;cases hplan;rename_i hroom;have hpn:=yN hplan;have hpg:pages=M.free.take (needP (M.free.length+(M.deferred++M.lists).length)):=(congrArg Prod.fst hpn).symm;have hnm:named=insAll ((M.deferred++M.lists)++M.free.drop (needP (M.free.length+(M.deferred++M.lists).length))):=(congrArg Prod.snd hpn).symm;have hplf:pages.length<=M.free.length:=(by rw[hpg,yK];omega);have hpl4:pages.length<=4096:=(by omega);have hnl4:named.length<=4096:=by
  have:=qmc ((M.deferred++M.lists)++M.free.drop (needP (M.free.length+(M.deferred++M.lists).length)))
  rw[<- hnm] at this;simp only[zF,yB] at this;omega
 have hpm:∀x∈pages,2<=x/\x<M.sup.2.getD 0 0:=fun x hx=>by rw[hpg] at hx;exact hW.range x (zH _ (yU hx))
 have hblk4:=hW.n4;have hpu:∀x∈pages,U32 x:=fun x hx=>by have:=hpm x hx;constructor<;>omega
 have hns:named.Pairwise (· < ·):=(by rw[hnm];exact qaX _);have f02:=f01.trans f2;have hx2:=hx.frame0 f02;have hx2d:=hx2.frame0 (Fr.refl [] w2).drew;refine qae (qai (w:=w2.drew) (c:=.int .u64) hx2d.cell M.sup.1 quw ?_);refine qae (qai (w:=w2.drew) (c:=.u) hx2d.cell (M.sup.2.getD 0 0) (qp8 hx.suplen 0) ?_);refine qae (qa0 (b:=pb) (off:=36) hx2d.cell (M.roots.map (Value.int .u32)) (by rw[zK,hx.rootlen]) (qhV hx.suplen hx.rootlen) ?_);have hmlen:sm.len=named.length:=(hrd [] (by simp)).2.1;refine qaQ (ts:=[Ty1.raw]) (supV (wrap .u64 (M.sup.1+1)) ([M.sup.2.getD 0 0,0,wrap .u32 (named.length:Int)]++M.roots)) (by rw[<- hmlen];exact qsv hx.rootlen _) ?_;have hplen:sp.len=pages.length:=(hrd [] (by simp)).1.1;refine oI (oE [] w2.drew) qfw fun r w3 e3 ho3=>?_;have hx3:=hx2d.frame0 ho3.fr;refine qap (qbi hx3.cell _ 36 0 (by show _=_;rw[zK,hx.rootlen];exact qhV hx.suplen hx.rootlen)) (by show _=_;simp only[Addr.add_mk];rw[qag hx3.cell];exact qp8 hx.suplen 0) (by show _=_;rw[qag hx3.cell];exact quw) ?_;have l27:([M.sup.2.getD 0 0,0,wrap .u32 (named.length:Int)]++M.roots).length=27:=(by rw[zF,hx.rootlen];rfl);have n27:(nextS M pages named).2.length=27:=(by show ([M.sup.2.getD 0 0,pages.headD 0,wrap .u32 (named.length:Int)]++M.roots).length=27;rw[zF,hx.rootlen];rfl);have hG:∀b∈FD++pb::mb::(F1++F2),b<w.heap.size:=fun b hb=>by rcases zD.1 hb with h|h;exact hdisk.lt b h;exact hx.lt b h
 have hrdG:=hrd (FD++pb::mb::(F1++F2)) hG;refine qg7 ho3 0 rfl rfl l27 fun w4 ho4=>qaf (fun _ w'=>Own [] w2.drew w' [(r,.cells (supV (nextS M pages named).1 (nextS M pages named).2).toArray 121 (0,0))]) ?_ ?_;apply qaa<;>intro hc;have hp0:0<pages.length:=(by have:=zC hc;dsimp only at this;omega);have f24:Fr [] w2 w4:=(Fr.refl [] w2).drew.trans ho4.fr;refine Rd.at ((hrd [] (by simp)).1.frame0 f24) 0 rfl (zA hp0)<|oG ho4 0 rfl (supV (nextS M pages named).1 (nextS M pages named).2).toArray ?_ rfl (by rw[qgl l27];exact zO rfl) fun w5 ho5 f5=>ho5;have hh:pages.headD 0=pages[0]:=by
  cases pages with
  | nil=>simp at hp0
  | cons a r=>rfl
 show splice (supV _ ([M.sup.2.getD 0 0]++0::(wrap .u32 (named.length:Int)::M.roots))).toArray 2 [.u pages[0]]=_
 have:=qmK (q:=wrap .u64 (M.sup.1+1)) (x:=0) (y:=pages[0]) (A:=[M.sup.2.getD 0 0]) (Z:=wrap .u32 (named.length:Int)::M.roots)
 refine this.trans ?_;rw[nextS,hh];rfl;have hp0:pages=[]:=eq_nil_of_length_eq_zero (by have:=zB hc;dsimp only at this;omega);have e:supV (nextS M pages named).1 (nextS M pages named).2=supV (wrap .u64 (M.sup.1+1)) ([M.sup.2.getD 0 0,0,wrap .u32 (named.length:Int)]++M.roots):=by rw[nextS,hp0];rfl
 rw[e];exact ho4;rintro _ w5 ho5;refine qeT (ho5.at (i:=0) rfl) n27 ?_;have f25:Fr [] w2 w5:=(Fr.refl [] w2).drew.trans ho5.fr;have f05:=f02.trans f25;have hd5:=hdisk.frame0 f05;have hp5:=hpag0.frame0 f05;have hq0:0<=(nextS M pages named).1:=by show 0<=wrap .u64 (M.sup.1+1);unfold wrap;have:(IntKind.u64.signed)=false:=rfl;simp only[this,Bool.false_and,Bool.false_eq_true,if_false];exact Int.emod_nonneg _ (by decide)
 have hkeyU:∀x∈M.fresh.map (·.1),U32 x:=fun x hx=>by
  have:=hW.range x (zI _ (zI _ (zI _ hx)))
  constructor<;>omega
 have hkeyN:(M.fresh.map (·.1)).Nodup:=hW.nodup.sublist (((sublist_append_right _ _).trans (sublist_append_right _ _)).trans (sublist_append_right _ _));refine qtv (next:=nextS M pages named) (D:=D) (DS.refl hd5 hlim) (hp5.weakX hsub) hW.body hkeyN hkeyU (by omega) (by omega) (hv.frame0 f05) hg ((hrdG.2.frame0 f25).weak fun b hb=>.inl (zH _ hb)) ((hrdG.1.frame0 f25).weak fun b hb=>.inl (zH _ hb)) (by omega) (by omega) hpu n27 hq0 fun w6 FD6 d6 f6 n6=>?_;have hp6:=hp5.frameX (X':=FD6++X) (f6.mono fun b hb _=>hsub b hb) (fun b hb=>(zD.1 hb).elim (d6.at_.lt b) fun hb=>yC (hp5.xlt b hb) f6.size) fun b hb=>(zD.1 hb).elim (fun hb=>(n6 b hb).imp (hsub b) id) .inl;obtain⟨fb6,defb6,mb6,sl6,sn6,G1,G2,fs6,hF6,hx6⟩:=id hp6;have hpbn:pb∉FD6++X:=fun hm=>hx6.xsep pb hm (by simp);have hFD:∀b∈FD6,b∈FD++pb::mb::(F1++F2)\/w.heap.size<=b:=fun b hb=>by rcases n6 b hb with h|h;exact .inl (zH _ h);exact .inr (zL f05.size h)
 have hlt6:w.heap.size<=w6.heap.size:=zL f05.size f6.size;have f06:Fr (FD++pb::mb::(F1++F2)) w w6:=(f05.mono fun b hb=>by cases hb).trans (f6.mono fun b hb _=>zH _ hb);have hend:∀ {F':List Nat} {w8 w9:World},Fr [pb] w6 w8->Fr [pb] w8 w9->(∀b∈F',b=pb\/w8.heap.size<=b)->Turn (FD++pb::mb::(F1++F2)) w w9 (FD6++F')/\DiskAt w9 dbk FD6 (flushM D M.fresh pages named (nextS M pages named)).1:=by intro F' w8 w9 g8 g9 hF';have g69:=g8.trans g9;refine⟨⟨f06.trans (g69.mono fun b hb _=>by simp at hb;subst hb;simp),fun b hb=>?_⟩,d6.at_.frame g69 fun b hb=>by simp;rintro rfl;exact hpbn (zH _ hb)⟩;rcases zD.1 hb with hb|hb;exact hFD b hb;rcases hF' b hb with h|h;exact .inl (by rw[h];simp);exact .inr (zL (zL hlt6 g8.size) h)
 have hpX:∀ {w8:World},Fr [pb] w6 w8->∀b∈FD6++X,b<w8.heap.size/\b≠pb:=fun g8 b hb=>⟨yC (hp6.xlt b hb) g8.size,fun e=>hpbn (e▸hb)⟩;have hcell6:=hx6.cell;rw[<- qbE] at hcell6;have hwk:(workV (pW fb6) (pW defb6) (some mb6) M.roots).length=27:=qav hx.rootlen;have hlim6:Lim (flushM D M.fresh pages named (nextS M pages named)).1 (k+5000):=d6.lim.mono (by omega);apply qaa<;>intro hc;have hc:(flushM D M.fresh pages named (nextS M pages named)).2≠0:=(by simpa using hc);rw[if_pos hc] at hcm;rw[hcm] at kk;refine qaQ (ts:=[Ty1.raw]) (pgRaw none supZero ⟨none,0,0⟩ ⟨none,0,0⟩ 0 true (workV none none none (zs 24))).toList (qst w6)<|qae ?_;have hsz60:(pgRaw none supZero ⟨none,0,0⟩ ⟨none,0,0⟩ 0 true (workV none none none (zs 24))).toList.length=60:=(by rw[Array.length_toList,qbF rfl];rfl);refine qaN hsz60<|qd2 (b:=pb) (off:=0) hcell6 (pgRaw none supZero ⟨none,0,0⟩ ⟨none,0,0⟩ 0 true (workV none none none (zs 24))) (by rw[qcx (by rw[hsz60,qbF hx.suplen,hwk])]) (qw7 (qv8)) (by rw[hsz60,qbF hx.suplen,hwk];exact zO rfl) fun w7 c7 f7=>qfO (X:=FD6++X) (lists:=[]) (named:=[]) c7 rfl (qav (qaI 24)) (by decide) (hpX f7) (.nil _ _ _ _) (.nil _ _ _ _) (by decide) fun F' w8 hp8 f8 n8=>?_;have he:=hend f7 f8 n8;exact kk FD6 F' w8 he.2 hlim6 hp8 he.1;have hc:¬(flushM D M.fresh pages named (nextS M pages named)).2≠0:=(by simpa using hc);rw[if_neg hc] at hcm;rw[hcm] at kk;have hsup6:w6.heap[r]?=some (.cells (supV (nextS M pages named).1 (nextS M pages named).2).toArray 121 (0,0)):=(by rw[f6.block r (qab (ho5.at (i:=0) rfl)) (fun hm=>by have:=hd5.lt r hm;have:=hdisk.lt r hm;have h1:w.heap.size<=w2.drew.heap.size:=f02.size;omega)];exact ho5.at (i:=0) rfl);refine qeT hsup6 n27<|qae<|qaN (qaG n27)<|qd2 (b:=pb) (off:=1) hcell6 (pgRaw (pW dbk) (nextS M pages named) sl6 sn6 M.turn M.over (workV (pW fb6) (pW defb6) (some mb6) M.roots)) (qs3 hx.suplen n27) (qh2 _ _) (by rw[qaG n27,qbF hx.suplen,hwk];exact zO rfl) fun w7 c7 f7=>qae<|qd2 (b:=pb) (off:=29) c7 (pgRaw (pW dbk) (nextS M pages named) sp sn6 M.turn M.over (workV (pW fb6) (pW defb6) (some mb6) M.roots)) (qod n27) rfl (by rw[qbF n27,hwk];exact zO rfl) fun w8 c8 f8=>qae<|qd2 (b:=pb) (off:=30) c8 (pgRaw (pW dbk) (nextS M pages named) sp sm M.turn M.over (workV (pW fb6) (pW defb6) (some mb6) M.roots)) (qoe n27) rfl (by rw[qbF n27,hwk];exact zO rfl) fun w9 c9 f9=>?_;have f69:=(f7.trans f8).trans f9;have hGX:∀b∈X++[pb],b<w.heap.size:=fun b hb=>by rcases zD.1 hb with h|h;exact hx.xlt b h;rw[zE.1 h];exact qab hx.cell
 have hrdX:=hrd (X++[pb]) hGX;have hst:∀ {s:Sl} {l:List Int},Rd (X++[pb]) w2 s l->Rd ((FD6++X)++[pb]) w9 s l:=fun hr=>by
  have h5:=hr.frame0 f25;have h6:Rd ((FD6++X)++[pb]) w6 _ _:=h5.frame (f6.mono fun b hb _=>zH _ (hsub b hb)) fun b hb=>by rcases zD.1 hb with hb|hb;rcases zD.1 hb with hb|hb;rcases n6 b hb with h|h;exact .inl (zH _ (hsub b h));exact .inr h;exact .inl (zH _ hb);exact .inl (zI _ hb)
  exact h6.frame (f69.mono fun b hb _=>zI _ hb) fun b hb=>.inl hb
 refine qfO (X:=FD6++X) (lists:=pages) (named:=named) c9 n27 hwk ht (hpX f69) (hst hrdX.1) (hst hrdX.2) (by omega) fun F' w10 hp10 f10 n10=>?_;rw[qi2 hns,hof] at hp10;have he:=hend f69 f10 n10;exact kk FD6 F' w10 he.2 hlim6 hp10 he.1
end
def setRootM (M:PgM) (t h u y:Int):Int×PgM:=
 if M.over then (7,M) else if t<0\/t>7 then (4,M) else (0,{ M with roots:=M.roots.take (3*t.toNat)++[h,u,y]++M.roots.drop (3*t.toNat+3) })
def pagerReadM (D:DiskM) (M:PgM) (n:Int):Int×List Int×Int:=
 if M.over then (0,[],7) else match look n M.fresh with
 | some q=>(q.2.1,q.2.2,0)
 | none=>if usedV M n=false then (0,[],10) else if (readV D n).2≠0 then (0,[],(readV D n).2) else openV n (readV D n).1
theorem qnf(u:D.Ok)(y:∀e∈M.fresh,IsB e.2.2)(n:Int):IsB (pagerReadM D M n).2.1:=by have h:IsB ([]:List Int):=fun x z=>nomatch z;unfold pagerReadM;split;exact h;split;rename_i q A;exact y _ (qa1 A).2;split;exact h;split;exact h;exact (qn3 (qbW u n).1 n).1
def PgM.Named (M:PgM):Prop:=(M.free++M.fresh.map (·.1)).Perm M.named
theorem qcC(s:Sup)(pages numbers:List Int)(t:Int)(ov:Bool):(begunM s pages numbers t ov numbers).Named:=by show (numbers++[]).Perm numbers;rw[xF]
theorem qsR{kd:Int}(A:M.Wf)(h:M.Named):(makeV M kd l).2.Named:=by
 unfold makeV;split;exact h;split;exact h;split;exact h;rename_i n r y;have u:n∉M.fresh.map (·.1):=fun C=>by have z:=A.nodup;rw[y,xH,nodup_cons] at z;exact z.1 (zI _ (zI _ (zI _ C)))
 show (r++(setL n (kd,l) M.fresh).map (·.1)).Perm M.named;rw[qqp u,xJ,<- zV];refine (perm_append_singleton n _).trans ?_
 have:=h
 rw[PgM.Named,y] at this;exact this
theorem quB{kd:Int}(h:M.Named):(putV M n kd l).2.Named:=by unfold putV;split;exact h;split;exact h;rename_i q u;split;exact h;have y:n∈M.fresh.map (·.1):=mem_map.2 ⟨_,(qa1 u).2,rfl⟩;show (M.free++(setL n (kd,l) M.fresh).map (·.1)).Perm M.named;rw[qoj y];exact h
theorem qsC(A:M.Wf)(h:M.Named):(dropV M n).2.Named:=by
 unfold dropV;split;exact h;split;rename_i q C;have y:n∈M.fresh.map (·.1):=mem_map.2 ⟨_,(qa1 C).2,rfl⟩;have z:=A.nodup;have u:n∉M.free:=fun h=>by rw[yL] at z;exact z.2.2 n h n (zI _ (zI _ y)) rfl
 show (ins n M.free++(delL n M.fresh).map (·.1)).Perm M.named;refine (((qcN u).append_right _).trans ?_).trans h;exact perm_middle.symm.trans ((qnI y).symm.append_left M.free);split;exact h;exact h
theorem PgM.Named.mem(h:M.Named)(x:Int):x∈M.named↔x∈M.free\/x∈M.fresh.map (·.1):=by rw[<- h.mem_iff,zD]
def strL (l:List Int):ByteArray:=⟨(Lib.bytesOf l).toArray⟩
theorem qaF(l:List Int):(strL l).size=l.length:=by simp[strL,ByteArray.size,Lib.bytesOf]
theorem qqv(a b:List Int):strL a++strL b=strL (a++b):=by apply ByteArray.ext;simp[strL,Lib.bytesOf]
theorem qkT(l:List Int):(strL l).data.toList=Lib.bytesOf l:=by simp[strL]
theorem qv4(u:IsB l){n:Nat}(h:n<l.length):∃b,(strL l)[n]?=some b/\(b.toNat:Int)=l[n]:=by have y:=u l[n] (zW h);refine⟨UInt8.ofNat l[n].toNat,?_,?_⟩;show (if h:n<(strL l).size then some _ else none)=_;rw[dif_pos (by rw[qaF];exact h)];show some ((strL l).data[n]'_)=_;simp[strL,Lib.bytesOf];simp;omega
theorem qqx(l:List Int)(i j:Nat)(h:i<=j)(u:j<=l.length):(strL l).extract i j=strL ((l.take j).drop i):=by apply ByteArray.ext;simp[strL,Lib.bytesOf,drop_take]
theorem qqS(A:IsB a)(C:IsB b)(h:Lib.bytesOf a=Lib.bytesOf b):a=b:=by
 induction a generalizing b with
 | nil=>cases b with
  | nil=>rfl
  | cons y b=>simp[Lib.bytesOf] at h
 | cons x a ih=>cases b with
  | nil=>simp[Lib.bytesOf] at h
  | cons y b=>
   have E:=congrArg (·.head?) h;have G:=congrArg List.tail h;simp[Lib.bytesOf] at E;have I:=A x (by simp);have J:=C y (by simp);have e:x.toNat=y.toNat:=by
    have:=congrArg UInt8.toNat E
    simp at this;omega
   rw[ih (fun z u=>A z (zN _ u)) (fun z u=>C z (zN _ u)) G,show x=y by omega]
theorem qv5(u:IsB a)(y:IsB b)(h:strL a=strL b):a=b:=
 qqS u y (by rw[<- qkT,<- qkT,h])
theorem qxJ{s:Sl}{src dst e:TypeId}(h:RdB S w s l)(hB:IsB l)(hs:prog.underlying src=some (.slice e))(he:prog.underlying e=some (.int .u8))(hd:prog.underlying dst=some .string): (convert src dst (.slice s.a s.len s.cap)).run prog w=.ok (.string (strL l)) w:=by
 cases ha:s.a with
 | none=>
  have hl0:l=[]:=by rcases h.2.2 with h3|⟨b,o,cs,T,fr,ha',_⟩;exact h3;rw[ha] at ha';cases ha'
  subst hl0;rw[run_convert_bytes_string w src dst e none s.len s.cap hs he hd,h.1];rfl
 | some a=>
  have hc:=h.cells qat ha;have hlen:s.len=(Lib.bytesOf l).length:=(by rw[h.1];simp[Lib.bytesOf]);rw[hlen];refine run_convert_bytes_back w src dst e a s.cap (Lib.bytesOf l) hs he hd fun j hj=>?_;have hj':j<l.length:=(by simpa[Lib.bytesOf] using hj);have hx:=hB l[j] (zW hj');rw[hc j (.int .u8 l[j]) (by rw[qaH,zQ,zA hj'];rfl)];simp[Lib.bytesOf];omega
theorem qqk{s:Sl}{src dst e:TypeId}{K:ByteArray->Prop}(h:RdB S w s l)(hB:IsB l)(hs:prog.underlying src=some (.slice e))(he:prog.underlying e=some (.int .u8))(hd:prog.underlying dst=some .string)(k:K (strL l)): runQ [.one .str] (fun w'=>(convert src dst (.slice s.a s.len s.cap)).run prog w') w K:=by unfold runQ;exact⟨strL l,qxJ h hB hs he hd,k⟩
theorem qjp{s:Sl}{K:ByteArray->Prop}(h:RdB S w s l)(hB:IsB l)(k:K (strL l)): runQ [.one .str] (fun w'=>(convert 23 9 (.slice s.a s.len s.cap)).run prog w') w K:=qqk (e:=5) h hB (by kernel_rfl) (by kernel_rfl) (by kernel_rfl) k
theorem quM{src dst e:TypeId}{K:Sl->World->Prop}(hB:IsB l)(hs:prog.underlying src=some .string)(hd:prog.underlying dst=some (.slice e))(he:prog.underlying e=some (.int .u8))(k:∀s w',(∀G:List Nat,(∀b∈G,b<w.heap.size)->RdB G w' s l)->Fr [] w w'->K s w'): Pt.run [Ty1.one Cell.slice] ((convert src dst (.string (strL l))).run prog w) K:=by
 have hrun:=run_bytes_of_string (P:=prog) w src dst e (strL l) hs hd he;have hsz:=qaF l;have hge:(strL l).size<=grownCap w (strL l).size 0 e:=grownCap_ge w (strL l).size 0 e;generalize grownCap w (strL l).size 0 e=G at hrun hge;refine qdy ⟨_,_,_⟩ _ hrun<|k _ _ (fun g hg=>⟨hsz,hge,?_⟩) ((Fr.refl [] w).drew.alloc _);by_cases hl:l=[];exact .inl hl;refine .inr ⟨w.heap.size,0,bytesRow (strL l) G,e,_,rfl,by rw[qbv];exact if_pos rfl,fun hm=>absurd (hg _ hm) (Nat.lt_irrefl _),fun i x hx=>?_⟩;have hi:=(zP.1 hx).1;have hxB:=hB x (yE hx);have e1:(bytesRow (strL l) G).toList[i]?=some (.int .u8 x):=by unfold bytesRow;rw[Array.toList_append,yY (by simp[strL,Lib.bytesOf];exact hi)];simp[strL,Lib.bytesOf,hx];omega
 rw[xO,xQ];apply List.ext_getElem?;intro j;rw[xA,yZ];cases j with
 | zero=>rw[if_pos (by decide),xP,e1];rfl
 | succ j=>rw[iN];rfl
theorem qmL{i:Int}{K:Int->Prop}(h:IsB l)(n:Nat)(hi:i=n)(u:n<l.length)(k:K l[n]):idxS (strL l) i K:=by subst hi;obtain⟨b,y,z⟩:=qv4 h u;unfold idxS;exact⟨b,⟨by omega,by rw[zJ];exact y⟩,by rw[z];exact k⟩
theorem quT{lo hi:Option Int}{K:ByteArray->Prop}(a b:Nat)(h:lo.getD 0=a)(u:hi.getD l.length=b)(y:a<=b)(z:b<=l.length)(k:K (strL ((l.take b).drop a))):slcS (strL l) lo hi K:=by unfold slcS;rw[qaF];refine⟨⟨by omega,by omega,by omega⟩,?_⟩;rw[h,u,zJ,zJ,qqx l a b y z];exact k
theorem qqw(u:IsB a)(y:IsB b):((strL a).toList==(strL b).toList)=decide (a=b):=by
 rw[Bool.eq_iff_iff,yO,yM];constructor;intro h;refine qv5 u y ?_;have z:(strL a).data.toList=(strL b).data.toList:=by rw[<- Go.ByteArray.toList_eq,<- Go.ByteArray.toList_eq,h]
 exact ByteArray.ext (Array.toList_inj.1 z);rintro rfl;rfl
def fuseM (D:DiskM) (n:Int):DiskM:=if D.down then D else { D with fuse:=if n<0 then -1 else n }
def bnd (n:Int):Nat:=if n<0 then 0 else if n>512 then 512 else n.toNat
theorem qtE(n:Int):bnd n<=512:=by unfold bnd;split<;>(try split)<;>omega
theorem qww(x:Int):(if 512<(if 0>x then 0 else x) then 512 else (if 0>x then 0 else x))=(bnd x:Int):=by unfold bnd;by_cases h:x<0;rw[if_pos (show 0>x from h),if_pos h];rfl;rw[if_neg (show ¬0>x from h),if_neg h];by_cases h2:x>512;rw[if_pos h2,if_pos h2];rfl;rw[if_neg h2,if_neg h2];omega
def overlayB (u new:Blk) (f t:Nat):Blk:=if h:f<t/\t<=512 then ⟨u.1.take f++(new.1.drop f).take (t-f)++u.1.drop t,by
 have y:=u.2
 have z:=new.2
 simp only[zF,yK,yB]
 omega⟩ else u
def crashStep (s:List Blk) (x:(Int×Blk)×(Int×Int)):List Blk:=s.set x.1.1.toNat (overlayB (s.getD x.1.1.toNat .zero) x.1.2 (bnd x.2.1) (bnd x.2.2))
theorem qeb(l:List ((Int×Blk)×(Int×Int))):∀s:List Blk,(l.foldl crashStep s).length=s.length:=by
 induction l with
 | nil=>intro s;rfl
 | cons x l ih=>intro s;rw[foldl_cons,ih,crashStep,xE]
def crashM (D:DiskM) (ls:List (Int×Int)):DiskM:={ D with safe:=(D.waits.zip ls).foldl crashStep D.safe,waits:=[],down:=false,fuse:=-1 }
theorem qrh{h new:Blk}{f t:Nat}(u:IsB h.1)(y:IsB new.1):IsB (overlayB h new f t).1:=by unfold overlayB;split;exact ((u.take _).append ((y.drop _).take _)).append (u.drop _);exact u
theorem qnE:∀(l:List ((Int×Blk)×(Int×Int))) (s:List Blk),(∀x∈l,IsB x.1.2.1)->(∀b∈s,IsB b.1)->∀b∈l.foldl crashStep s,IsB b.1
 | [],s,_,h=>h
 | x::l,s,z,h=>qnE l (crashStep s x) (fun y A=>z y (zN _ A)) fun b u=>by
  rcases mem_or_eq_of_mem_set u with u|rfl;exact h b u;refine qrh ?_ (z x (by simp));rw[yQ];cases C:s[x.1.1.toNat]? with
  | none=>exact IsB.zs 512
  | some c=>exact h c (yE C)
theorem Lim.crash(h:Lim D k):Lim (crashM D ls) k:=
 ⟨⟨fun x u=>(by cases u),by show -1<=(-1:Int)/\(-1:Int)<=1000000000;decide,by show ((D.waits.zip ls).foldl crashStep D.safe).length<=4096;rw[qeb];exact h.ok.safe,by simp[crashM],h.ok.writes,qnE _ _ (fun x u=>h.ok.bytesW _ (of_mem_zip u).1) h.ok.bytesS,fun x u=>(by cases u)⟩,by simp[crashM],h.writes⟩
theorem Lim.fuse(h:Lim D k)(u:n<=1000000000):Lim (fuseM D n) k:=by unfold fuseM;split;exact h;exact⟨⟨h.ok.at_,by dsimp only;split<;>omega,h.ok.safe,h.ok.waits,h.ok.writes,h.ok.bytesS,h.ok.bytesW⟩,h.waits,h.writes⟩
theorem qu3{db:Nat}{K:Unit->WP}(h:DiskAt w db F D)(A:∀w',DiskAt w' db F (fuseM D n)->Fr [db] w w'->K () w'): cW 54 [.pointer (pW db),.i n] [] w K:=by
 refine qj2 ?_;unfold qfX;obtain⟨sb,y,C⟩:=h.cell;have E:Own [db] w w [(db,.cells (dCells D sb y) DT (0,0))]:=⟨by simpa using C,by simp,.refl _ _,by simp⟩;refine qae (oA E 0 rfl D.down rfl ?_);apply qaa<;>intro u;have u:¬D.down=true:=(by simpa using u);refine qae ?_;have e:(if -1>n then -1 else n)=(if n<0 then -1 else n):=by by_cases h1:n<0;rw[if_pos h1];split<;>omega;rw[if_neg h1,iN]
 rw[e];exact oG E 0 rfl (dCells (fuseM D n) sb y) (by rw[fuseM,if_neg u];rfl) rfl (zO rfl) fun I z G=>A I (h.turn C G (by rw[fuseM,if_neg u]) (by rw[fuseM,if_neg u]) (z.at (i:=0) rfl)) G;have u:D.down=true:=(by simpa using u);exact A w (by rw[fuseM,if_pos u];exact h) (.refl _ _)
theorem qrq{A E u:List Value}{f:Nat}(h:f+u.length<=E.length):splice (A++E++Z).toArray (A.length+f) u=(A++(E.take f++u++E.drop (f+u.length))++Z).toArray:=by
 apply Array.ext';rw[qar _ _ _ (by simp only[size_toArray,zF];omega)];show (A++E++Z).take (A.length+f)++u++(A++E++Z).drop (A.length+f+u.length)=A++(E.take f++u++E.drop (f+u.length))++Z;have e1:(A++E++Z).take (A.length+f)=A++E.take f:=by rw[zV,take_length_add_append,take_append_of_le_length (by omega)]
 have y:(A++E++Z).drop (A.length+f+u.length)=E.drop (f+u.length)++Z:=(by rw[zV,Nat.add_assoc,drop_length_add_append,drop_append_of_le_length (by omega)]);rw[e1,y];simp only[zV]
theorem qqt{l:List Blk}{i f t:Nat}{new:Blk}(hi:i<l.length)(A:f<t)(C:t<=512): splice (l.flatMap encK++Z).toArray (i*512+f) ((((new.1.drop f).take (t-f))).map (Value.int .u8))=((l.set i (overlayB l[i] new f t)).flatMap encK++Z).toArray:=by
 have h:l=l.take i++l[i]::l.drop (i+1):=(by rw[<- zX hi,xC]);have u:l.set i (overlayB l[i] new f t)=l.take i++overlayB l[i] new f t::l.drop (i+1):=(by rw[set_eq_take_append_cons_drop,if_pos hi]);have y:((l.take i).flatMap encK).length=i*512:=(by rw[qbj qaO,yK,xN (by omega)]);have e1:l.flatMap encK++Z=(l.take i).flatMap encK++encK l[i]++((l.drop (i+1)).flatMap encK++Z):=by
  conv=>lhs;rw[h]
  rw[yP,yG];simp only[zV]
 have E:(l.set i (overlayB l[i] new f t)).flatMap encK++Z=(l.take i).flatMap encK++encK (overlayB l[i] new f t)++((l.drop (i+1)).flatMap encK++Z):=(by rw[u,yP,yG];simp only[zV]);have I:=l[i].2;have J:=new.2;have z:((((new.1.drop f).take (t-f))).map (Value.int .u8)).length=t-f:=(by rw[zK,yK,yB];omega);rw[e1,E,<- y,qrq (by rw[qaO,z];omega),z];refine congrArg List.toArray ?_;congr 2;have G:(overlayB l[i] new f t).1=l[i].1.take f++(new.1.drop f).take (t-f)++l[i].1.drop t:=(by rw[overlayB,dif_pos ⟨A,C⟩]);rw[encK,encK,G,xJ,xJ,xL,xL,xM,xM,show f+(t-f)=t by omega]
theorem qjg{u new:Blk}{f t:Nat}(h:¬f<t:=by decide):overlayB u new f t=u:=dif_neg (fun y=>h y.1)
def encLoss (x:Int×Int):List Value:=[.i x.1,.i x.2]
theorem qsb{b o n f t:Nat}{K:Sl->Prop}(h:f<t)(u:t<=n)(k:K ⟨some ⟨b,o+f,none⟩,t-f,n-f⟩):slcP ⟨b,o,none⟩ n (some (f:Int)) (some (t:Int)) none 1 K:=by unfold slcP;refine⟨by simp;omega,?_⟩;simp only[xT,xS,zJ];rw[iN,Addr.add_mk,xQ];exact k
theorem qse{db c:Nat}{K:Unit->WP}(h:DiskZ w db F D c Z)(hD:D.Ok)(hl:Rds encLoss 2 F w sl ls)(hk:∀F' w',DiskZ w' db F' (crashM D ls) c Z->Fr F w w'->(∀b∈F',b∈F)->K () w'): cW 55 [.pointer (pW db),sl.v] [] w K:=by
 refine qiP ?_;unfold qff;obtain⟨sb,T,A,B,hF,hn,hc,aB,aa⟩:=h;have O:sb≠db:=fun e=>by rw[e] at hn;simp at hn
 have hB:∀b∈B,b∉[sb]:=fun b u he=>by simp at he;subst he;simp at hn;exact hn.2.1 u
 have aW:=aa.len;have aC:=hD.waits;have aD:=hD.safe;have aX:=hl.1;have aE:=fun (k:Nat)=>qeb ((D.waits.zip ls).take k) D.safe;refine qaf (fun _ w'=>w'.heap[sb]?=some (.cells (((D.waits.zip ls).foldl crashStep D.safe).flatMap encK++Z).toArray T (0,0))/\Fr [sb] w w') ?_ ?_
 ·refine qae (qai hc A rfl ?_);refine qah (fun x w'=>∃i:Nat,x=i/\i<=D.waits.length/\i<=ls.length/\w'.heap[sb]?=some (.cells ((((D.waits.zip ls).take i).foldl crashStep D.safe).flatMap encK++Z).toArray T (0,0))/\Fr [sb] w w') (fun x _=>((D.waits.length:Int)-x).toNat)
   ⟨0,rfl,by omega,by omega,aB,.refl _ _⟩ ?_
  rintro x w2 ⟨i,rfl,hi,aY,z,f2⟩ X hX;have R:w2.heap[db]?=some (.cells (dCellsC D sb c A) DT (0,0)):=(by rw[f2.block db (qab hc) (by simpa using fun e=>O e.symm)];exact hc);apply qaa<;>intro C
  ·have aj:i<D.waits.length:=(by have:=zC C;omega);have aF:Rds encW 513 [] w2 A D.waits:=(aa.frame f2 hB).rds qbb (by simp);have ak:=zA aj;have a0:=hD.at_ D.waits[i] (zW aj);refine qub<|aF.getV qbb i rfl ak<|Own.newFill (oE [] w2) (by kernel_rfl) (qbb _) (qhA _) fun r E er ho=>?_;have G:E.heap[sb]?=some (.cells ((((D.waits.zip ls).take i).foldl crashStep D.safe).flatMap encK++Z).toArray T (0,0)):=(by rw[ho.fr.block sb (qab z) (by simp)];exact z);have aG:E.heap[db]?=some (.cells (dCellsC D sb c A) DT (0,0)):=(by rw[ho.fr.block db (qab R) (by simp)];exact R);have U:Fr [sb] w E:=f2.trans (ho.fr.mono fun b u=>by cases u);apply qaa<;>intro ad;have a1:ls.length<=i:=(by have:=zC ad;omega);refine⟨?_,U⟩;have:(D.waits.zip ls).take i=D.waits.zip ls:=zS (by rw[length_zip];omega);rw[this] at G;exact G;have al:i<ls.length:=(by have:=zB ad;omega);have aH:Rds encLoss 2 [] E sl ls:=(hl.frame (U.mono fun b u _=>by simp at u;subst u;rw[hF];simp) (fun b u=>.inl u)).weak (fun b u=>by cases u);obtain⟨a2,bb,oo,ha,_,am,lT,a3,an,ao⟩:=aH.at i (zA al);have c0:am[oo+i*2]?=some (.i ls[i].1):=by
    have:=congrArg (·[0]?) ao
    simpa[encLoss] using this
   have c1:am[oo+i*2+1]?=some (.i ls[i].2):=by
    have:=congrArg (·[1]?) ao
    simpa[encLoss] using this
   refine qbo ha ⟨by omega,by omega⟩ ?_;rw[zJ];refine qai an ls[i].1 c0<|qbo ha ⟨by omega,by omega⟩ ?_;rw[zJ];refine qai an ls[i].2 c1 ?_;simp only[qww];have aI:i<(D.waits.zip ls).length:=(by rw[length_zip];omega);have I:((D.waits.zip ls).take (i+1)).foldl crashStep D.safe=crashStep (((D.waits.zip ls).take i).foldl crashStep D.safe) (D.waits[i],ls[i]):=by rw[yF aI,foldl_append,getElem_zip];rfl
   have ae:=aE i;generalize a6:((D.waits.zip ls).take i).foldl crashStep D.safe=J at G I ae;have af:D.waits[i].1.toNat<J.length:=(by omega);have ap:J.getD D.waits[i].1.toNat .zero=J[D.waits[i].1.toNat]:=(by rw[yQ,zA af];rfl);have a7:=qtE ls[i].1;have ag:=qtE ls[i].2;have next:∀ {w5:World},w5.heap[sb]?=some (.cells ((crashStep J (D.waits[i],ls[i])).flatMap encK++Z).toArray T (0,0))->Fr [sb] w w5->X (wrap .i64 ((i:Int)+1)) w5:=fun h5 f5=>by rw[wi' _ (by omega)];exact hX _ _ ⟨i+1,by simp,by omega,by omega,by rw[I];exact h5,f5⟩ (by omega)
   apply qaa<;>intro ah
   ·have y:bnd ls[i].1<bnd ls[i].2:=(by have:=zC ah;omega);refine qae (qai (w:=E.drew) aG ⟨pW sb,D.safe.length,c⟩ rfl ?_);have ar:=ho.at (i:=0) rfl;refine qai (w:=E.drew) ar D.waits[i].1 rfl<|qcZ (by omega) (by omega)<|qsb y ag<|qsb y ag ?_;have aK:Own [sb] w E.drew [(sb,.cells (J.flatMap encK++Z).toArray T (0,0))]:=⟨by simpa using (show E.drew.heap[sb]?=_ from G),by simp,U.drew,by simp⟩;have hW:=D.waits[i].2.2;have au:(((D.waits[i].2.1.drop (bnd ls[i].1)).take (bnd ls[i].2-bnd ls[i].1)).map (Value.int .u8)).length=bnd ls[i].2-bnd ls[i].1:=(by rw[zK,yK,yB];omega);refine Own.copy1 (el:=5) (src:=⟨some ⟨r,1+bnd ls[i].1,none⟩,bnd ls[i].2-bnd ls[i].1,512-bnd ls[i].1⟩) (vs:=((D.waits[i].2.1.drop (bnd ls[i].1)).take (bnd ls[i].2-bnd ls[i].1)).map (Value.int .u8)) aK 0 rfl (by kernel_rfl) (by kernel_rfl) (by rw[au];exact (Nat.min_self _).symm) (fun _=>⟨_,rfl,fun j v hj=>?_⟩) (fun v hv=>?_) (by rw[au,size_toArray,zF,qbj qaO];omega) fun w4 V=>?_;rw[Addr.add_mk,qag (w:=E.drew) ar];rw[zQ,xA] at hj;split at hj;rw[yZ] at hj;rw[List.getElem?_toArray];show (Value.int .i64 D.waits[i].1::encK D.waits[i].2)[1+bnd ls[i].1+j]?=some v;rw[show 1+bnd ls[i].1+j=(bnd ls[i].1+j)+1 by omega,List.getElem?_cons_succ,encK,zQ];exact hj;cases hj;obtain⟨x,_,rfl⟩:=mem_map.1 hv;rfl
    ·refine next ?_ V.fr
     have aL:=qqt (l:=J) (new:=D.waits[i].2) (Z:=Z) af y ag
     have:=V.at (i:=0) rfl
     rw[xO,aL] at this;rw[crashStep,ap];exact this
   ·have y:¬bnd ls[i].1<bnd ls[i].2:=(by have:=zB ah;omega);refine next ?_ U
    rw[crashStep,ap,qjg y];have:J.set D.waits[i].1.toNat J[D.waits[i].1.toNat]=J:=set_getElem_self af;show E.heap[sb]?=some (.cells ((J.set D.waits[i].1.toNat J[D.waits[i].1.toNat]).flatMap encK++Z).toArray T (0,0));rw[this];exact G
  have ba:i=D.waits.length:=(by have:=zB C;omega);refine⟨?_,f2⟩;have:(D.waits.zip ls).take i=D.waits.zip ls:=zS (by rw[length_zip];omega);rw[this] at z;exact z
 rintro _ w2 ⟨z,f2⟩;have R:w2.heap[db]?=some (.cells (dCellsC D sb c A) DT (0,0)):=(by rw[f2.block db (qab hc) (by simpa using fun e=>O e.symm)];exact hc);have aM:Own [db] w2 w2 [(db,.cells (dCellsC D sb c A) DT (0,0))]:=⟨by simpa using R,by simp,.refl _ _,by simp⟩;refine qae<|oD aM 0 rfl (dCellsC { D with waits:=[] } sb c ⟨none,0,0⟩) fun E aN f3=>qae<|oD aN 0 rfl (dCellsC { D with waits:=[],down:=false } sb c ⟨none,0,0⟩) fun w4 V f4=>qae ?_;have aO:=qeb (D.waits.zip ls) D.safe;refine oG V 0 rfl (dCellsC (crashM D ls) sb c ⟨none,0,0⟩) (by simp[splice,dCellsC,crashM,aO]) rfl (zO rfl) fun w5 aP f5=>?_;have aw:=(f3.trans f4).trans f5;refine hk [db,sb] w5 ⟨sb,T,⟨none,0,0⟩,[],rfl,by simpa using fun e=>O e.symm,aP.at (i:=0) rfl,?_,.nil _ _ _⟩ ((f2.mono fun b u _=>by simp at u;subst u;rw[hF];simp).trans (aw.mono fun b u _=>by simp at u;subst u;rw[hF];simp)) (fun b u=>by rw[hF];simp at u;rcases u with rfl|rfl<;>simp);rw[aw.block sb (qab z) (by simpa using O)];exact z
theorem qtr{db:Nat}{K:Unit->WP}(h:DiskAt w db F D)(y:D.Ok)(A:Rds encLoss 2 F w sl ls)(C:∀F' w',DiskAt w' db F' (crashM D ls)->Fr F w w'->(∀b∈F',b∈F)->K () w'): cW 55 [.pointer (pW db),sl.v] [] w K:=
 qse h.z y A fun F' w' u=>C F' w' (by have e:D.safe.length=(crashM D ls).safe.length:=(qeb _ _).symm;rw[e] at u;exact u.at)
end
section
open Go Go.Pt List
open Go.IntKind (wrap)
open Classical
variable {D:DiskM} {L L2:Prs} {M:PgM} {N Nl Nr:NodeM} {R R1 R2 b:List Int} {h n1 n2:Nat} {kd n p q:Int} {key m:Key} {r:Int×List Int}
def lookv {β:Type} (n:Int) (l:List (Int×β)):Option β:=(look n l).map (·.2)
theorem qbx{β:Type}(n:Int)(p:Int×β)(r:List (Int×β)):lookv n (p::r)=if n=p.1 then some p.2 else lookv n r:=by unfold lookv;rw[look];split;rfl;cases look n r<;>rfl
theorem quO{β:Type}(n:Int)(v:β)(p:Int×β)(r:List (Int×β)):setL n v (p::r)=if n=p.1 then (n,v)::r else p::setL n v r:=by by_cases h:n=p.1;rw[if_pos h];unfold setL;rw[look,if_pos h];rfl;rw[if_neg h];unfold setL;rw[look,if_neg h];cases look n r<;>rfl
theorem qtP{β:Type}(n:Int)(p:Int×β)(r:List (Int×β)):delL n (p::r)=if n=p.1 then r else p::delL n r:=by by_cases h:n=p.1;rw[if_pos h];unfold delL;rw[look,if_pos h];rfl;rw[if_neg h];unfold delL;rw[look,if_neg h];cases look n r<;>rfl
theorem qf5{β:Type}(n q:Int)(v:β):∀l:List (Int×β),lookv q (setL n v l)=if q=n then some v else lookv q l
 | []=>by show lookv q [(n,v)]=_;rw[qbx]
 | p::r=>by rw[quO];by_cases h:n=p.1;rw[if_pos h,qbx,qbx,<- h];by_cases h2:q=n;rw[if_pos h2,if_pos h2];rw[if_neg h2,if_neg h2,if_neg h2];rw[if_neg h,qbx,qf5 n q v r,qbx];by_cases h2:q=p.1;rw[if_pos h2,if_neg (fun e=>h (by rw[<- e,h2])),if_pos h2];rw[if_neg h2,if_neg h2]
theorem qdv{β:Type}{l:List (Int×β)}:lookv n l=none↔n∉l.map (·.1):=by unfold lookv;rw[Option.map_eq_none_iff,qbl]
theorem qnX{β:Type}(n q:Int):∀l:List (Int×β),(l.map (·.1)).Nodup->lookv q (delL n l)=if q=n then none else lookv q l
 | [],_=>by show lookv q []=_;split<;>rfl
 | p::r,y=>by have u:=nodup_cons.1 (show (p.1::r.map (·.1)).Nodup from y);rw[qtP];by_cases h:n=p.1;rw[if_pos h,qbx];by_cases h2:q=n;rw[if_pos h2,h2,h];exact qdv.2 u.1;rw[if_neg h2,if_neg (fun e=>h2 (by rw[e,h]))];rw[if_neg h,qbx,qnX n q r u.2,qbx];by_cases h2:q=p.1;rw[if_pos h2,if_neg (fun e=>h (by rw[<- e,h2])),if_pos h2];rw[if_neg h2,if_neg h2]
theorem qt8(n:Int):∀l:List Int,l.length<=(ins n l).length
 | []=>yW _
 | a::l=>by
  have:=qt8 n l
  simp only[ins];split;simp;split;exact zM _;simp only[yH];omega
theorem qaC:usedV M n=true↔2<=n/\n<M.sup.2.getD 0 0/\n∉M.lists/\n∉M.free/\n∉M.deferred/\lookv n M.fresh=none:=by unfold usedV lookv;rw[Option.map_eq_none_iff];simp only[yA,zT,Bool.or_eq_false_iff,decide_eq_false_iff_not,Option.isNone_iff_eq_none];constructor;rintro⟨⟨⟨⟨⟨A,C⟩,h⟩,u⟩,y⟩,z⟩;exact⟨by omega,by omega,h,u,y,z⟩;rintro⟨A,C,h,u,y,z⟩;exact⟨⟨⟨⟨⟨by omega,by omega⟩,h⟩,u⟩,y⟩,z⟩
def InUse (M:PgM) (x:Int):Prop:=x∈M.fresh.map (·.1)\/usedV M x=true
theorem fresh_look{x:Int}:x∈M.fresh.map (·.1)↔∃q,lookv x M.fresh=some q:=by
 constructor;intro h;cases e:lookv x M.fresh with
 | none=>exact absurd h (qdv.1 e)
 | some q=>exact⟨q,rfl⟩
 rintro⟨q,e⟩;exact Classical.byContradiction fun h=>by rw[qdv.2 h] at e;cases e
theorem qoP(h:M.over=false)(n:Int):pagerReadM D M n=match lookv n M.fresh with
  | some q=>(q.1,q.2,0)
  | none=>if usedV M n=false then (0,[],10) else if (readV D n).2≠0 then (0,[],(readV D n).2) else openV n (readV D n).1:=by
 unfold pagerReadM lookv;rw[if_neg (by rw[h];decide)];cases look n M.fresh<;>rfl
theorem qqf(u:M.over=false)(h:(pagerReadM D M n).2.2=0):InUse M n:=by
 rw[qoP u] at h;cases e:lookv n M.fresh with
 | some q=>exact .inl (fresh_look.2 ⟨q,e⟩)
 | none=>
  rw[e] at h;dsimp only at h;split at h;cases h;rename_i y;exact .inr (by simpa using y)
theorem quF(M:PgM)(u:M.over=false){q:Int×List Int}(h:lookv n M.fresh=some q):pagerReadM D M n=(q.1,q.2,0):=by rw[qoP u,h]
theorem qe4(M':PgM)(u:M.over=false)(h:M'.over=false)(y:lookv n M'.fresh=lookv n M.fresh)(z:usedV M' n=usedV M n):pagerReadM D M' n=pagerReadM D M n:=by rw[qoP u,qoP h,y,z]
theorem qdU(M':PgM)(h:lookv n M'.fresh=lookv n M.fresh)(u:usedV M' n=usedV M n):InUse M' n↔InUse M n:=by unfold InUse;rw[fresh_look,fresh_look,h,u]
theorem qhn(u:M.Wf){x:Int}(h:InUse M x):2<=x/\x<M.sup.2.getD 0 0:=by rcases h with h|h;exact u.range x (by simp only[zD];exact .inr (.inr (.inr h)));exact⟨(qaC.1 h).1,(qaC.1 h).2.1⟩
structure Turned (D:DiskM) (M M':PgM) (q p:Int) (r:Option (Int×List Int)):Prop where
 wf:M'.Wf
 over:M'.over=false
 roots:M'.roots=M.roots
 sup:M'.sup=M.sup
 lists:M'.lists=M.lists
 named:M'.named=M.named
 Named:M.Named->M'.Named
 turn:M'.turn=M.turn
 rest:∀ x,x≠q->x≠p->pagerReadM D M' x=pagerReadM D M x
 use:∀ x,x≠q->x≠p->(InUse M' x↔InUse M x)
 old:∀ x,usedV M' x=true->usedV M x=true
 wrote:∀ y,r=some y->pagerReadM D M' q=(y.1,y.2,0)/\InUse M' q
 left:p≠q->¬ InUse M' p
section
variable {D:DiskM} {M:PgM}
theorem qq9{A:List Int}(I:M.Wf)(E:M.over=false)(hk:0<=kd/\kd<256)(hB:IsB b)(hl:b.length<=500)(G:M.free=n::A): ∃M',makeV M kd b=((n,0),M')/\Turned D M M' n n (some (kd,b))/\¬InUse M n/\M'.free=A/\M'.deferred=M.deferred:=by
 have e:makeV M kd b=((n,0),{ M with free:=A,fresh:=setL n (kd,b) M.fresh }):=(by rw[makeV,if_neg (by rw[E];decide),iN,G]);have hw:=(qr6 (kind:=kd) (body:=b) I hk hB).1;rw[e] at hw;have J:(n::(A++(M.deferred++(M.lists++M.fresh.map (·.1))))).Nodup:=(by have:=I.nodup;rw[G] at this;exact this);have K:=nodup_cons.1 J;have O:n∉M.fresh.map (·.1):=fun h=>K.1 (by simp only[zD];exact .inr (.inr (.inr h)));have R:¬InUse M n:=fun h=>by rcases h with h|h;exact O h;exact (qaC.1 h).2.2.2.1 (by rw[G];simp)
 have u:∀x,lookv x (setL n (kd,b) M.fresh)=if x=n then some (kd,b) else lookv x M.fresh:=fun x=>qf5 n x _ _
 have C:∀x,x≠n->usedV { M with free:=A,fresh:=setL n (kd,b) M.fresh } x=usedV M x:=fun x z=>by rw[Bool.eq_iff_iff,qaC,qaC];dsimp only;rw[u,if_neg z,G,zG];constructor;rintro⟨U,V,h3,h4,h5⟩;exact⟨U,V,h3,fun h=>h.elim z h4,h5⟩;rintro⟨U,V,h3,h4,h5⟩;exact⟨U,V,h3,fun h=>h4 (.inr h),h5⟩
 refine⟨_,e,⟨hw,E,rfl,rfl,rfl,rfl,fun h=>?_,rfl,fun x z _=>qe4 { M with free:=A,fresh:=setL n (kd,b) M.fresh } E E (by dsimp only;rw[u,if_neg z]) (C x z),fun x z _=>qdU { M with free:=A,fresh:=setL n (kd,b) M.fresh } (by dsimp only;rw[u,if_neg z]) (C x z),fun x z=>?_,fun y hy=>?_,fun h=>absurd rfl h⟩,R,rfl,rfl⟩
 have:=qsR (kd:=kd) (l:=b) I h
 rw[e] at this;exact this;by_cases hxn:x=n
 have:=(qaC.1 z).2.2.2.2.2
 dsimp only at this;rw[u,if_pos hxn] at this;cases this;rw[C x hxn] at z;exact z;cases hy;refine⟨?_,.inl (fresh_look.2 ⟨(kd,b),by dsimp only;rw[u,if_pos rfl]⟩)⟩;exact quF { M with free:=A,fresh:=setL n (kd,b) M.fresh } E (by dsimp only;rw[u,if_pos rfl])
theorem qs2(I:M.Wf)(C:M.over=false)(J:0<=kd/\kd<256)(K:IsB b)(V:b.length<=500)(O:n∈M.fresh.map (·.1)): ∃M',putV M n kd b=(0,M')/\Turned D M M' n n (some (kd,b))/\M'.free=M.free/\M'.deferred=M.deferred:=by
 obtain⟨v,E⟩:=fresh_look.1 O;have e:putV M n kd b=(0,{ M with fresh:=setL n (kd,b) M.fresh }):=by unfold lookv at E;obtain⟨q,R,_⟩:=yS.1 E;rw[putV,if_neg (by rw[C];decide),R];dsimp only;rw[iN]
 have G:=(quD (n:=n) (kind:=kd) (body:=b) I J K).1;rw[e] at G;have u:∀x,lookv x (setL n (kd,b) M.fresh)=if x=n then some (kd,b) else lookv x M.fresh:=fun x=>qf5 n x _ _
 have A:∀x,usedV { M with fresh:=setL n (kd,b) M.fresh } x=usedV M x:=fun x=>by rw[Bool.eq_iff_iff,qaC,qaC];dsimp only;rw[u];by_cases z:x=n;rw[if_pos z,z,E];simp;rw[if_neg z]
 refine⟨_,e,⟨G,C,rfl,rfl,rfl,rfl,fun h=>?_,rfl,fun x z _=>qe4 { M with fresh:=setL n (kd,b) M.fresh } C C (by dsimp only;rw[u,if_neg z]) (A x),fun x z _=>qdU { M with fresh:=setL n (kd,b) M.fresh } (by dsimp only;rw[u,if_neg z]) (A x),fun x z=>by rw[A x] at z;exact z,fun y U=>?_,fun h=>absurd rfl h⟩,rfl,rfl⟩
 have:=quB (n:=n) (kd:=kd) (l:=b) h
 rw[e] at this;exact this;cases U;refine⟨?_,.inl (fresh_look.2 ⟨(kd,b),by dsimp only;rw[u,if_pos rfl]⟩)⟩;exact quF { M with fresh:=setL n (kd,b) M.fresh } C (by dsimp only;rw[u,if_pos rfl])
theorem quC(h:M.over=false)(u:n∉M.fresh.map (·.1)):putV M n kd b=(10,M):=by rw[putV,if_neg (by rw[h];decide),qbl.2 u]
theorem qkr(hW:M.Wf)(K:M.over=false)(hu:InUse M n)(G:n≠q:=by omega): ∃M',dropV M n=(0,M')/\Turned D M M' q n none/\(pagerReadM D M' q=pagerReadM D M q)/\(InUse M' q↔InUse M q)/\M.free.length<=M'.free.length:=by
 have hw:=qrO (n:=n) hW;by_cases hf:n∈M.fresh.map (·.1);obtain⟨v,hv⟩:=fresh_look.1 hf;have ae:(M.fresh.map (·.1)).Nodup:=hW.keysNodup;have e:dropV M n=(0,{ M with fresh:=delL n M.fresh,free:=ins n M.free }):=by unfold lookv at hv;obtain⟨y,I,_⟩:=yS.1 hv;rw[dropV,if_neg (by rw[K];decide),I]
 rw[e] at hw;have J:∀x,lookv x (delL n M.fresh)=if x=n then none else lookv x M.fresh:=fun x=>qnX n x _ ae
 have A:∀x,x≠n->usedV { M with fresh:=delL n M.fresh,free:=ins n M.free } x=usedV M x:=fun x u=>by rw[Bool.eq_iff_iff,qaC,qaC];dsimp only;rw[J,if_neg u,qdQ];constructor;rintro⟨O,R,U,V,h5⟩;exact⟨O,R,U,fun h=>V (.inr h),h5⟩;rintro⟨O,R,U,V,h5⟩;exact⟨O,R,U,fun h=>h.elim u V,h5⟩
 have C:¬InUse { M with fresh:=delL n M.fresh,free:=ins n M.free } n:=fun h=>by rcases h with h|h;obtain⟨y,I⟩:=fresh_look.1 h;dsimp only at I;rw[J,if_pos rfl] at I;cases I;exact (qaC.1 h).2.2.2.1 (qdQ.2 (.inl rfl))
 have E:∀x,x≠n->pagerReadM D { M with fresh:=delL n M.fresh,free:=ins n M.free } x=pagerReadM D M x:=fun x u=>qe4 { M with fresh:=delL n M.fresh,free:=ins n M.free } K K (by dsimp only;rw[J,if_neg u]) (A x u);have z:∀x,x≠n->(InUse { M with fresh:=delL n M.fresh,free:=ins n M.free } x↔InUse M x):=fun x u=>qdU { M with fresh:=delL n M.fresh,free:=ins n M.free } (by dsimp only;rw[J,if_neg u]) (A x u);refine⟨_,e,⟨hw,K,rfl,rfl,rfl,rfl,fun h=>?_,rfl,fun x _ u=>E x u,fun x _ u=>z x u,fun x u=>?_,fun y I=>(nomatch I),fun _=>C⟩,E q fun e=>G e.symm,z q fun e=>G e.symm,?_⟩
 have:=qsC (n:=n) hW h
 rw[e] at this;exact this;by_cases hxn:x=n;subst hxn;exact absurd (.inr u) C;rw[A x hxn] at u;exact u;exact qt8 n M.free;have ab:usedV M n=true:=hu.resolve_left hf;have e:dropV M n=(0,{ M with deferred:=ins n M.deferred }):=by rw[dropV,if_neg (by rw[K];decide),qbl.2 hf];dsimp only;rw[if_pos ab]
 rw[e] at hw;have A:∀x,x≠n->usedV { M with deferred:=ins n M.deferred } x=usedV M x:=fun x u=>by rw[Bool.eq_iff_iff,qaC,qaC];dsimp only;rw[qdQ];constructor;rintro⟨O,R,U,V,h5,h6⟩;exact⟨O,R,U,V,fun h=>h5 (.inr h),h6⟩;rintro⟨O,R,U,V,h5,h6⟩;exact⟨O,R,U,V,fun h=>h.elim u h5,h6⟩
 have C:¬InUse { M with deferred:=ins n M.deferred } n:=fun h=>by rcases h with h|h;exact hf h;exact (qaC.1 h).2.2.2.2.1 (qdQ.2 (.inl rfl))
 have E:∀x,x≠n->pagerReadM D { M with deferred:=ins n M.deferred } x=pagerReadM D M x:=fun x u=>qe4 { M with deferred:=ins n M.deferred } K K rfl (A x u);have z:∀x,x≠n->(InUse { M with deferred:=ins n M.deferred } x↔InUse M x):=fun x u=>qdU { M with deferred:=ins n M.deferred } rfl (A x u);refine⟨_,e,⟨hw,K,rfl,rfl,rfl,rfl,fun h=>?_,rfl,fun x _ u=>E x u,fun x _ u=>z x u,fun x u=>?_,fun y I=>(nomatch I),fun _=>C⟩,E q fun e=>G e.symm,z q fun e=>G e.symm,zM _⟩;exact h;by_cases hxn:x=n;subst hxn;exact absurd (.inr u) C;rw[A x hxn] at u;exact u
end
noncomputable def loadN (D:DiskM) (M:PgM) (k v:Nat) (p:Int):NodeM×Int:=
 if (pagerReadM D M p).2.2≠0 then (zeroN,(pagerReadM D M p).2.2) else readNV (pagerReadM D M p).1 (pagerReadM D M p).2.1 k v
noncomputable def storeN (k v:Nat) (M:PgM) (p:Int) (n:NodeM):(Int×Int)×PgM:=
 if (writeNV n k v).2.2≠0 then ((0,2),M)
 else if p≠0/\(putV M p (writeNV n k v).1 (writeNV n k v).2.1).1≠10 then ((p,(putV M p (writeNV n k v).1 (writeNV n k v).2.1).1),(putV M p (writeNV n k v).1 (writeNV n k v).2.1).2)
 else if (makeV M (writeNV n k v).1 (writeNV n k v).2.1).1.2=0/\p≠0 then (((makeV M (writeNV n k v).1 (writeNV n k v).2.1).1.1,(dropV (makeV M (writeNV n k v).1 (writeNV n k v).2.1).2 p).1),(dropV (makeV M (writeNV n k v).1 (writeNV n k v).2.1).2 p).2)
 else makeV M (writeNV n k v).1 (writeNV n k v).2.1
structure NodeOk (n:NodeM) (k v:Nat):Prop where
 right:rightV n k v
 keys:∀ a∈n.keys,IsB a
 vals:∀ a∈n.vals,IsB a
 kids:∀ x∈n.kids,x<4294967296
theorem NodeOk.load{k v:Nat}{n:NodeM}(h:NodeOk n k v)(u:pagerReadM D M p=(kindN n,bodyN n,0)):loadN D M k v p=(n,0):=by unfold loadN;rw[u];exact (if_neg (fun h=>h rfl)).trans (qs5 h.right h.kids)
theorem qqu{k v:Nat}{n:NodeM}(U:M.Wf)(ho:M.over=false)(V:NodeOk n k v)(O:p=0\/InUse M p)(hf:M.free≠[]): ∃q M',storeN k v M p n=((q,0),M')/\Turned D M M' q (if p=0 then q else p) (some (kindN n,bodyN n))/\(q=p\/¬InUse M q)/\M.free.length<=M'.free.length+1/\(p∈M.fresh.map (·.1)->q=p/\M'.free=M.free):=by
 have hw:writeNV n k v=(kindN n,bodyN n,0):=(by unfold writeNV;rw[if_pos V.right]);have hB:=qnz V.keys V.vals;have hl:=(qfP V.right).2;have hk:0<=kindN n/\kindN n<256:=(by unfold kindN;split<;>exact⟨by decide,by decide⟩);unfold storeN;rw[hw];dsimp only;rw[if_neg (fun h=>h rfl)];obtain⟨q,fr,E⟩:∃q fr,M.free=q::fr:=by
  cases e:M.free with
  | nil=>exact absurd e hf
  | cons q fr=>exact⟨q,fr,rfl⟩
 obtain⟨M1,e1,u,G,R,_⟩:=qq9 (D:=D) U ho hk hB hl E;rcases O with rfl|O;rw[if_neg (fun h=>h.1 rfl),if_neg (fun h=>h.2 rfl),e1];refine⟨q,M1,rfl,by rw[if_pos rfl];exact u,.inr G,by rw[E,R];exact zM _,fun h=>?_⟩
 have:=(qhn U (.inl h)).1
 omega;have A:p≠0:=(by have:=(qhn U O).1;omega);by_cases hfp:p∈M.fresh.map (·.1);obtain⟨M2,e2,z,I,_⟩:=qs2 (D:=D) U ho hk hB hl hfp;rw[e2,if_pos ⟨A,(show (0:Int)≠10 by decide)⟩];exact⟨p,M2,rfl,by rw[if_neg A];exact z,.inl rfl,by rw[I];omega,fun _=>⟨rfl,I⟩⟩;rw[quC ho hfp,if_neg (fun h=>h.2 rfl),e1,if_pos ⟨rfl,A⟩];have J:p≠q:=fun e=>G (e▸O);have ae:InUse M1 p:=(u.use p J J).2 O;obtain⟨M2,e2,z,af,ag,I⟩:=qkr (D:=D) u.wf u.over ae J;dsimp only;rw[e2];refine⟨q,M2,rfl,?_,.inr G,by rw[E,yH,<- R];omega,fun h=>absurd h hfp⟩;rw[if_neg A];exact⟨z.wf,z.over,z.roots.trans u.roots,z.sup.trans u.sup,z.lists.trans u.lists,z.named.trans u.named,fun h=>z.Named (u.Named h),z.turn.trans u.turn,fun x C K=>(z.rest x C K).trans (u.rest x C C),fun x C K=>(z.use x C K).trans (u.use x C C),fun x C=>u.old x (z.old x C),fun y hy=>by
  have:=u.wrote y hy
  exact⟨af.trans this.1,ag.2 this.2⟩,fun h=>z.left h⟩
section
structure Grown where
 page:Int
 fresh:Bool
 key:Key
 other:Int
def zeroG:Grown:=⟨0,false,[],0⟩
def insAt {α:Type} (l:List α) (i:Nat) (x:α):List α:=l.take i++[x]++l.drop i
def sizeN (n:NodeM) (k v:Nat):Nat×Nat:=if n.leaf then (n.keys.length,(capsV k v).1) else (n.kids.length,(capsV k v).2)
def halvesN (n:NodeM) (mid:Nat):NodeM×NodeM×Key:=
 if n.leaf then ({ n with keys:=n.keys.take mid,vals:=n.vals.take mid },{ n with keys:=n.keys.drop mid,vals:=n.vals.drop mid },n.keys.getD mid [])
 else ({ n with kids:=n.kids.take mid,keys:=n.keys.take (mid-1) },{ n with kids:=n.kids.drop mid,keys:=n.keys.drop mid },n.keys.getD (mid-1) [])
noncomputable def splitN (k v:Nat) (M:PgM) (p:Int) (n:NodeM) (fresh:Bool):(Grown×Int)×PgM:=
 if (sizeN n k v).1>(sizeN n k v).2 then
  if (storeN k v M 0 (halvesN n ((sizeN n k v).1 / 2)).2.1).1.2≠0 then ((zeroG,(storeN k v M 0 (halvesN n ((sizeN n k v).1 / 2)).2.1).1.2),(storeN k v M 0 (halvesN n ((sizeN n k v).1 / 2)).2.1).2)
  else ((⟨(storeN k v (storeN k v M 0 (halvesN n ((sizeN n k v).1 / 2)).2.1).2 p (halvesN n ((sizeN n k v).1 / 2)).1).1.1,fresh,(halvesN n ((sizeN n k v).1 / 2)).2.2,(storeN k v M 0 (halvesN n ((sizeN n k v).1 / 2)).2.1).1.1⟩,
    (storeN k v (storeN k v M 0 (halvesN n ((sizeN n k v).1 / 2)).2.1).2 p (halvesN n ((sizeN n k v).1 / 2)).1).1.2),
    (storeN k v (storeN k v M 0 (halvesN n ((sizeN n k v).1 / 2)).2.1).2 p (halvesN n ((sizeN n k v).1 / 2)).1).2)
 else ((⟨(storeN k v M p n).1.1,fresh,[],0⟩,(storeN k v M p n).1.2),(storeN k v M p n).2)
def grownN (n:NodeM) (c:Nat) (g:Grown):NodeM:=
 if g.other≠0 then { n with kids:=insAt (n.kids.set c g.page) (c+1) g.other,keys:=insAt n.keys c g.key } else { n with kids:=n.kids.set c g.page }
noncomputable def putN (D:DiskM) (k v:Nat) (key val:Key):Nat->PgM->Int->(Grown×Int)×PgM
 | 0,M,_=>((zeroG,-1),M)
 | f+1,M,p=>
  if (loadN D M k v p).2≠0 then ((zeroG,(loadN D M k v p).2),M)
  else if (loadN D M k v p).1.leaf then
   if (loadN D M k v p).1.keys[placeV (loadN D M k v p).1.keys key]?=some key then splitN k v M p { (loadN D M k v p).1 with vals:=(loadN D M k v p).1.vals.set (placeV (loadN D M k v p).1.keys key) val } false
   else splitN k v M p { (loadN D M k v p).1 with keys:=insAt (loadN D M k v p).1.keys (placeV (loadN D M k v p).1.keys key) key,vals:=insAt (loadN D M k v p).1.vals (placeV (loadN D M k v p).1.keys key) val } true
  else if (putN D k v key val f M ((loadN D M k v p).1.kids.getD (kidV (loadN D M k v p).1.keys key) 0)).1.2≠0 then
   ((zeroG,(putN D k v key val f M ((loadN D M k v p).1.kids.getD (kidV (loadN D M k v p).1.keys key) 0)).1.2),(putN D k v key val f M ((loadN D M k v p).1.kids.getD (kidV (loadN D M k v p).1.keys key) 0)).2)
  else if (putN D k v key val f M ((loadN D M k v p).1.kids.getD (kidV (loadN D M k v p).1.keys key) 0)).1.1.page=(loadN D M k v p).1.kids.getD (kidV (loadN D M k v p).1.keys key) 0/\(putN D k v key val f M ((loadN D M k v p).1.kids.getD (kidV (loadN D M k v p).1.keys key) 0)).1.1.other=0 then
   ((⟨p,(putN D k v key val f M ((loadN D M k v p).1.kids.getD (kidV (loadN D M k v p).1.keys key) 0)).1.1.fresh,[],0⟩,0),(putN D k v key val f M ((loadN D M k v p).1.kids.getD (kidV (loadN D M k v p).1.keys key) 0)).2)
  else splitN k v (putN D k v key val f M ((loadN D M k v p).1.kids.getD (kidV (loadN D M k v p).1.keys key) 0)).2 p (grownN (loadN D M k v p).1 (kidV (loadN D M k v p).1.keys key) (putN D k v key val f M ((loadN D M k v p).1.kids.getD (kidV (loadN D M k v p).1.keys key) 0)).1.1) (putN D k v key val f M ((loadN D M k v p).1.kids.getD (kidV (loadN D M k v p).1.keys key) 0)).1.1.fresh
structure Seg where
 page:Int
 size:Nat
 prs:Prs
 pages:List Int
abbrev Ent:=Key×Seg
def lfOf (L:Prs):NodeM:=⟨true,L.map (·.1),L.map (·.2),[]⟩
def inOf (es:List Ent):NodeM:=⟨false,(es.map (·.1)).tail,[],es.map (·.2.page)⟩
structure SepE (es:List Ent):Prop where
 pair:es.Pairwise fun a b=>KLt a.1 b.1/\∀ x∈a.2.prs,KLt x.1 b.1
 low:∀ e∈es,∀ x∈e.2.prs,KLe e.1 x.1
def minOf (k v:Nat) (h:Nat):Nat:=if h=0 then (capsV k v).1 / 2 else (capsV k v).2 / 2
def Has (D:DiskM) (M:PgM) (k v:Nat):Nat->Seg->Prop
 | 0,s=>s.pages=[s.page]/\s.size=s.prs.length/\NodeOk (lfOf s.prs) k v/\pagerReadM D M s.page=(3,bodyN (lfOf s.prs),0)
 | h+1,s=>∃u:List Ent,(u.map (·.1)).head?=some []/\s.size=u.length/\s.prs=u.flatMap (·.2.prs)/\s.pages=s.page::u.flatMap (·.2.pages)/\NodeOk (inOf u) k v/\pagerReadM D M s.page=(4,bodyN (inOf u),0)/\SepE u/\
   ∀e∈u,Has D M k v h e.2/\minOf k v h<=e.2.size
theorem qgT(x:Key):KLe [] x:=by unfold KLe KLt;cases x<;>simp[cmpL]
theorem qkM{x:Key}:¬KLt x []:=qgT x
section
variable {D:DiskM} {M M':PgM} {k v:Nat}
theorem Has.mem:∀ {h:Nat} {s:Seg},Has D M k v h s->s.page∈s.pages
 | 0,s,u=>by rw[u.1];simp
 | h+1,s,⟨z,_,_,_,y,_⟩=>by rw[y];simp
theorem Has.frame:∀ {h:Nat} {s:Seg},Has D M k v h s->(∀x∈s.pages,pagerReadM D M' x=pagerReadM D M x)->Has D M' k v h s
 | 0,s,⟨y,A,u,C⟩,z=>⟨y,A,u,by rw[z s.page (by rw[y];simp)];exact C⟩
 | h+1,s,⟨I,J,y,A,u,C,K,O,G⟩,z=>⟨I,J,y,A,u,C,by rw[z s.page (by rw[u];simp)];exact K,O,fun e E=>⟨(G e E).1.frame fun x R=>z x (by rw[u];exact zN _ (yJ.2 ⟨e,E,R⟩)),(G e E).2⟩⟩
theorem Has.read:∀ {h:Nat} {s:Seg},Has D M k v h s->∀x∈s.pages,(pagerReadM D M x).2.2=0
 | 0,s,⟨y,C,z,A⟩,x,u=>by rw[y] at u;rw[zE.1 u,A]
 | h+1,s,⟨J,K,y,C,z,A,E,O,G⟩,x,u=>by rw[z] at u;rcases zG.1 u with rfl|u;rw[E];obtain⟨e,I,u⟩:=yJ.1 u;exact (G e I).1.read x u
theorem Has.used(u:M.over=false){s:Seg}(y:Has D M k v h s):∀x∈s.pages,InUse M x:=fun x z=>qqf u (y.read x z)
theorem rightV.leafNe(h:rightV (lfOf L) k v):L≠[]:=fun e=>by
 have:=h.2.2.2
 rw[if_pos (show (lfOf L).leaf=true from rfl)] at this;have u:=this.2.1;rw[e] at u;exact absurd u (by decide)
theorem rightV.innerTwo{es:List Ent}(h:rightV (inOf es) k v):2<=es.length/\es.length<=(capsV k v).2:=by
 have:=h.2.2.2
 rw[if_neg (show ¬(inOf es).leaf=true from fun e=>nomatch e)] at this;have u:=this.2.2.1;have y:=this.2.2.2.1;have e:(inOf es).kids.length=es.length:=(by show (es.map _).length=_;rw[zK]);rw[e] at u y;exact⟨u,y⟩
theorem Has.ne:∀ {h:Nat} {s:Seg},Has D M k v h s->s.prs≠[]
 | 0,s,⟨A,u,y,z⟩=>y.right.leafNe
 | h+1,s,⟨C,G,A,u,y,z,I,J,E⟩=>fun e=>by
  have:=z.right.innerTwo
  cases C with
  | nil=>simp at this
  | cons a r=>
   rw[u,yG] at e;exact (E a (by simp)).1.ne (append_eq_nil_iff.1 e).1
theorem SepE.mid{A B:List Ent}{e:Ent}(h:SepE (A++e::B)):(∀a∈A,∀x∈a.2.prs,KLt x.1 e.1)/\(∀b∈B,KLt e.1 b.1/\(∀x∈e.2.prs,KLt x.1 b.1)/\∀y∈b.2.prs,KLe b.1 y.1):=by
 have u:=pairwise_append.1 h.pair;refine⟨fun a C x E=>(u.2.2 a C e (by simp)).2 x E,fun b z=>?_⟩
 have:=(yI.1 u.2.1).1 b z
 exact⟨this.1,this.2,h.low b (by simp[z])⟩
theorem SepE.sort:∀ {es:List Ent},SepE es->(∀e∈es,SortP e.2.prs)->SortP (es.flatMap (·.2.prs))
 | [],_,_=>.nil
 | e::es,h,A=>by rw[yG,SortP.app];have C:=yI.1 h.pair;refine⟨A e (by simp),SepE.sort ⟨C.2,fun e u=>h.low e (zN _ u)⟩ fun e u=>A e (zN _ u),fun x G y z=>?_⟩;obtain⟨b,E,z⟩:=yJ.1 z;exact qbw ((C.1 b E).2 x G) (h.low b (zN _ E) y z)
theorem Has.sort:∀ {h:Nat} {s:Seg},Has D M k v h s->SortP s.prs
 | 0,s,⟨z,u,y,A⟩=>y.right.2.2.1
 | h+1,s,⟨I,J,z,u,y,A,K,C,E⟩=>by rw[u];exact C.sort fun e G=>(E e G).1.sort
def PrsOk (k v:Nat) (L:Prs):Prop:=∀x∈L,x.1.length=k/\x.2.length=v/\IsB x.1/\IsB x.2
theorem Has.prsOk:∀ {h:Nat} {s:Seg},Has D M k v h s->PrsOk k v s.prs
 | 0,s,⟨A,z,y,C⟩=>fun x u=>⟨y.right.1 x.1 (zY u),y.right.2.1 x.2 (zY u),y.keys x.1 (zY u),y.vals x.2 (zY u)⟩
 | h+1,s,⟨I,J,A,z,y,C,K,O,E⟩=>fun x u=>by rw[z] at u;obtain⟨e,G,u⟩:=yJ.1 u;exact (E e G).1.prsOk x u
theorem qgU(y:PrsOk k v L)(z:SortP L)(A:1<=L.length)(C:L.length<=(capsV k v).1):NodeOk (lfOf L) k v:=by refine⟨⟨fun a u=>?_,fun a u=>?_,z,?_⟩,fun a u=>?_,fun a u=>?_,fun x h=>nomatch h⟩;obtain⟨x,h,rfl⟩:=mem_map.1 u;exact (y x h).1;obtain⟨x,h,rfl⟩:=mem_map.1 u;exact (y x h).2.1;rw[if_pos (show (lfOf L).leaf=true from rfl)];refine⟨rfl,?_,?_,?_⟩;show 1<=(L.map _).length;rw[zK];exact A;show (L.map _).length<=_;rw[zK];exact C;show (L.map _).length=(L.map _).length;rw[zK,zK];obtain⟨x,h,rfl⟩:=mem_map.1 u;exact (y x h).2.2.1;obtain⟨x,h,rfl⟩:=mem_map.1 u;exact (y x h).2.2.2
theorem qwJ{es:List Ent}(z:∀a∈(es.map (·.1)).tail,a.length=k/\IsB a)(C:Rising (es.map (·.1)).tail)(E:2<=es.length)(G:es.length<=(capsV k v).2)(A:∀e∈es,2<=e.2.page/\e.2.page<4294967296):NodeOk (inOf es) k v:=by refine⟨⟨fun a h=>(z a h).1,fun a h=>(nomatch h),C,?_⟩,fun a h=>(z a h).2,fun a h=>(nomatch h),fun x u=>?_⟩;rw[if_neg (show ¬(inOf es).leaf=true from fun e=>nomatch e)];have e1:(inOf es).kids.length=es.length:=(by show (es.map _).length=_;rw[zK]);have I:(inOf es).keys.length=es.length-1:=(by show ((es.map _).tail).length=_;rw[length_tail,zK]);refine⟨fun x u=>?_,rfl,by rw[e1];exact E,by rw[e1];exact G,by rw[e1,I];omega⟩;obtain⟨e,y,rfl⟩:=mem_map.1 u;exact (A e y).1;obtain⟨e,y,rfl⟩:=mem_map.1 u;exact (A e y).2
theorem SepE.rising{es:List Ent}(h:SepE es):Rising (es.map (·.1)).tail:=by have u:(es.map (·.1)).Pairwise KLt:=pairwise_map.2 (h.pair.imp fun h=>h.1);exact List.Pairwise.sublist (tail_sublist _) u
structure Step (D:DiskM) (M M':PgM) (P P':List Int):Prop where
 wf:M'.Wf
 over:M'.over=false
 roots:M'.roots=M.roots
 sup:M'.sup=M.sup
 lists:M'.lists=M.lists
 named:M'.named=M.named
 Named:M.Named->M'.Named
 turn:M'.turn=M.turn
 rest:∀ x,InUse M x->x∉P->pagerReadM D M' x=pagerReadM D M x/\InUse M' x/\x∉P'
 use:∀ x,InUse M' x->x∈P'\/(InUse M x/\x∉P)
 has:∀ x∈P',InUse M' x
 new:∀ x∈P',x∈P\/¬ InUse M x
 nodup:P'.Nodup
 old:∀ x,usedV M' x=true->usedV M x=true
theorem Step.refl(y:M.Wf)(z:M.over=false){P:List Int}(A:∀x∈P,InUse M x)(C:P.Nodup):Step D M M P P:=
 ⟨y,z,rfl,rfl,rfl,rfl,id,rfl,fun x u E=>⟨rfl,u,E⟩,fun x u=>by by_cases h:x∈P;exact .inl h;exact .inr ⟨u,h⟩,A,fun x u=>.inl u,C,fun x u=>u⟩
theorem Step.perm{P P' Q C:List Int}(h:Step D M M' P P')(A:P.Perm Q)(u:P'.Perm C):Step D M M' Q C:=
 ⟨h.wf,h.over,h.roots,h.sup,h.lists,h.named,h.Named,h.turn,fun x y E=>by obtain⟨G,I,J⟩:=h.rest x y (fun z=>E (A.mem_iff.1 z));exact⟨G,I,fun z=>J (u.mem_iff.2 z)⟩,fun x y=>(h.use x y).imp (fun h=>u.mem_iff.1 h) fun h=>⟨h.1,fun z=>h.2 (A.mem_iff.2 z)⟩,fun x y=>h.has x (u.mem_iff.2 y),fun x y=>(h.new x (u.mem_iff.2 y)).imp (fun h=>A.mem_iff.1 h) id,u.nodup_iff.1 h.nodup,h.old⟩
theorem Step.beside{P P' Z:List Int}(h:Step D M M' P P')(I:∀x∈Z,InUse M x)(K:(Z++P).Nodup):Step D M M' (Z++P) (Z++P'):=by have J:=yL.1 K;have A:∀x∈Z,x∉P:=fun x u E=>J.2.2 x u x E rfl;refine⟨h.wf,h.over,h.roots,h.sup,h.lists,h.named,h.Named,h.turn,fun x u E=>?_,fun x u=>?_,fun x u=>?_,fun x u=>?_,?_,h.old⟩;obtain⟨C,G,O⟩:=h.rest x u (fun z=>E (zI _ z));exact⟨C,G,fun z=>(zD.1 z).elim (fun z=>E (zH _ z)) O⟩;rcases h.use x u with C|⟨C,G⟩;exact .inl (zI _ C);by_cases hz:x∈Z;exact .inl (zH _ hz);exact .inr ⟨C,fun z=>(zD.1 z).elim hz G⟩;rcases zD.1 u with u|u;exact (h.rest x (I x u) (A x u)).2.1;exact h.has x u;rcases zD.1 u with u|u;exact .inl (zH _ u);exact (h.new x u).imp (fun h=>zI _ h) id;rw[yL];exact⟨J.1,h.nodup,fun x u y R e=>(h.rest x (I x u) (A x u)).2.2 (e▸R)⟩
theorem Step.trans{M1:PgM}{P Q R:List Int}(h:Step D M M1 P Q)(g:Step D M1 M' Q R):Step D M M' P R:=
 ⟨g.wf,g.over,g.roots.trans h.roots,g.sup.trans h.sup,g.lists.trans h.lists,g.named.trans h.named,fun x=>g.Named (h.Named x),g.turn.trans h.turn,fun x y C=>by
  obtain⟨u,z,A⟩:=h.rest x y C;obtain⟨E,G,I⟩:=g.rest x z A;exact⟨E.trans u,G,I⟩,fun x y=>by
  rcases g.use x y with u|⟨u,z⟩;exact .inl u;exact (h.use x u).elim (fun A=>absurd A z) .inr,g.has,fun x y=>by
  rcases g.new x y with u|u;exact h.new x u;by_cases hP:x∈P;exact .inl hP;by_cases hu:InUse M x;exact absurd (h.rest x hu hP).2.1 u;exact .inr hu,g.nodup,fun x y=>h.old x (g.old x y)⟩
theorem Turned.step(E:M.over=false)(h:Turned D M M' q p (some r))(G:InUse M p)(z:q=p\/¬InUse M q):Step D M M' [p] [q]:=by
 have C:=h.wrote r rfl;refine⟨h.wf,h.over,h.roots,h.sup,h.lists,h.named,h.Named,h.turn,fun x A u=>?_,fun x A=>?_,fun x A=>?_,fun x A=>?_,by simp,h.old⟩;have u:x≠p:=(by simpa using u);have y:x≠q:=fun e=>by rcases z with z|z;exact u (e.trans z);exact z (e▸A)
 exact⟨h.rest x y u,(h.use x y u).2 A,by simpa using y⟩;by_cases y:x=q;exact .inl (by simp[y]);by_cases u:x=p;subst u;exact absurd A (h.left (fun e=>y e));exact .inr ⟨(h.use x y u).1 A,by simpa using u⟩;rw[zE.1 A];exact C.2;rw[zE.1 A];rcases z with z|z;exact .inl (by simp[z]);exact .inr z
theorem Turned.fresh(C:M.over=false)(h:Turned D M M' q q (some r))(z:¬InUse M q):Step D M M' [] [q]:=by have A:=h.wrote r rfl;refine⟨h.wf,h.over,h.roots,h.sup,h.lists,h.named,h.Named,h.turn,fun x y _=>?_,fun x y=>?_,fun x y=>?_,fun x y=>?_,by simp,h.old⟩;have u:x≠q:=fun e=>z (e▸y);exact⟨h.rest x u u,(h.use x u u).2 y,by simpa using u⟩;by_cases u:x=q;exact .inl (by simp[u]);exact .inr ⟨(h.use x u u).1 y,by simp⟩;rw[zE.1 y];exact A.2;rw[zE.1 y];exact .inr z
end
end
section
section
variable {D:DiskM} {M M':PgM} {k v:Nat}
theorem qh1{n:NodeM}(y:M.Wf)(z:M.over=false)(A:NodeOk n k v)(h:InUse M p)(C:M.free≠[]): ∃q M',storeN k v M p n=((q,0),M')/\Step D M M' [p] [q]/\pagerReadM D M' q=(kindN n,bodyN n,0)/\M.free.length<=M'.free.length+1/\(p∈M.fresh.map (·.1)->q=p/\M'.free=M.free):=by obtain⟨q,M',e,t,E,G,I⟩:=qqu (D:=D) y z A (.inr h) C;have u:p≠0:=(by have:=(qhn y h).1;omega);rw[if_neg u] at t;exact⟨q,M',e,t.step z h E,(t.wrote _ rfl).1,G,I⟩
theorem qjy{n:NodeM}(z:M.Wf)(u:M.over=false)(A:NodeOk n k v)(C:M.free≠[]): ∃q M',storeN k v M 0 n=((q,0),M')/\Step D M M' [] [q]/\pagerReadM D M' q=(kindN n,bodyN n,0)/\M.free.length<=M'.free.length+1/\q≠0:=by obtain⟨q,M',e,t,E,G,_⟩:=qqu (D:=D) z u A (.inl rfl) C;rw[if_pos rfl] at t;have y:=t.wrote _ rfl;have I:=(qhn t.wf y.2).1;have h:¬InUse M q:=E.resolve_left (by omega);exact⟨q,M',e,t.fresh u h,y.1,G,by omega⟩
theorem qkS{n:NodeM}{fresh:Bool}(h:M.Wf)(u:M.over=false)(y:NodeOk n k v)(G:(sizeN n k v).1<=(sizeN n k v).2)(z:InUse M p)(A:M.free≠[]): ∃q M',splitN k v M p n fresh=((⟨q,fresh,[],0⟩,0),M')/\Step D M M' [p] [q]/\pagerReadM D M' q=(kindN n,bodyN n,0)/\M.free.length<=M'.free.length+1:=by obtain⟨q,M',e,st,C,E,_⟩:=qh1 (D:=D) h u y z A;refine⟨q,M',?_,st,C,E⟩;unfold splitN;rw[iN,e]
theorem qol{n:NodeM}{fresh:Bool}{mid:Nat}(hW:M.Wf)(ho:M.over=false)(y:(sizeN n k v).1 / 2=mid)(h1:NodeOk (halvesN n mid).1 k v)(h2:NodeOk (halvesN n mid).2.1 k v)(hs:(sizeN n k v).1>(sizeN n k v).2)(R:InUse M p)(U:2<=M.free.length): ∃q o M',splitN k v M p n fresh=((⟨q,fresh,(halvesN n mid).2.2,o⟩,0),M')/\o≠0/\Step D M M' [p] [q,o]/\pagerReadM D M' q=(kindN (halvesN n mid).1,bodyN (halvesN n mid).1,0)/\pagerReadM D M' o=(kindN (halvesN n mid).2.1,bodyN (halvesN n mid).2.1,0)/\M.free.length<=M'.free.length+2:=by
 subst y;obtain⟨o,M1,e1,u,G,z,I⟩:=qjy (D:=D) hW ho h2 (fun e=>by rw[e] at U;exact absurd U (by decide));have V:=u.beside (Z:=[p]) (fun x J=>by rw[zE.1 J];exact R) (by simp);have K:InUse M1 p:=V.has p (by simp);obtain⟨q,M2,e2,A,O,ah,_⟩:=qh1 (D:=D) u.wf u.over h1 K (fun e=>by rw[e] at z;simp at z;omega);have C:o≠p:=fun e=>by rcases u.new o (by simp) with h|h;cases h;exact h (e▸R)
 have E:InUse M1 o:=u.has o (by simp);have s2:=A.beside (Z:=[o]) (fun x J=>by rw[zE.1 J];exact E) (by simpa using C);refine⟨q,o,M2,?_,I,(V.perm (.refl _) (List.Perm.swap _ _ _)).trans (s2.perm (.refl _) (List.Perm.swap _ _ _)),O,?_,by omega⟩;unfold splitN;rw[if_pos hs,e1];dsimp only;rw[if_neg (fun h=>h rfl),e2];rw[(A.rest o E (by simpa using C)).1];exact G
theorem qxz{val:Key}{i:Nat}(h:(keysP L)[i]?=some key):(⟨(lfOf L).leaf,keysP L,(lfOf L).vals.set i val,(lfOf L).kids⟩:NodeM)=lfOf (L.set i (key,val)):=by
 unfold lfOf;rw[map_set,map_set];have:(L.map (·.1)).set i key=L.map (·.1):=by obtain⟨u,y⟩:=zP.1 h;rw[<- y];exact set_getElem_self u
 rw[this]
theorem qwT{val:Key}{i:Nat}:(⟨(lfOf L).leaf,insAt (keysP L) i key,insAt (lfOf L).vals i val,(lfOf L).kids⟩:NodeM)=lfOf (L.take i++[(key,val)]++L.drop i):=by unfold lfOf insAt;simp only[xJ,xL,xM,xK,map_nil]
theorem qui{mid:Nat}(h:mid<L.length):halvesN (lfOf L) mid=(lfOf (L.take mid),lfOf (L.drop mid),L[mid].1):=by unfold halvesN;rw[if_pos (show (lfOf L).leaf=true from rfl)];unfold lfOf;simp only[xL,xM,Prod.mk.injEq,true_and];rw[yQ,zQ,zA h];rfl
theorem qjS:sizeN (lfOf L) k v=(L.length,(capsV k v).1):=by unfold sizeN;rw[if_pos (show (lfOf L).leaf=true from rfl)];show ((L.map _).length,_)=_;rw[zK]
theorem PrsOk.sub{L':Prs}(h:PrsOk k v L)(u:∀x∈L',x∈L):PrsOk k v L':=fun x y=>h x (u x y)
theorem SortP.take{L:Prs}(h:SortP L)(n:Nat):SortP (L.take n):=by unfold SortP keysP;rw[xL];exact Rising.take h n
theorem SortP.drop{L:Prs}(h:SortP L)(n:Nat):SortP (L.drop n):=by unfold SortP keysP;rw[xM];exact Rising.drop h n
theorem qfj(h:NodeOk (lfOf L) k v)(u:pagerReadM D M q=(3,bodyN (lfOf L),0)):Has D M k v 0 ⟨q,L.length,L,[q]⟩:=⟨rfl,rfl,h,u⟩
structure PutOk (D:DiskM) (M:PgM) (k v:Nat) (h:Nat) (s:Seg) (key val:Key) (g:Grown) (M':PgM):Prop where
 fresh:g.fresh=decide (key∉keysP s.prs)
 free:M.free.length<=M'.free.length+2*(h+1)
 res:(g.other=0/\∃ n P,Has D M' k v h ⟨g.page,n,insP key val s.prs,P⟩/\Step D M M' s.pages P/\s.size<=n)\/
  (g.other≠0/\∃ n1 L1 P1 n2 L2 P2,Has D M' k v h ⟨g.page,n1,L1,P1⟩/\Has D M' k v h ⟨g.other,n2,L2,P2⟩/\L1++L2=insP key val s.prs/\(∀ x∈L1,KLt x.1 g.key)/\(∀ y∈L2,KLe g.key y.1)/\g.key.length=k/\IsB g.key/\minOf k v h<=n1/\minOf k v h<=n2/\Step D M M' s.pages (P1++P2))
structure CapsOk (k v:Nat):Prop where
 leaf:2<=(capsV k v).1
 inner:4<=(capsV k v).2
theorem qqc{L':Prs}{val:Key}{fresh:Bool}(hc:CapsOk k v)(hW:M.Wf)(ho:M.over=false)(hp:InUse M p)(R:2<=M.free.length)(J:PrsOk k v L')(K:SortP L')(h1:1<=L'.length)(h2:L'.length<=(capsV k v).1+1)(h3:L.length<=L'.length)(he:L'=insP key val L)(z:fresh=decide (key∉keysP L)): ∃g M',splitN k v M p (lfOf L') fresh=((g,0),M')/\PutOk D M k v 0 ⟨p,L.length,L,[p]⟩ key val g M':=by by_cases hb:L'.length<=(capsV k v).1;have hn:=qgU J K h1 hb;obtain⟨q,M',e,st,hr,hl⟩:=qkS (D:=D) (fresh:=fresh) hW ho hn (by rw[qjS];exact hb) hp (fun e=>by rw[e] at R;exact absurd R (by decide));refine⟨_,M',e,z,by show M.free.length<=M'.free.length+2;omega,.inl ⟨rfl,L'.length,[q],?_,st,h3⟩⟩;rw[<- he];exact qfj hn hr;have af:L'.length=(capsV k v).1+1:=(by omega);have ap:=hc.leaf;have h:L'.length / 2<L'.length:=(by omega);have U:=qui h;have n1:NodeOk (lfOf (L'.take (L'.length / 2))) k v:=qgU (J.sub fun x A=>yU A) (K.take _) (by rw[yK];omega) (by rw[yK];omega);have n2:NodeOk (lfOf (L'.drop (L'.length / 2))) k v:=qgU (J.sub fun x A=>yT A) (K.drop _) (by rw[yB];omega) (by rw[yB];omega);obtain⟨q,o,M',e,V,st,C,E,hl⟩:=qol (D:=D) (k:=k) (v:=v) (p:=p) (fresh:=fresh) (mid:=L'.length / 2) (n:=lfOf L') hW ho (by rw[qjS]) (by rw[U];exact n1) (by rw[U];exact n2) (by rw[qjS];show L'.length>_;omega) hp R;rw[U] at e C E;have G:L'=L'.take (L'.length / 2)++L'.drop (L'.length / 2):=(xC _ _).symm;have hd:=zX h;have u:=K;rw[G] at u;have u:=SortP.app.1 u;have I:=J _ (zW h);refine⟨⟨q,fresh,L'[L'.length / 2].1,o⟩,M',e,z,by show M.free.length<=M'.free.length+2;omega,.inr ⟨V,(L'.take (L'.length / 2)).length,_,[q],(L'.drop (L'.length / 2)).length,_,[o],qfj n1 C,qfj n2 E,by rw[<- G];exact he,fun x A=>u.2.2 x A _ (by rw[hd];exact mem_cons_self),fun y O=>?_,I.1,I.2.2.1,?_,?_,st⟩⟩;have h5:=u.2.1;rw[hd] at O h5;rcases zG.1 O with rfl|O;exact qaA;exact qaY (qbG (x:=L'[L'.length / 2].1) (r:=keysP _) h5 y.1 (zY O));rw[yK];show (capsV k v).1 / 2<=_;omega;rw[yB];show (capsV k v).1 / 2<=_;omega
theorem qhH{es:List Ent}(u:(es.map (·.1)).head?=some [])(I:SepE es):∃A e B,es=A++e::B/\A.length=kidV ((es.map (·.1)).tail) key/\KLe e.1 key/\(∀b∈B,KLt key b.1)/\(es.map (·.2.page)).getD (kidV ((es.map (·.1)).tail) key) 0=e.2.page:=by
 have J:=I.rising;have y:=qjQ ((es.map (·.1)).tail) key;have z:es≠[]:=fun e=>by rw[e] at u;cases u
 have E:0<es.length:=length_pos_iff.2 z;have h:kidV ((es.map (·.1)).tail) key<es.length:=(by rw[length_tail,zK] at y;omega);generalize G:kidV ((es.map (·.1)).tail) key=c at h;have C:es=es.take c++es[c]::es.drop (c+1):=(by rw[<- zX h,xC]);refine⟨es.take c,es[c],es.drop (c+1),C,by rw[yK];omega,?_,fun b K=>?_,?_⟩;cases c with
 | zero=>
  have:es[0].1=[]:=by
   cases es with
   | nil=>cases u
   | cons a r=>simpa using u
  rw[this];exact qgT _
 | succ c=>
  refine qsM (l:=(es.map (·.1)).tail) (k:=key) ?_;rw[G];have O:(es.map (·.1)).tail[c]?=some es[c+1].1:=(by rw[List.getElem?_tail,zQ,zA h];rfl);refine yE (i:=c) ?_;rw[xA,iP];exact O
 refine qq8 (l:=(es.map (·.1)).tail) J ?_;rw[G];have:(es.map (·.1)).tail.drop c=(es.drop (c+1)).map (·.1):=(by rw[<- drop_one,xB,xM,Nat.add_comm]);rw[this];exact zY K;rw[yQ,zQ,zA h];rfl
theorem qaJ{α:Type}{f:Ent->List α}{A B:List Ent}{e:Ent}:(A++e::B).flatMap f=A.flatMap f++(f e++B.flatMap f):=by rw[yP,yG]
theorem SepE.put{A B:List Ent}{e:Ent}{s:Seg}(h:SepE (A++e::B))(E:KLe e.1 key)(G:∀b∈B,KLt key b.1)(J:∀x∈s.prs,x.1=key\/x∈e.2.prs):SepE (A++(e.1,s)::B):=by have C:=pairwise_append.1 h.pair;have I:=yI.1 C.2.1;refine⟨pairwise_append.2 ⟨C.1,yI.2 ⟨fun b u=>⟨(I.1 b u).1,fun x z=>?_⟩,I.2⟩,fun a K b u=>?_⟩,fun b u x z=>?_⟩;rcases J x z with y|y;rw[y];exact G b u;exact (I.1 b u).2 x y;rcases zG.1 u with rfl|u;exact C.2.2 a K e (by simp);exact C.2.2 a K b (by simp[u]);rcases zD.1 u with u|u;exact h.low b (by simp[u]) x z;rcases zG.1 u with rfl|u;rcases J x z with y|y;rw[y];exact E;exact h.low e (by simp) x y;exact h.low b (by simp[u]) x z
theorem SepE.cut2{A B:List Ent}{lo:Key}{s s1 s2:Seg}(h:SepE (A++(lo,s)::B))(E:s.prs=s1.prs++s2.prs)(h1:∀x∈s1.prs,KLt x.1 m)(h2:∀y∈s2.prs,KLe m y.1)(G:s1.prs≠[])(I:s2.prs≠[]):SepE (A++(lo,s1)::(m,s2)::B):=by have U:=pairwise_append.1 h.pair;have J:=yI.1 U.2.1;have K:=h.low (lo,s) (by simp);obtain⟨V,O⟩:=exists_mem_of_ne_nil _ G;obtain⟨y1,R⟩:=exists_mem_of_ne_nil _ I;have hm:KLt lo m:=qi6 (K V (by show V∈s.prs;rw[E];exact zH _ O)) (h1 V O);have ac:∀b∈B,KLt m b.1:=fun b u=>qi6 (h2 y1 R) ((J.1 b u).2 y1 (by show y1∈s.prs;rw[E];exact zI _ R));refine⟨pairwise_append.2 ⟨U.1,yI.2 ⟨fun b u=>?_,yI.2 ⟨fun b u=>⟨ac b u,fun x z=>(J.1 b u).2 x (by show x∈s.prs;rw[E];exact zI _ z)⟩,J.2⟩⟩,fun a ha b u=>?_⟩,fun b u x z=>?_⟩;rcases zG.1 u with rfl|u;exact⟨hm,fun x z=>h1 x z⟩;exact⟨(J.1 b u).1,fun x z=>(J.1 b u).2 x (by show x∈s.prs;rw[E];exact zH _ z)⟩;have C:=U.2.2 a ha (lo,s) (by simp);rcases zG.1 u with rfl|u;exact C;rcases zG.1 u with rfl|u;exact⟨qaB C.1 hm,fun x z=>qaB (C.2 x z) hm⟩;exact U.2.2 a ha b (by simp[u]);rcases zD.1 u with u|u;exact h.low b (by simp[u]) x z;rcases zG.1 u with rfl|u;exact K x (by show x∈s.prs;rw[E];exact zH _ z);rcases zG.1 u with rfl|u;exact h2 x z;exact h.low b (by simp[u]) x z
theorem qjO{es:List Ent}:sizeN (inOf es) k v=(es.length,(capsV k v).2):=by unfold sizeN;rw[if_neg (show ¬(inOf es).leaf=true from fun e=>nomatch e)];show ((es.map _).length,_)=_;rw[zK]
def relow:List Ent->List Ent
 | []=>[]
 | e::r=>([],e.2)::r
theorem qvD(es:List Ent):inOf (relow es)=inOf es:=by cases es<;>rfl
theorem qt3{es:List Ent}{mid:Nat}(z:1<=mid)(h:mid<es.length):halvesN (inOf es) mid=(inOf (es.take mid),inOf (relow (es.drop mid)),es[mid].1):=by
 unfold halvesN;rw[if_neg (show ¬(inOf es).leaf=true from fun e=>nomatch e),qvD];unfold inOf;have e1:(es.map (·.1)).tail.take (mid-1)=((es.take mid).map (·.1)).tail:=by rw[<- drop_one,<- drop_one,xL,drop_take]
 have u:(es.map (·.1)).tail.drop mid=((es.drop mid).map (·.1)).tail:=(by rw[<- drop_one,<- drop_one,xM,xB,xB,Nat.add_comm]);have y:(es.map (·.1)).tail.getD (mid-1) []=es[mid].1:=(by rw[yQ,List.getElem?_tail,zQ,show mid-1+1=mid by omega,zA h];rfl);dsimp only;rw[e1,u,y];simp only[xL,xM]
theorem SepE.take{es:List Ent}(h:SepE es)(n:Nat):SepE (es.take n):=⟨List.Pairwise.sublist (take_sublist n es) h.pair,fun e u=>h.low e (yU u)⟩
theorem SepE.drop{es:List Ent}(h:SepE es)(n:Nat):SepE (es.drop n):=⟨List.Pairwise.sublist (drop_sublist n es) h.pair,fun e u=>h.low e (yT u)⟩
theorem SepE.relow{es:List Ent}(h:SepE es):SepE (relow es):=by
 cases es with
 | nil=>exact h
 | cons e r=>
  have z:=yI.1 h.pair;refine⟨yI.2 ⟨fun b u=>⟨?_,(z.1 b u).2⟩,z.2⟩,fun b u x C=>?_⟩
  have:=(z.1 b u).1
  cases A:b.1 with
  | nil=>rw[A] at this;exact absurd this qkM
  | cons y l=>show cmpL [] (y::l)<0;simp[cmpL]
  rcases zG.1 u with rfl|u;exact qgT _;exact h.low b (zN _ u) x C
theorem qmF{α:Type}{f:Seg->List α}(es:List Ent):(relow es).flatMap (fun e=>f e.2)=es.flatMap fun e=>f e.2:=by cases es<;>rfl
theorem qog{P:Seg->Prop}{es:List Ent}(h:∀e∈es,P e.2):∀e∈relow es,P e.2:=by
 cases es with
 | nil=>exact h
 | cons a r=>
  intro e u;rcases zG.1 u with rfl|u;exact h a (by simp);exact h e (zN _ u)
theorem qs6{es:List Ent}(h:es≠[]):((relow es).map (·.1)).head?=some []:=by cases es with|nil=>exact absurd rfl h|cons a r=>rfl
theorem quI(es:List Ent):(relow es).length=es.length:=by cases es<;>rfl
def KeysOk (k:Nat) (es:List Ent):Prop:=∀e∈es.tail,e.1.length=k/\IsB e.1
theorem KeysOk.tail{es:List Ent}(h:KeysOk k es):∀a∈(es.map (·.1)).tail,a.length=k/\IsB a:=fun a u=>by rw[<- map_tail] at u;obtain⟨e,y,rfl⟩:=mem_map.1 u;exact h e y
theorem KeysOk.of{es:List Ent}(h:NodeOk (inOf es) k v):KeysOk k es:=fun e u=>by have:e.1∈(inOf es).keys:=(by show e.1∈(es.map (·.1)).tail;rw[<- map_tail];exact zY u);exact⟨h.right.1 _ this,h.keys _ this⟩
theorem qbI(u:M.Wf){x:Int}(h:InUse M x):2<=x/\x<4294967296:=by have y:=qhn u h;have z:=u.n4;omega
theorem qcY{es:List Ent}(u:(es.map (·.1)).head?=some [])(y:NodeOk (inOf es) k v)(z:pagerReadM D M q=(4,bodyN (inOf es),0))(A:SepE es)(C:∀e∈es,Has D M k v h e.2/\minOf k v h<=e.2.size): Has D M k v (h+1) ⟨q,es.length,es.flatMap (·.2.prs),q::es.flatMap (·.2.pages)⟩:=⟨es,u,rfl,rfl,rfl,y,z,A,C⟩
theorem qvC{A B:List Ent}{e:Ent}{s1 s2:Seg}(I:((A++e::B).map (·.1)).head?=some []){g:Grown}(u:g.page=s1.page)(y:g.other=s2.page)(z:g.key=m)(C:g.other≠0):grownN (inOf (A++e::B)) A.length g=inOf (A++(e.1,s1)::(m,s2)::B):=by
 unfold grownN;rw[if_pos C,u,y,z];unfold inOf insAt;dsimp only;congr 1;cases A with
 | nil=>simp
 | cons a A=>
  have:(A.map (·.1)++e.1::B.map (·.1)).take (A.length+1)=A.map (·.1)++[e.1]:=(by rw[show A.map (·.1)++e.1::B.map (·.1)=(A.map (·.1)++[e.1])++B.map (·.1) by simp];exact take_left' (by simp));have E:(A.map (·.1)++e.1::B.map (·.1)).drop (A.length+1)=B.map (·.1):=(by rw[show A.map (·.1)++e.1::B.map (·.1)=(A.map (·.1)++[e.1])++B.map (·.1) by simp];exact drop_left' (by simp));simp only[xJ,xK,xH,tail_cons,yH];rw[this,E];simp
 have G:(A.map (·.2.page)).length=A.length:=zK _;have h:(A.map (·.2.page)++e.2.page::B.map (·.2.page)).set A.length s1.page=(A.map (·.2.page)++[s1.page])++B.map (·.2.page):=(by rw[set_append_right _ _ (by omega),G,Nat.sub_self];simp);simp only[xJ,xK];rw[h,take_left' (by simp),drop_left' (by simp)];simp
theorem qt2{A B:List Ent}{e:Ent}{s1:Seg}{g:Grown}(u:g.page=s1.page)(y:g.other=0):grownN (inOf (A++e::B)) A.length g=inOf (A++(e.1,s1)::B):=by unfold grownN;rw[if_neg (fun h=>h y),u];unfold inOf;dsimp only;have z:(A.map (·.2.page)).length=A.length:=zK _;congr 1;simp;simp only[xJ,xK];rw[set_append_right _ _ (by omega),z,Nat.sub_self];rfl
theorem qhT{α:Type}{a x b z:List α}:(a++(x++b)).Perm ((a++b)++x):=by rw[zV];exact List.Perm.append_left a perm_append_comm
theorem Step.node{M1 E:PgM}{a x y:List Int}{Q:List Int}(G:∀z∈p::(a++(x++b)),InUse M z)(I:(p::(a++(x++b))).Nodup)(J:Step D M M1 x y)(K:Step D M1 E [p] Q):Step D M E (p::(a++(x++b))) (Q++(a++(y++b))):=by have h:(p::(a++(x++b))).Perm ((p::(a++b))++x):=(by rw[xH];exact (qhT (z:=a)).cons p);have A:=(J.beside (Z:=p::(a++b)) (fun z C=>G z (h.mem_iff.2 (zH _ C))) (h.nodup_iff.1 I));have u:((p::(a++b))++y).Perm ((a++(y++b))++[p]):=(by refine List.Perm.trans ?_ perm_append_comm;rw[xH];exact ((qhT (z:=a)).symm).cons p);have O:=K.beside (Z:=a++(y++b)) (fun z C=>A.has z (u.mem_iff.2 (zH _ C))) (u.nodup_iff.1 A.nodup);exact ((A.perm (h.symm) u).trans O).perm (.refl _) perm_append_comm
theorem qkz{es:List Ent}{fresh:Bool}(J:M.Wf)(C:M.over=false)(K:(es.map (·.1)).head?=some [])(E:NodeOk (inOf es) k v)(u:es.length<=(capsV k v).2)(O:SepE es)(z:∀e∈es,Has D M k v h e.2/\minOf k v h<=e.2.size)(R:InUse M p)(A:p∉es.flatMap (·.2.pages))(G:1<=M.free.length:=by omega): ∃q M',splitN k v M p (inOf es) fresh=((⟨q,fresh,[],0⟩,0),M')/\Step D M M' [p] [q]/\Has D M' k v (h+1) ⟨q,es.length,es.flatMap (·.2.prs),q::es.flatMap (·.2.pages)⟩/\M.free.length<=M'.free.length+1:=by obtain⟨q,M',e,st,U,V⟩:=qkS (D:=D) (fresh:=fresh) J C E (by rw[qjO];exact u) R (fun e=>by rw[e] at G;exact absurd G (by decide));refine⟨q,M',e,st,qcY K E U O fun b y=>⟨(z b y).1.frame fun x I=>?_,(z b y).2⟩,V⟩;exact (st.rest x ((z b y).1.used C x I) (fun hm=>A (yJ.2 ⟨b,y,by rw[<- zE.1 hm];exact I⟩))).1
theorem qdN{es:List Ent}(z:M.Wf)(A:M.over=false)(C:KeysOk k es)(E:SepE es)(G:2<=es.length)(I:es.length<=(capsV k v).2)(u:∀e∈es,Has D M k v h e.2):NodeOk (inOf es) k v:=
 qwJ C.tail E.rising G I fun e y=>qbI z ((u e y).used A e.2.page (u e y).mem)
theorem qs7{es:List Ent}(h:KeysOk k es):KeysOk k (relow es):=by cases es<;>exact h
theorem qt4{es:List Ent}{fresh:Bool}(hc:CapsOk k v)(hW:M.Wf)(ho:M.over=false)(h0:(es.map (·.1)).head?=some [])(hk:KeysOk k es)(ax:es.length=(capsV k v).2+1)(hs:SepE es)(I:∀e∈es,Has D M k v h e.2/\minOf k v h<=e.2.size)(hu:InUse M p)(ak:p∉es.flatMap (·.2.pages))(hf:2<=M.free.length:=by omega): ∃q o m M' J L1 P1 K L2 P2,splitN k v M p (inOf es) fresh=((⟨q,fresh,m,o⟩,0),M')/\o≠0/\Step D M M' [p] [q,o]/\Has D M' k v (h+1) ⟨q,J,L1,q::P1⟩/\Has D M' k v (h+1) ⟨o,K,L2,o::P2⟩/\L1++L2=es.flatMap (·.2.prs)/\P1++P2=es.flatMap (·.2.pages)/\(∀x∈L1,KLt x.1 m)/\(∀y∈L2,KLe m y.1)/\m.length=k/\IsB m/\minOf k v (h+1)<=J/\minOf k v (h+1)<=K/\M.free.length<=M'.free.length+2:=by
 have aF:=hc.inner;have z:es.length / 2<es.length:=(by omega);have hh:=qt3 (es:=es) (mid:=es.length / 2) (by omega) z;have lt:(es.take (es.length / 2)).length=es.length / 2:=(by rw[yK];omega);have ld:(relow (es.drop (es.length / 2))).length=es.length-es.length / 2:=(by rw[quI,yB]);have A:∀e∈es.take (es.length / 2),Has D M k v h e.2/\minOf k v h<=e.2.size:=fun e u=>I e (yU u);have ao:∀e∈relow (es.drop (es.length / 2)),Has D M k v h e.2/\minOf k v h<=e.2.size:=qog (P:=fun s=>Has D M k v h s/\minOf k v h<=s.size) fun e u=>I e (yT u);have O:=hs.take (es.length / 2);have R:=(hs.drop (es.length / 2)).relow;have ap:KeysOk k (es.take (es.length / 2)):=fun e u=>by refine hk e ?_;rw[<- drop_one,drop_take] at u;rw[<- drop_one];exact yU u
 have aq:KeysOk k (relow (es.drop (es.length / 2))):=qs7 fun e u=>by refine hk e ?_;rw[<- drop_one,xB,show es.length / 2+1=1+es.length / 2 by omega,<- xB] at u;rw[<- drop_one];exact yT u
 have J:=qdN hW ho ap O (by omega) (by omega) fun e u=>(A e u).1;have K:=qdN hW ho aq R (by omega) (by omega) fun e u=>(ao e u).1;have C:es.take (es.length / 2)++es.drop (es.length / 2)=es:=xC _ _;have hd:=zX z;obtain⟨q,o,M',e,au,st,U,V,hl⟩:=qol (D:=D) (k:=k) (v:=v) (p:=p) (fresh:=fresh) (mid:=es.length / 2) (n:=inOf es) hW ho (by rw[qjO]) (by rw[hh];exact J) (by rw[hh];exact K) (by rw[qjO];show es.length>_;omega) hu hf;rw[hh] at e U V;have fr:∀b∈es,∀x∈b.2.pages,pagerReadM D M' x=pagerReadM D M x:=fun b E x G=>
  (st.rest x ((I b E).1.used ho x G) (fun hm=>ak (yJ.2 ⟨b,E,by rw[<- zE.1 hm];exact G⟩))).1
 have f1:∀e∈es.take (es.length / 2),Has D M' k v h e.2/\minOf k v h<=e.2.size:=fun e u=>⟨(A e u).1.frame (fr e (yU u)),(A e u).2⟩;have f2:∀e∈relow (es.drop (es.length / 2)),Has D M' k v h e.2/\minOf k v h<=e.2.size:=qog (P:=fun s=>Has D M' k v h s/\minOf k v h<=s.size) fun e u=>⟨(I e (yT u)).1.frame (fr e (yT u)),(I e (yT u)).2⟩;have av:((es.take (es.length / 2)).map (·.1)).head?=some []:=by
  rw[xL];cases ab:es.map (·.1) with
  | nil=>rw[ab] at h0;cases h0
  | cons a r=>
   rw[ab] at h0;rw[show es.length / 2=(es.length / 2-1)+1 by omega,take_succ_cons];exact h0
 have aw:((relow (es.drop (es.length / 2))).map (·.1)).head?=some []:=qs6 (by rw[hd];exact cons_ne_nil _ _);have ac:=hs;rw[<- C,hd] at ac;have hm:=ac.mid;have ad:=hk es[es.length / 2] (by rw[<- drop_one];exact yE (i:=es.length / 2-1) (by rw[yZ,show 1+(es.length / 2-1)=es.length / 2 by omega,zA z]));have ep:(relow (es.drop (es.length / 2))).flatMap (·.2.prs)=(es.drop (es.length / 2)).flatMap (·.2.prs):=qmF (f:=Seg.prs) _;have eg:(relow (es.drop (es.length / 2))).flatMap (·.2.pages)=(es.drop (es.length / 2)).flatMap (·.2.pages):=qmF (f:=Seg.pages) _;have H2:=qcY aw K V R f2;refine⟨q,o,es[es.length / 2].1,M',_,_,_,_,_,_,e,au,st,qcY av J U O f1,H2,?_,?_,fun x G=>?_,fun y hy=>?_,ad.1,ad.2,?_,?_,hl⟩;rw[ep,<- yP,C];rw[eg,<- yP,C];obtain⟨a,ha,G⟩:=yJ.1 G;exact hm.1 a ha x G;rw[ep,hd] at hy;obtain⟨b,E,hy⟩:=yJ.1 hy;rcases zG.1 E with rfl|E;exact hs.low _ (zW z) y hy;exact qc1 (qaY (hm.2 b E).1) ((hm.2 b E).2.2 y hy);show (capsV k v).2 / 2<=_;omega;show (capsV k v).2 / 2<=_;omega
theorem qlh{A B:List Ent}{e:Ent}{s:Seg}(h:KeysOk k (A++e::B)):KeysOk k (A++(e.1,s)::B):=by
 cases A with
 | nil=>exact h
 | cons a A=>
  intro b u;rcases zD.1 (show b∈A++(e.1,s)::B from u) with u|u;exact h b (show b∈A++e::B from zH _ u);rcases zG.1 u with rfl|u;exact h e (show e∈A++e::B from zI _ mem_cons_self);exact h b (show b∈A++e::B from zI _ (zN _ u))
theorem qpK{A B:List Ent}{e:Ent}{s1 s2:Seg}(h:KeysOk k (A++e::B))(C:m.length=k/\IsB m):KeysOk k (A++(e.1,s1)::(m,s2)::B):=by
 have z:∀b∈(m,s2)::B,(∀c∈B,c.1.length=k/\IsB c.1)->b.1.length=k/\IsB b.1:=fun b u E=>(zG.1 u).elim (fun e=>by rw[e];exact C) (E b);cases A with
 | nil=>exact fun b u=>z b u fun c y=>h c y
 | cons a A=>
  intro b u;rcases zD.1 (show b∈A++(e.1,s1)::(m,s2)::B from u) with u|u;exact h b (show b∈A++e::B from zH _ u);rcases zG.1 u with rfl|u;exact h e (show e∈A++e::B from zI _ mem_cons_self);exact z b u fun c y=>h c (show c∈A++e::B from zI _ (zN _ y))
theorem treePut(hc:CapsOk k v){key val:Key}(hk:key.length=k/\IsB key)(hv:val.length=v/\IsB val):∀(h:Nat) (M:PgM) (s:Seg),Has D M k v h s->M.Wf->M.over=false->s.pages.Nodup->s.size<=1000->2*(h+1)<=M.free.length-> ∃g M',putN D k v key val (h+1) M s.page=((g,0),M')/\PutOk D M k v h s key val g M'
 | 0,M,⟨p,n,L,P⟩,⟨h1,h2,h3,h4⟩,hW,ho,aP,_,hf=>by
  dsimp only at h1 h2 h3 h4;subst h1 h2;have hp:InUse M p:=qqf ho (by rw[h4]);have hl:loadN D M k v p=(lfOf L,0):=h3.load h4;have hs:SortP L:=h3.right.2.2.1;have hL:PrsOk k v L:=fun x C=>⟨h3.right.1 x.1 (zY C),h3.right.2.1 x.2 (zY C),h3.keys x.1 (zY C),h3.vals x.2 (zY C)⟩;have G:=h3.right.2.2.2;rw[if_pos (show (lfOf L).leaf=true from rfl)] at G;have aZ:1<=L.length/\L.length<=(capsV k v).1:=by have e:(lfOf L).keys.length=L.length:=zK _;rw[e] at G;exact⟨G.2.1,G.2.2.1⟩
  have aQ:(lfOf L).keys=keysP L:=rfl;have ag:=qsH (v:=val) (k:=key) hs;have aw:PrsOk k v (insP key val L):=fun x C=>(qfn C).elim (fun e=>by rw[e];exact⟨hk.1,hv.1,hk.2,hv.2⟩) (hL x);have ax:=qnR (k:=key) (v:=val) hs;unfold putN;rw[hl];dsimp only;rw[if_neg (fun h=>h rfl),if_pos (show (lfOf L).leaf=true from rfl),aQ];by_cases J:(keysP L)[placeV (keysP L) key]?=some key;rw[if_pos J,qxz J];rw[if_pos J] at ag;have ah:=qcj (v:=val) hs ((qcn hs).1 J);rw[ag] at aw ax ah;exact qqc hc hW ho hp (by omega) aw ax (by omega) (by omega) (by omega) ag.symm (by rw[zU (fun h=>h ((qcn hs).1 J))]);rw[if_neg J,qwT];rw[if_neg J] at ag;have a0:key∉keysP L:=fun h=>J ((qcn hs).2 h);have ah:=qbO (v:=val) a0;rw[ag] at aw ax ah;exact qqc hc hW ho hp (by omega) aw ax (by omega) (by omega) (by omega) ag.symm (by rw[zZ a0])
 | h+1,M,⟨p,n,L,P⟩,⟨I,h0,h1,h2,h3,h4,h5,h6,h7⟩,hW,ho,aP,h8,hf=>by
  dsimp only at h1 h2 h3 h5 aP h8;subst h1 h2 h3;have hp:InUse M p:=qqf ho (by rw[h5]);have hl:loadN D M k v p=(inOf I,0):=h4.load h5;have bM:=h4.right.innerTwo;obtain⟨A,e,B,E,hA,aR,aS,aT⟩:=qhH (key:=key) h0 h6;have aU:(inOf I).kids.getD (kidV (inOf I).keys key) 0=e.2.page:=aT;have bv:kidV (inOf I).keys key=A.length:=hA.symm;have bw:e∈I:=(by rw[E];simp);obtain⟨az,al⟩:=h7 e bw;have V:∀z∈p::I.flatMap (·.2.pages),InUse M z:=fun z hz=>(zG.1 hz).elim (fun e=>by rw[e];exact hp) fun hz=>by obtain⟨b,u,hz⟩:=yJ.1 hz;exact (h7 b u).1.used ho z hz
  have ac:I.flatMap (·.2.pages)=A.flatMap (·.2.pages)++(e.2.pages++B.flatMap (·.2.pages)):=(by rw[E,qaJ]);have aa:I.flatMap (·.2.prs)=A.flatMap (·.2.prs)++(e.2.prs++B.flatMap (·.2.prs)):=(by rw[E,qaJ]);have K:=aP;have ae:=V;rw[ac] at K ae;have bx:e.2.size<=1000:=by
   have:=qgL (k:=k) (v:=v)
   cases h with
   | zero=>
    have h9:=az.2.2.1.right.2.2.2;rw[if_pos (show (lfOf e.2.prs).leaf=true from rfl)] at h9;have bz:=h9.2.2.1;have e1:(lfOf e.2.prs).keys.length=e.2.prs.length:=zK _;rw[e1] at bz;rw[az.2.1];omega
   | succ h=>
    obtain⟨bT,_,g1,_,_,g4,_⟩:=az
    have:=g4.right.innerTwo
    rw[g1];omega
  have a1:e.2.pages.Nodup:=(yL.1 (yL.1 (nodup_cons.1 K).2).2.1).1;obtain⟨g,M1,eg,ok⟩:=treePut hc hk hv h M e.2 az hW ho a1 bx (by omega);have bB:=ok.free;have af:=h6;rw[E] at af;have am:=af.mid;have a2:∀x∈A.flatMap (·.2.prs),KLt x.1 key:=fun x C=>by obtain⟨a,ha,C⟩:=yJ.1 C;exact qbw (am.1 a ha x C) aR
  have a3:∀x∈B.flatMap (·.2.prs),KLt key x.1:=fun x C=>by obtain⟨b,u,C⟩:=yJ.1 C;exact qbw (aS b u) ((am.2 b u).2.2 x C)
  have aJ:insP key val (I.flatMap (·.2.prs))=A.flatMap (·.2.prs)++(insP key val e.2.prs++B.flatMap (·.2.prs)):=(by rw[aa,qdt a2,qkA a3]);have aA:g.fresh=decide (key∉keysP (I.flatMap (·.2.prs))):=by rw[ok.fresh];refine decide_eq_decide.2 (not_congr ⟨fun J=>?_,fun J=>?_⟩);obtain⟨x,C,rfl⟩:=mem_map.1 J;exact zY (by rw[aa];exact zI _ (zH _ C));obtain⟨x,C,rfl⟩:=mem_map.1 J;rw[aa] at C;rcases zD.1 C with C|C;exact absurd (a2 x C) qaA;rcases zD.1 C with C|C;exact zY C;exact absurd (a3 x C) qaA
  have an:p∉e.2.pages:=fun J=>(nodup_cons.1 K).1 (zI _ (zH _ J));have a4:∀b,b∈A\/b∈B->∀z∈b.2.pages,z∉e.2.pages:=fun b u z hz J=>by have h9:=yL.1 (nodup_cons.1 K).2;rcases u with u|u;exact h9.2.2 z (yJ.2 ⟨b,u,hz⟩) z (zH _ J) rfl;exact (yL.1 h9.2.1).2.2 z J z (yJ.2 ⟨b,u,hz⟩) rfl
  have ab:=KeysOk.of h4;have a5:∀ {MM:PgM} {Q:List Int},Step D M MM e.2.pages Q->p∉A.flatMap (·.2.pages)++(Q++B.flatMap (·.2.pages)):=fun st J=>by have h9:=(nodup_cons.1 K).1;rcases zD.1 J with J|J;exact h9 (zH _ J);rcases zD.1 J with J|J;exact (st.rest p hp an).2.2 J;exact h9 (zI _ (zI _ J))
  unfold putN;rw[hl];dsimp only;rw[if_neg (fun h=>h rfl),if_neg (show ¬(inOf I).leaf=true from fun e=>nomatch e),aU,eg];dsimp only;rw[if_neg (fun h=>h rfl),bv];have U:∀ {MM:PgM},(∀x∈p::I.flatMap (·.2.pages),x∉e.2.pages->pagerReadM D MM x=pagerReadM D M x)->∀b,b∈A\/b∈B->Has D MM k v h b.2/\minOf k v h<=b.2.size:=fun hr b u=>by
   have aV:b∈I:=by rw[E];rcases u with u|u<;>simp[u]
   exact⟨(h7 b aV).1.frame fun x C=>hr x (zN _ (yJ.2 ⟨b,aV,C⟩)) (a4 b u x C),(h7 b aV).2⟩
  rcases ok.res with ⟨aB,n',P',aK,st,aL⟩|⟨aB,n1,L1,P1,n2,L2,P2,a6,a7,aM,a8,a9,a',ba,bC,bD,st⟩;have O:((A++(e.1,(⟨g.page,n',insP key val e.2.prs,P'⟩:Seg))::B).map (·.1)).head?=some []:=by rw[E] at h0;rw[xJ,xK] at h0⊢;exact h0
  have R:SepE (A++(e.1,(⟨g.page,n',insP key val e.2.prs,P'⟩:Seg))::B):=af.put aR aS fun x C=>(qfn C).imp (fun e=>by rw[e]) id;have y:∀x∈p::I.flatMap (·.2.pages),x∉e.2.pages->pagerReadM D M1 x=pagerReadM D M x:=fun x C aW=>(st.rest x (V x C) aW).1;have G:(A++(e.1,(⟨g.page,n',insP key val e.2.prs,P'⟩:Seg))::B).length=I.length:=(by rw[E];simp);have ap:(A++(e.1,(⟨g.page,n',insP key val e.2.prs,P'⟩:Seg))::B).flatMap (·.2.prs)=insP key val (I.flatMap (·.2.prs)):=(by rw[qaJ,aJ]);have ad:(A++(e.1,(⟨g.page,n',insP key val e.2.prs,P'⟩:Seg))::B).flatMap (·.2.pages)=A.flatMap (·.2.pages)++(P'++B.flatMap (·.2.pages)):=(by rw[qaJ]);by_cases hsame:g.page=e.2.page/\g.other=0;rw[if_pos hsame];have bb:inOf (A++(e.1,(⟨g.page,n',insP key val e.2.prs,P'⟩:Seg))::B)=inOf I:=(by rw[E];unfold inOf;simp[hsame.1]);have bE:pagerReadM D M1 p=(4,bodyN (inOf (A++(e.1,(⟨g.page,n',insP key val e.2.prs,P'⟩:Seg))::B)),0):=(by rw[y p (by simp) an,h5,bb]);refine⟨_,M1,rfl,aA,by omega,.inl ⟨rfl,I.length,p::(A.flatMap (·.2.pages)++(P'++B.flatMap (·.2.pages))),?_,?_,zM _⟩⟩
  have:=qcY O (by rw[bb];exact h4) bE R (h:=h) fun b u=>?_
  rw[G,ap,ad] at this;exact this;rcases zD.1 u with u|u;exact U y b (.inl u);rcases zG.1 u with rfl|u;exact⟨aK,zL al aL⟩;exact U y b (.inr u);show Step D M M1 (p::I.flatMap (·.2.pages)) _;rw[ac];have h9:=Step.node (p:=p) ae K st (Step.refl (D:=D) st.wf st.over (P:=[p]) (fun x C=>by rw[zE.1 C];exact (st.rest p hp an).2.1) (by simp));exact h9;rw[if_neg hsame,E,qt2 (s1:=⟨g.page,n',insP key val e.2.prs,P'⟩) rfl aB];have ai:∀b∈A++(e.1,(⟨g.page,n',insP key val e.2.prs,P'⟩:Seg))::B,Has D M1 k v h b.2/\minOf k v h<=b.2.size:=fun b u=>by rcases zD.1 u with u|u;exact U y b (.inl u);rcases zG.1 u with rfl|u;exact⟨aK,zL al aL⟩;exact U y b (.inr u)
  have aE:KeysOk k (A++(e.1,(⟨g.page,n',insP key val e.2.prs,P'⟩:Seg))::B):=qlh (by rw[<- E];exact ab);have hN:=qdN st.wf st.over aE R (by omega) (by omega) fun b u=>(ai b u).1;obtain⟨q,M2,e2,aq,H2,ah⟩:=qkz (fresh:=g.fresh) st.wf st.over O hN (by omega) R ai (st.rest p hp an).2.1 (by rw[ad];exact a5 st);refine⟨_,M2,e2,by rw[<- E];exact aA,by omega,.inl ⟨rfl,I.length,q::(A.flatMap (·.2.pages)++(P'++B.flatMap (·.2.pages))),?_,?_,Nat.le_of_eq (by rw[E])⟩⟩;rw[G,ap,ad] at H2;rw[<- E];exact H2;show Step D M M2 (p::(A++e::B).flatMap (·.2.pages)) _;rw[qaJ];exact Step.node (p:=p) ae K st aq;have bf:L1≠[]:=a6.ne;have bg:L2≠[]:=a7.ne;rw[if_neg (fun h=>aB h.2)];have R:SepE (A++(e.1,(⟨g.page,n1,L1,P1⟩:Seg))::(g.key,⟨g.other,n2,L2,P2⟩)::B):=
   (af.put (s:=⟨0,0,insP key val e.2.prs,[]⟩) aR aS fun x C=>(qfn C).imp (fun e=>by rw[e]) id).cut2 aM.symm a8 a9 bf bg
  have O:((A++(e.1,(⟨g.page,n1,L1,P1⟩:Seg))::(g.key,⟨g.other,n2,L2,P2⟩)::B).map (·.1)).head?=some []:=by
   rw[E] at h0;rw[xJ,xK] at h0⊢;cases A with
   | nil=>exact h0
   | cons a A=>exact h0
  have y:∀x∈p::I.flatMap (·.2.pages),x∉e.2.pages->pagerReadM D M1 x=pagerReadM D M x:=fun x C aW=>(st.rest x (V x C) aW).1;have G:(A++(e.1,(⟨g.page,n1,L1,P1⟩:Seg))::(g.key,⟨g.other,n2,L2,P2⟩)::B).length=I.length+1:=(by rw[E];simp;omega);have ap:(A++(e.1,(⟨g.page,n1,L1,P1⟩:Seg))::(g.key,⟨g.other,n2,L2,P2⟩)::B).flatMap (·.2.prs)=insP key val (I.flatMap (·.2.prs)):=(by rw[qaJ,yG,aJ,<- aM,zV]);have ad:(A++(e.1,(⟨g.page,n1,L1,P1⟩:Seg))::(g.key,⟨g.other,n2,L2,P2⟩)::B).flatMap (·.2.pages)=A.flatMap (·.2.pages)++((P1++P2)++B.flatMap (·.2.pages)):=(by rw[qaJ,yG,zV P1]);have ai:∀b∈A++(e.1,(⟨g.page,n1,L1,P1⟩:Seg))::(g.key,⟨g.other,n2,L2,P2⟩)::B,Has D M1 k v h b.2/\minOf k v h<=b.2.size:=fun b u=>by rcases zD.1 u with u|u;exact U y b (.inl u);rcases zG.1 u with rfl|u;exact⟨a6,bC⟩;rcases zG.1 u with rfl|u;exact⟨a7,bD⟩;exact U y b (.inr u)
  have aE:KeysOk k (A++(e.1,(⟨g.page,n1,L1,P1⟩:Seg))::(g.key,⟨g.other,n2,L2,P2⟩)::B):=qpK (by rw[<- E];exact ab) ⟨a',ba⟩;have bh:p∉(A++(e.1,(⟨g.page,n1,L1,P1⟩:Seg))::(g.key,⟨g.other,n2,L2,P2⟩)::B).flatMap (·.2.pages):=(by rw[ad];exact a5 st);have bi:=(st.rest p hp an).2.1;have bG:grownN (inOf I) A.length g=inOf (A++(e.1,(⟨g.page,n1,L1,P1⟩:Seg))::(g.key,⟨g.other,n2,L2,P2⟩)::B):=(by rw[E];exact qvC (by rw[<- E];exact h0) rfl rfl rfl aB);rw[bG];have bj:∀ {M2:PgM} {Q:List Int},Step D M1 M2 [p] Q->Step D M M2 (p::I.flatMap (·.2.pages)) (Q++(A.flatMap (·.2.pages)++((P1++P2)++B.flatMap (·.2.pages)))):=fun h2=>by rw[ac];exact Step.node (p:=p) ae K st h2
  by_cases u:I.length+1<=(capsV k v).2;have hN:=qdN st.wf st.over aE R (by omega) (by omega) fun b u=>(ai b u).1;obtain⟨q,M2,e2,aq,H2,ah⟩:=qkz (fresh:=g.fresh) st.wf st.over O hN (by omega) R ai bi bh;rw[G,ap,ad] at H2;exact⟨_,M2,e2,aA,by omega,.inl ⟨rfl,_,_,H2,bj aq,by show I.length<=I.length+1;omega⟩⟩;obtain⟨q,o,m,M2,n3,L3,P3,n4,L4,P4,e2,bH,aq,H3,H4,hL,hP,bI,aZ,bk,bl,bJ,bK,ah⟩:=qt4 (fresh:=g.fresh) hc st.wf st.over O aE (by omega) R ai bi bh;rw[ap] at hL;rw[ad] at hP;refine⟨_,M2,e2,aA,by omega,.inr ⟨bH,_,_,_,_,_,_,H3,H4,hL,bI,aZ,bk,bl,bJ,bK,?_⟩⟩
  have:=bj aq
  rw[<- hP] at this;refine this.perm (.refl _) ?_;show (q::o::(P3++P4)).Perm (q::(P3++o::P4));exact (perm_middle.symm).cons q
end
end
section
def delAt {α:Type} (l:List α) (i:Nat):List α:=l.take i++l.drop (i+1)
def lowN (n:NodeM) (k v:Nat):Prop:=(sizeN n k v).1<(sizeN n k v).2 / 2
def spareN (n:NodeM) (k v:Nat):Prop:=(sizeN n k v).1>(sizeN n k v).2 / 2
def giveN (l r:NodeM) (key:Key):NodeM×NodeM×Key:=
 if l.leaf then
  ({ l with keys:=l.keys.take (l.keys.length-1),vals:=l.vals.take (l.keys.length-1) },
  { r with keys:=l.keys.getD (l.keys.length-1) []::r.keys,vals:=l.vals.getD (l.keys.length-1) []::r.vals },l.keys.getD (l.keys.length-1) [])
 else
  ({ l with keys:=l.keys.take (l.keys.length-1),kids:=l.kids.take (l.keys.length-1+1) },
  { r with keys:=key::r.keys,kids:=l.kids.getD (l.keys.length-1+1) 0::r.kids },l.keys.getD (l.keys.length-1) [])
def takeN (l r:NodeM) (key:Key):NodeM×NodeM×Key:=
 if l.leaf then
  ({ l with keys:=l.keys++[r.keys.getD 0 []],vals:=l.vals++[r.vals.getD 0 []] },{ r with keys:=r.keys.drop 1,vals:=r.vals.drop 1 },(r.keys.drop 1).getD 0 [])
 else
  ({ l with keys:=l.keys++[key],kids:=l.kids++[r.kids.getD 0 0] },{ r with keys:=r.keys.drop 1,kids:=r.kids.drop 1 },r.keys.getD 0 [])
def joinN (l r:NodeM) (key:Key):NodeM:=⟨l.leaf,(if l.leaf then l.keys else l.keys++[key])++r.keys,l.vals++r.vals,l.kids++r.kids⟩
noncomputable def joinM (k v:Nat) (M:PgM) (n:NodeM) (i:Nat) (l r:NodeM):(NodeM×Int)×PgM:=
 if (storeN k v M (n.kids.getD i 0) (joinN l r (n.keys.getD i []))).1.2≠0 then ((zeroN,(storeN k v M (n.kids.getD i 0) (joinN l r (n.keys.getD i []))).1.2),(storeN k v M (n.kids.getD i 0) (joinN l r (n.keys.getD i []))).2)
 else if (dropV (storeN k v M (n.kids.getD i 0) (joinN l r (n.keys.getD i []))).2 (n.kids.getD (i+1) 0)).1≠0 then ((zeroN,(dropV (storeN k v M (n.kids.getD i 0) (joinN l r (n.keys.getD i []))).2 (n.kids.getD (i+1) 0)).1),(dropV (storeN k v M (n.kids.getD i 0) (joinN l r (n.keys.getD i []))).2 (n.kids.getD (i+1) 0)).2)
 else (({ n with kids:=delAt (n.kids.set i (storeN k v M (n.kids.getD i 0) (joinN l r (n.keys.getD i []))).1.1) (i+1),keys:=delAt n.keys i },0),(dropV (storeN k v M (n.kids.getD i 0) (joinN l r (n.keys.getD i []))).2 (n.kids.getD (i+1) 0)).2)
noncomputable def bothM (k v:Nat) (M:PgM) (n:NodeM) (i:Nat) (r:NodeM×NodeM×Key):(NodeM×Int)×PgM:=
 if (storeN k v M (n.kids.getD i 0) r.1).1.2≠0 then ((zeroN,(storeN k v M (n.kids.getD i 0) r.1).1.2),(storeN k v M (n.kids.getD i 0) r.1).2)
 else (({ n with keys:=n.keys.set i r.2.2,kids:=(n.kids.set i (storeN k v M (n.kids.getD i 0) r.1).1.1).set (i+1) (storeN k v (storeN k v M (n.kids.getD i 0) r.1).2 (n.kids.getD (i+1) 0) r.2.1).1.1 },(storeN k v (storeN k v M (n.kids.getD i 0) r.1).2 (n.kids.getD (i+1) 0) r.2.1).1.2),(storeN k v (storeN k v M (n.kids.getD i 0) r.1).2 (n.kids.getD (i+1) 0) r.2.1).2)
noncomputable def evenM (D:DiskM) (k v:Nat) (M:PgM) (n:NodeM) (side c:Nat) (x:NodeM):(NodeM×Int)×PgM:=
 if (loadN D M k v (n.kids.getD side 0)).2≠0 then ((zeroN,(loadN D M k v (n.kids.getD side 0)).2),M)
 else if side<c then
  if ¬spareN (loadN D M k v (n.kids.getD side 0)).1 k v then joinM k v M n side (loadN D M k v (n.kids.getD side 0)).1 x
  else bothM k v M n side (giveN (loadN D M k v (n.kids.getD side 0)).1 x (n.keys.getD side []))
 else
  if ¬spareN (loadN D M k v (n.kids.getD side 0)).1 k v then joinM k v M n c x (loadN D M k v (n.kids.getD side 0)).1
  else bothM k v M n c (takeN x (loadN D M k v (n.kids.getD side 0)).1 (n.keys.getD c []))
noncomputable def cutN (D:DiskM) (k v:Nat) (key:Key):Nat->PgM->Int->(NodeM×Int)×PgM
 | 0,M,_=>((zeroN,-1),M)
 | f+1,M,p=>
  if (loadN D M k v p).2≠0 then ((zeroN,(loadN D M k v p).2),M)
  else if (loadN D M k v p).1.leaf then
   if (loadN D M k v p).1.keys[placeV (loadN D M k v p).1.keys key]?=some key then (({ (loadN D M k v p).1 with keys:=delAt (loadN D M k v p).1.keys (placeV (loadN D M k v p).1.keys key),vals:=delAt (loadN D M k v p).1.vals (placeV (loadN D M k v p).1.keys key) },0),M)
   else ((zeroN,5),M)
  else if (cutN D k v key f M ((loadN D M k v p).1.kids.getD (kidV (loadN D M k v p).1.keys key) 0)).1.2≠0 then
   ((zeroN,(cutN D k v key f M ((loadN D M k v p).1.kids.getD (kidV (loadN D M k v p).1.keys key) 0)).1.2),(cutN D k v key f M ((loadN D M k v p).1.kids.getD (kidV (loadN D M k v p).1.keys key) 0)).2)
  else if ¬lowN (cutN D k v key f M ((loadN D M k v p).1.kids.getD (kidV (loadN D M k v p).1.keys key) 0)).1.1 k v then
   (({ (loadN D M k v p).1 with kids:=(loadN D M k v p).1.kids.set (kidV (loadN D M k v p).1.keys key) (storeN k v (cutN D k v key f M ((loadN D M k v p).1.kids.getD (kidV (loadN D M k v p).1.keys key) 0)).2 ((loadN D M k v p).1.kids.getD (kidV (loadN D M k v p).1.keys key) 0) (cutN D k v key f M ((loadN D M k v p).1.kids.getD (kidV (loadN D M k v p).1.keys key) 0)).1.1).1.1 },
    (storeN k v (cutN D k v key f M ((loadN D M k v p).1.kids.getD (kidV (loadN D M k v p).1.keys key) 0)).2 ((loadN D M k v p).1.kids.getD (kidV (loadN D M k v p).1.keys key) 0) (cutN D k v key f M ((loadN D M k v p).1.kids.getD (kidV (loadN D M k v p).1.keys key) 0)).1.1).1.2),
    (storeN k v (cutN D k v key f M ((loadN D M k v p).1.kids.getD (kidV (loadN D M k v p).1.keys key) 0)).2 ((loadN D M k v p).1.kids.getD (kidV (loadN D M k v p).1.keys key) 0) (cutN D k v key f M ((loadN D M k v p).1.kids.getD (kidV (loadN D M k v p).1.keys key) 0)).1.1).2)
  else if kidV (loadN D M k v p).1.keys key>0 then
   evenM D k v (cutN D k v key f M ((loadN D M k v p).1.kids.getD (kidV (loadN D M k v p).1.keys key) 0)).2 (loadN D M k v p).1 (kidV (loadN D M k v p).1.keys key-1) (kidV (loadN D M k v p).1.keys key) (cutN D k v key f M ((loadN D M k v p).1.kids.getD (kidV (loadN D M k v p).1.keys key) 0)).1.1
  else evenM D k v (cutN D k v key f M ((loadN D M k v p).1.kids.getD (kidV (loadN D M k v p).1.keys key) 0)).2 (loadN D M k v p).1 (kidV (loadN D M k v p).1.keys key+1) (kidV (loadN D M k v p).1.keys key) (cutN D k v key f M ((loadN D M k v p).1.kids.getD (kidV (loadN D M k v p).1.keys key) 0)).1.1
section
variable {D:DiskM} {M M':PgM} {k v:Nat}
def HasN (D:DiskM) (M:PgM) (k v:Nat):Nat->NodeM->Nat->Prs->List Int->Prop
 | 0,N,n,L,R=>N=lfOf L/\n=L.length/\R=[]/\PrsOk k v L/\SortP L/\n<=(capsV k v).1
 | h+1,N,n,L,R=>∃u:List Ent,(u.map (·.1)).head?=some []/\N=inOf u/\n=u.length/\L=u.flatMap (·.2.prs)/\R=u.flatMap (·.2.pages)/\KeysOk k u/\SepE u/\n<=(capsV k v).2/\∀e∈u,Has D M k v h e.2/\minOf k v h<=e.2.size
def oneOf (h:Nat):Nat:=if h=0 then 1 else 2
theorem HasN.size{n:Nat}(u:HasN D M k v h N n L R):sizeN N k v=(n,if h=0 then (capsV k v).1 else (capsV k v).2):=by
 cases h with
 | zero=>
  obtain⟨rfl,rfl,_⟩:=u;exact qjS
 | succ h=>
  obtain⟨y,_,rfl,rfl,_⟩:=u;exact qjO
theorem HasN.used{h:Nat}{N:NodeM}{n:Nat}{L:Prs}{R:List Int}(z:M.over=false)(y:HasN D M k v h N n L R):∀x∈R,InUse M x:=by
 cases h with
 | zero=>obtain⟨_,_,rfl,_⟩:=y;exact fun x u=>nomatch u
 | succ h=>
  obtain⟨E,_,_,_,_,rfl,_,_,_,A⟩:=y;intro x u;obtain⟨e,C,u⟩:=yJ.1 u;exact (A e C).1.used z x u
theorem HasN.frame{h:Nat}{N:NodeM}{n:Nat}{L:Prs}{R:List Int}(y:HasN D M k v h N n L R)(A:∀x∈R,pagerReadM D M' x=pagerReadM D M x):HasN D M' k v h N n L R:=by
 cases h with
 | zero=>exact y
 | succ h=>
  obtain⟨C,E,G,I,J,rfl,K,O,U,z⟩:=y;exact⟨C,E,G,I,J,rfl,K,O,U,fun e u=>⟨(z e u).1.frame fun x V=>A x (yJ.2 ⟨e,u,V⟩),(z e u).2⟩⟩
theorem HasN.ok{n:Nat}(z:M.Wf)(A:M.over=false)(u:HasN D M k v h N n L R)(y:oneOf h<=n):NodeOk N k v:=by
 cases h with
 | zero=>
  obtain⟨rfl,rfl,_,C,E,G⟩:=u;exact qgU C E y G
 | succ h=>
  obtain⟨V,h2,rfl,rfl,h4,rfl,I,J,K,O⟩:=u;exact qdN z A I J y K fun e U=>(O e U).1
theorem HasN.stored{n:Nat}(A:M.Wf)(C:M.over=false)(y:HasN D M k v h N n L R)(E:oneOf h<=n)(z:pagerReadM D M q=(kindN N,bodyN N,0)):Has D M k v h ⟨q,n,L,q::R⟩:=by
 have u:=y.ok A C E;cases h with
 | zero=>
  obtain⟨rfl,rfl,rfl,K,O,U⟩:=y;exact qfj u z
 | succ h=>
  obtain⟨V,G,rfl,rfl,rfl,rfl,h6,I,h8,J⟩:=y;exact qcY G u z I J
theorem Has.load{h:Nat}{s:Seg}(I:Has D M k v h s):∃N R,loadN D M k v s.page=(N,0)/\HasN D M k v h N s.size s.prs R/\s.pages=s.page::R/\N.leaf=decide (h=0)/\oneOf h<=s.size:=by
 cases h with
 | zero=>
  obtain⟨A,C,y,E⟩:=I;have u:=y.right.2.2.2;rw[if_pos (show (lfOf s.prs).leaf=true from rfl)] at u;have e:(lfOf s.prs).keys.length=s.prs.length:=zK _;rw[e] at u;exact⟨lfOf s.prs,[],y.load E,⟨rfl,C,rfl,fun x G=>⟨y.right.1 x.1 (zY G),y.right.2.1 x.2 (zY G),y.keys x.1 (zY G),y.vals x.2 (zY G)⟩,y.right.2.2.1,by rw[C];exact u.2.2.1⟩,A,rfl,by rw[C];exact u.2.1⟩
 | succ h=>
  obtain⟨J,K,A,C,y,E,O,U,V⟩:=I;have z:=E.right.innerTwo;exact⟨inOf J,_,E.load O,⟨J,K,rfl,A,C,rfl,KeysOk.of E,U,by rw[A];exact z.2,V⟩,y,rfl,by rw[A];exact z.1⟩
theorem HasN.store{n:Nat}(A:M.Wf)(u:M.over=false)(y:HasN D M k v h N n L R)(C:oneOf h<=n)(I:InUse M p)(z:p∉R)(E:1<=M.free.length): ∃q M',storeN k v M p N=((q,0),M')/\Step D M M' [p] [q]/\Has D M' k v h ⟨q,n,L,q::R⟩/\M.free.length<=M'.free.length+1:=by obtain⟨q,M',e,st,J,K,_⟩:=qh1 (D:=D) A u (y.ok A u C) I (fun e=>by rw[e] at E;exact absurd E (by decide));exact⟨q,M',e,st,(y.frame fun x G=>(st.rest x (y.used u x G) (fun O=>z (by rw[<- zE.1 O];exact G))).1).stored st.wf st.over C J,K⟩
theorem qwR{h u:Prs}{z:Key×Key}:giveN (lfOf (h++[z])) (lfOf u) key=(lfOf h,lfOf (z::u),z.1):=by unfold giveN;rw[if_pos (show (lfOf _).leaf=true from rfl)];unfold lfOf;simp
theorem qwU{h u:Prs}{z y:Key×Key}:takeN (lfOf h) (lfOf (z::y::u)) key=(lfOf (h++[z]),lfOf (y::u),y.1):=by unfold takeN;rw[if_pos (show (lfOf _).leaf=true from rfl)];unfold lfOf;simp
theorem qwS{h u:Prs}:joinN (lfOf h) (lfOf u) key=lfOf (h++u):=by unfold joinN;unfold lfOf;simp
theorem qwK{a z b:Ent}{h u:List Ent}:giveN (inOf (a::h++[z])) (inOf (b::u)) key=(inOf (a::h),inOf (([],z.2)::(key,b.2)::u),z.1):=by unfold giveN;rw[if_neg (show ¬(inOf _).leaf=true from fun e=>nomatch e)];unfold inOf;simp
theorem qwM{h u:List Ent}{a z y:Ent}:takeN (inOf (a::h)) (inOf (z::y::u)) key=(inOf (a::h++[(key,z.2)]),inOf (([],y.2)::u),y.1):=by unfold takeN;rw[if_neg (show ¬(inOf _).leaf=true from fun e=>nomatch e)];unfold inOf;simp
theorem qwL{h u:List Ent}{a b:Ent}:joinN (inOf (a::h)) (inOf (b::u)) key=inOf (a::h++(key,b.2)::u):=by unfold joinN;unfold inOf;simp
theorem SepE.app{a b:List Ent}(u:SepE a)(A:SepE b)(h:∀x∈a,∀y∈b,KLt x.1 y.1/\∀z∈x.2.prs,KLt z.1 y.1):SepE (a++b):=
 ⟨pairwise_append.2 ⟨u.pair,A.pair,fun x C y E=>h x C y E⟩,fun e G=>(zD.1 G).elim (u.low e) (A.low e)⟩
theorem SepE.sub{a b:List Ent}(h:SepE b)(u:a.Sublist b):SepE a:=⟨h.pair.sublist u,fun e y=>h.low e (u.subset y)⟩
theorem qnl{e:Ent}(h:∀x∈e.2.prs,KLe e.1 x.1):SepE [e]:=⟨pairwise_singleton _ _,fun a u=>by rw[zE.1 u];exact h⟩
theorem qr2{a b:Key}(h:KLt a b):KLt [] b:=by
 cases b with
 | nil=>exact absurd h qkM
 | cons y l=>show cmpL [] (y::l)<0;simp[cmpL]
theorem SepE.head{x:Ent}{r:List Ent}(h:SepE (x::r))(A:∀b∈r,KLt m b.1)(C:∀y∈x.2.prs,KLe m y.1):SepE ((m,x.2)::r):=by have z:=yI.1 h.pair;exact⟨yI.2 ⟨fun b u=>⟨A b u,(z.1 b u).2⟩,z.2⟩,fun b u=>(zG.1 u).elim (fun e=>by rw[e];exact C) fun u=>h.low b (zN _ u)⟩
theorem qm6{x:Ent}{r:List Ent}(z:SepE (x::r))(A:Has D M k v h x.2)(C:∀y∈x.2.prs,KLe m y.1):∀b∈r,KLt m b.1:=fun b E=>by obtain⟨y,u⟩:=exists_mem_of_ne_nil _ A.ne;exact qi6 (C y u) (((yI.1 z.pair).1 b E).2 y u)
structure TwoOk (D:DiskM) (M:PgM) (k v:Nat) (h:Nat) (r:NodeM×NodeM×Key) (L:Prs) (P:List Int):Prop where
 res:∃ n1 L1 R1 n2 L2 R2,HasN D M k v h r.1 n1 L1 R1/\HasN D M k v h r.2.1 n2 L2 R2/\L1++L2=L/\R1++R2=P/\(∀ x∈L1,KLt x.1 r.2.2)/\(∀ y∈L2,KLe r.2.2 y.1)/\r.2.2.length=k/\IsB r.2.2/\minOf k v h<=n1/\minOf k v h<=n2/\L1≠[]/\L2≠[]
theorem CapsOk.min(u:CapsOk k v)(h:Nat):oneOf h<=minOf k v h/\1<=minOf k v h:=by have y:=u.leaf;have z:=u.inner;unfold oneOf minOf;split<;>omega
theorem qwD{es:List Ent}(y:∀e∈es,Has D M k v h e.2/\minOf k v h<=e.2.size)(u:es≠[]:=by simp):es.flatMap (·.2.prs)≠[]:=by
 cases es with
 | nil=>exact absurd rfl u
 | cons a r=>intro e;rw[yG] at e;exact (y a (by simp)).1.ne (append_eq_nil_iff.1 e).1
theorem qwF(E:CapsOk k v){U:Prs}(hl:HasN D M k v h Nl n1 U R1)(hr:HasN D M k v h Nr n2 L2 R2)(V:minOf k v h<n1)(h2:n2+1=minOf k v h)(h3:∀x∈U,KLt x.1 key)(h4:∀y∈L2,KLe key y.1)(hk:key.length=k/\IsB key): TwoOk D M k v h (giveN Nl Nr key) (U++L2) (R1++R2):=by
 have ar:=E.min h;cases h with
 | zero=>
  obtain⟨rfl,rfl,rfl,ai,J,K⟩:=hl;obtain⟨rfl,rfl,rfl,au,O,aj⟩:=hr;have ak:U≠[]:=fun e=>by rw[e] at V;simp at V
  obtain⟨L,z,rfl⟩:∃L z,U=L++[z]:=⟨U.dropLast,U.getLast ak,(dropLast_concat_getLast ak).symm⟩;rw[qwR];have hz:=ai z (by simp);have al:=SortP.app.1 J;rw[zF] at V K;have av:SortP (z::L2):=by refine yI.2 ⟨fun a ha=>?_,O⟩;obtain⟨y,C,rfl⟩:=mem_map.1 ha;exact qbw (h3 z (by simp)) (h4 y C)
  have aw:minOf k v 0=(capsV k v).1 / 2:=rfl;refine⟨L.length,L,[],L2.length+1,z::L2,[],⟨rfl,rfl,rfl,ai.sub fun x I=>zH _ I,al.1,?_⟩,⟨rfl,rfl,rfl,fun x I=>(zG.1 I).elim (fun e=>by rw[e];exact hz) (au x),av,by omega⟩,by simp,rfl,fun x I=>al.2.2 x I z (by simp),fun y C=>?_,hz.1,hz.2.2.1,?_,by omega,?_,by simp⟩;simp at K;omega;rcases zG.1 C with rfl|C;exact qaA;exact qaY (qbw (h3 z (by simp)) (h4 y C));simp at V;omega;intro e;rw[e] at V;simp at V;omega
 | succ h=>
  obtain⟨ab,ax,rfl,rfl,rfl,rfl,am,J,K,ac⟩:=hl;obtain⟨u,ay,rfl,rfl,rfl,rfl,az,O,aj,ad⟩:=hr;obtain⟨a,G,z,rfl⟩:∃a G z,ab=a::G++[z]:=by
   have:2<=ab.length:=(by have:=ar.1;unfold oneOf at this;rw[iN] at this;omega);match ab,this with
   | a::b::r,_=>exact⟨a,(b::r).dropLast,(b::r).getLast (by simp),by rw[xH,dropLast_concat_getLast]⟩
  obtain⟨b,u,rfl⟩:∃b G,u=b::G:=by
   cases u with
   | nil=>cases ay
   | cons b r=>exact⟨b,r,rfl⟩
  rw[qwK];have hz:=ac z (by simp);have an:=am z (show z∈G++[z] by simp);have ao:=SepE.mid (A:=a::G) (e:=z) (B:=[]) J;have R:KLt z.1 key:=by obtain⟨x,I⟩:=exists_mem_of_ne_nil _ hz.1.ne;exact qi6 (J.low z (by simp) x I) (h3 x (yJ.2 ⟨z,by simp,I⟩))
  have ap:∀y∈b.2.prs,KLe key y.1:=fun y C=>h4 y (by rw[yG];exact zH _ C);have ae:∀c∈u,KLt key c.1:=qm6 O (ad b (by simp)).1 ap;have af:SepE (([],z.2)::(key,b.2)::u):=by refine SepE.app (a:=[([],z.2)]) (qnl fun x _=>qgT _) (O.head ae ap) fun x I y C=>?_;rw[zE.1 I];rcases zG.1 C with rfl|C;exact⟨qr2 R,fun w hw=>h3 w (yJ.2 ⟨z,by simp,hw⟩)⟩;exact⟨qr2 (ae y C),fun w hw=>qaB (h3 w (yJ.2 ⟨z,by simp,hw⟩)) (ae y C)⟩
  have aw:minOf k v (h+1)=(capsV k v).2 / 2:=rfl;simp only[zF,yH,length_nil] at V h2 K aj;have aB:(a::G++[z]).flatMap (·.2.prs)=(a::G).flatMap (·.2.prs)++z.2.prs:=(by simp[yP]);have aC:(a::G++[z]).flatMap (·.2.pages)=(a::G).flatMap (·.2.pages)++z.2.pages:=(by simp[yP]);refine⟨G.length+1,(a::G).flatMap (·.2.prs),(a::G).flatMap (·.2.pages),u.length+2,z.2.prs++(b.2.prs++u.flatMap (·.2.prs)),z.2.pages++(b.2.pages++u.flatMap (·.2.pages)),⟨a::G,ax,rfl,rfl,rfl,rfl,fun c E=>am c (show c∈G++[z] from zH _ E),J.sub (sublist_append_left _ _),by omega,fun c E=>ac c (zH _ E)⟩,⟨([],z.2)::(key,b.2)::u,rfl,rfl,rfl,rfl,rfl,fun c E=>(zG.1 E).elim (fun e=>by rw[e];exact hk) (az c),af,by omega,fun c E=>?_⟩,?_,?_,fun x I=>?_,fun y C=>?_,an.1,an.2,by omega,by omega,?_,?_⟩;rcases zG.1 E with rfl|E;exact hz;rcases zG.1 E with rfl|E;exact ad b (by simp);exact ad c (by simp[E]);rw[aB];simp only[yG,zV];rw[aC];simp only[yG,zV];obtain⟨c,E,I⟩:=yJ.1 I;exact ao.1 c E x I;rcases zD.1 C with C|C;exact J.low z (by simp) y C;exact qc1 (qaY R) (h4 y (by rw[yG];exact C));exact qwD (fun c E=>ac c (zH _ E));intro e;exact hz.1.ne (append_eq_nil_iff.1 e).1
theorem quf{es:List Ent}(z:SepE es)(A:∀e∈es,Has D M k v h e.2/\minOf k v h<=e.2.size)(C:∀x∈es.flatMap (·.2.prs),KLt x.1 key):∀e∈es,KLt e.1 key:=fun e u=>by obtain⟨x,y⟩:=exists_mem_of_ne_nil _ (A e u).1.ne;exact qi6 (z.low e u x y) (C x (yJ.2 ⟨e,u,y⟩))
theorem qxd(hc:CapsOk k v){L1:Prs}(hl:HasN D M k v h Nl n1 L1 R1)(hr:HasN D M k v h Nr n2 L2 R2)(h1:n1+1=minOf k v h)(h2:minOf k v h<n2)(h3:∀x∈L1,KLt x.1 key)(h4:∀y∈L2,KLe key y.1)(hk:key.length=k/\IsB key): TwoOk D M k v h (takeN Nl Nr key) (L1++L2) (R1++R2):=by
 have hmn:=hc.min h;cases h with
 | zero=>
  obtain⟨rfl,rfl,rfl,hL1,hs1,hb1⟩:=hl;obtain⟨rfl,rfl,rfl,hL2,hs2,hb2⟩:=hr;obtain⟨z,y,L,rfl⟩:∃z y L,L2=z::y::L:=by
   match L2,h2 with
   | [],h=>simp at h
   | [_],h=>simp at h;omega
   | z::y::L,_=>exact⟨z,y,L,rfl⟩
  rw[qwU];have hz:=hL2 z (by simp);have hy:=hL2 y (by simp);have hcs:=yI.1 (show (z.1::keysP (y::L)).Pairwise KLt from hs2);simp only[yH] at h2 hb2;have hml:minOf k v 0=(capsV k v).1 / 2:=rfl;have hzy:KLt z.1 y.1:=hcs.1 y.1 (by simp);refine⟨L1.length+1,L1++[z],[],L.length+1,y::L,[],⟨rfl,by simp,rfl,fun x hx=>(zD.1 hx).elim (hL1 x) fun hx=>by rw[zE.1 hx];exact hz,?_,by omega⟩,⟨rfl,by simp,rfl,fun x hx=>hL2 x (zN _ hx),hcs.2,by omega⟩,by simp,rfl,fun x hx=>?_,fun w hw=>?_,hy.1,hy.2.2.1,by omega,by omega,by simp,by simp⟩;exact SortP.app.2 ⟨hs1,pairwise_singleton _ _,fun x hx w hw=>by rw[zE.1 hw];exact qbw (h3 x hx) (h4 z (by simp))⟩;rcases zD.1 hx with hx|hx;exact qaB (qbw (h3 x hx) (h4 z (by simp))) hzy;rw[zE.1 hx];exact hzy;rcases zG.1 hw with rfl|hw;exact qaA;exact qaY ((yI.1 (show (y.1::keysP L).Pairwise KLt from hcs.2)).1 w.1 (zY hw))
 | succ h=>
  obtain⟨es1,hh1,rfl,rfl,rfl,rfl,hk1,hs1,hb1,hp1⟩:=hl;obtain⟨es2,hh2,rfl,rfl,rfl,rfl,hk2,hs2,hb2,hp2⟩:=hr;obtain⟨a,es,rfl⟩:∃a es,es1=a::es:=by
   cases es1 with
   | nil=>cases hh1
   | cons b r=>exact⟨b,r,rfl⟩
  obtain⟨z,y,es2,rfl⟩:∃z y es,es2=z::y::es:=by
   have h9:=hmn.2;match es2,h2 with
   | [],h=>simp at h
   | [_],h=>simp at h;omega
   | z::y::L,_=>exact⟨z,y,L,rfl⟩
  rw[qwM];have hz:=hp2 z (by simp);have hyk:=hk2 y (show y∈y::es2 by simp);have hz4:∀w∈z.2.prs,KLe key w.1:=fun w hw=>h4 w (by rw[yG];exact zH _ hw);have hky:KLt key y.1:=qm6 hs2 hz.1 hz4 y (by simp);have hcs:=yI.1 hs2.pair;have hcy:=yI.1 hcs.2;have hsl:SepE (a::es++[(key,z.2)]):=SepE.app hs1 (qnl hz4) fun x hx w hw=>by rw[zE.1 hw];exact⟨quf hs1 hp1 h3 x hx,fun q hq=>h3 q (yJ.2 ⟨x,hx,hq⟩)⟩
  have hsr:SepE (([],y.2)::es2):=SepE.relow (es:=y::es2) (hs2.sub (sublist_cons_self _ _));have hml:minOf k v (h+1)=(capsV k v).2 / 2:=rfl;simp only[yH] at h1 h2 hb1 hb2;refine⟨es.length+2,(a::es).flatMap (·.2.prs)++z.2.prs,(a::es).flatMap (·.2.pages)++z.2.pages,es2.length+1,y.2.prs++es2.flatMap (·.2.prs),y.2.pages++es2.flatMap (·.2.pages),⟨a::es++[(key,z.2)],hh1,rfl,by simp,by simp[yP],by simp[yP],fun c hc=>?_,hsl,by omega,fun c hc=>?_⟩,⟨([],y.2)::es2,rfl,rfl,rfl,rfl,rfl,fun c hc=>hk2 c (show c∈y::es2 from zN _ hc),hsr,by omega,fun c hc=>?_⟩,?_,?_,fun x hx=>?_,fun w hw=>?_,hyk.1,hyk.2,by omega,by omega,?_,?_⟩;rcases zD.1 (show c∈es++[(key,z.2)] from hc) with hc|hc;exact hk1 c hc;rw[zE.1 hc];exact hk;rcases zD.1 hc with hc|hc;exact hp1 c hc;rw[zE.1 hc];exact hz;rcases zG.1 hc with rfl|hc;exact hp2 y (by simp);exact hp2 c (by simp[hc]);simp only[yG,zV];simp only[yG,zV];rcases zD.1 hx with hx|hx;exact qaB (h3 x hx) hky;exact (hcs.1 y (by simp)).2 x hx;rcases zD.1 hw with hw|hw;exact hs2.low y (by simp) w hw;obtain⟨c,hc,hw⟩:=yJ.1 hw;exact qc1 (qaY (hcy.1 c hc).1) (hs2.low c (by simp[hc]) w hw);intro e;exact hz.1.ne (append_eq_nil_iff.1 e).2;intro e;exact (hp2 y (by simp)).1.ne (append_eq_nil_iff.1 e).1
theorem qwO{L1:Prs}(hl:HasN D M k v h Nl n1 L1 R1)(hr:HasN D M k v h Nr n2 L2 R2)(h1:n1+n2<=(if h=0 then (capsV k v).1 else (capsV k v).2))(h3:∀x∈L1,KLt x.1 key)(h4:∀y∈L2,KLe key y.1)(hk:key.length=k/\IsB key): HasN D M k v h (joinN Nl Nr key) (n1+n2) (L1++L2) (R1++R2):=by
 cases h with
 | zero=>
  obtain⟨rfl,rfl,rfl,af,A,ag⟩:=hl;obtain⟨rfl,rfl,rfl,ah,C,ai⟩:=hr;rw[qwS];exact⟨rfl,by simp,rfl,fun x J=>(zD.1 J).elim (af x) (ah x),SortP.app.2 ⟨A,C,fun x J y E=>qbw (h3 x J) (h4 y E)⟩,h1⟩
 | succ h=>
  obtain⟨O,R,rfl,rfl,rfl,rfl,aj,A,ag,U⟩:=hl;obtain⟨z,ak,rfl,rfl,rfl,rfl,al,C,ai,G⟩:=hr;obtain⟨a,K,rfl⟩:∃a K,O=a::K:=by
   cases O with
   | nil=>cases R
   | cons b r=>exact⟨b,r,rfl⟩
  obtain⟨b,z,rfl⟩:∃b K,z=b::K:=by
   cases z with
   | nil=>cases ak
   | cons b r=>exact⟨b,r,rfl⟩
  rw[qwL];have V:∀y∈b.2.prs,KLe key y.1:=fun y E=>h4 y (by rw[yG];exact zH _ E);have I:=qm6 C (G b (by simp)).1 V;refine⟨a::K++(key,b.2)::z,R,rfl,by simp;omega,by simp[yP],by simp[yP],fun c u=>?_,SepE.app A (C.head I V) fun x J y E=>?_,by simpa using h1,fun c u=>?_⟩;rcases zD.1 (show c∈K++(key,b.2)::z from u) with u|u;exact aj c u;rcases zG.1 u with rfl|u;exact hk;exact al c u;have aa:=quf A U h3 x J;have ab:∀w∈x.2.prs,KLt w.1 key:=fun w hw=>h3 w (yJ.2 ⟨x,J,hw⟩);rcases zG.1 E with rfl|E;exact⟨aa,ab⟩;exact⟨qaB aa (I y E),fun w hw=>qaB (ab w hw) (I y E)⟩;rcases zD.1 u with u|u;exact U c u;rcases zG.1 u with rfl|u;exact G b (by simp);exact G c (by simp[u])
end
end
section
section
variable {D:DiskM} {M M':PgM} {k v:Nat}
theorem Step.part{M1:PgM}{a x y:List Int}(A:∀z∈a++(x++b),InUse M z)(C:(a++(x++b)).Nodup)(h:Step D M M1 x y):Step D M M1 (a++(x++b)) (a++(y++b)):=by have u:(a++(x++b)).Perm ((a++b)++x):=qhT (z:=a);exact ((h.beside (Z:=a++b) (fun z E=>A z (u.mem_iff.2 (zH _ E))) (u.nodup_iff.1 C)).perm u.symm (qhT (z:=a)).symm)
theorem Step.kid{M1 u:PgM}{h Q:List Int}(A:∀z∈p::R,InUse M z)(C:(p::R).Nodup)(E:Step D M M1 R h)(G:Step D M1 u [p] Q):Step D M u (p::R) (Q++h):=by
 have:=Step.node (D:=D) (p:=p) (a:=[]) (b:=[]) (x:=R) (y:=h) (Q:=Q) (by simpa using A) (by simpa using C) E G
 simpa using this
theorem qjB{A B:List Ent}{e1 h:Ent}:((A++e1::h::B).map (·.1)).tail.getD A.length []=h.1:=by
 cases A with
 | nil=>rfl
 | cons a A=>simp
theorem qe2{A B:List Ent}{e1 h:Ent}:((A++e1::h::B).map (·.2.page)).getD A.length 0=e1.2.page/\((A++e1::h::B).map (·.2.page)).getD (A.length+1) 0=h.2.page:=by constructor;simp;simp
theorem qxa{A B:List Ent}{e1 h:Ent}{s1 s2:Seg}:(⟨false,((A++e1::h::B).map (·.1)).tail.set A.length m,[],(((A++e1::h::B).map (·.2.page)).set A.length s1.page).set (A.length+1) s2.page⟩:NodeM)=inOf (A++(e1.1,s1)::(m,s2)::B):=by
 unfold inOf;congr 1;cases A with
 | nil=>rfl
 | cons a A=>simp[set_append_right]
 simp[set_append_right]
theorem qwz{A B:List Ent}{e1 y:Ent}{s:Seg}:(⟨false,delAt ((A++e1::y::B).map (·.1)).tail A.length,[],delAt (((A++e1::y::B).map (·.2.page)).set A.length s.page) (A.length+1)⟩:NodeM)=inOf (A++(e1.1,s)::B):=by
 have C:(A.map (·.2.page)).length=A.length:=zK _;unfold inOf delAt;congr 1;cases A with
 | nil=>rfl
 | cons a A=>
  have u:((a::A++e1::y::B).map (·.1)).tail=(A.map (·.1)++[e1.1])++(y.1::B.map (·.1)):=(by simp);have z:((a::A++(e1.1,s)::B).map (·.1)).tail=(A.map (·.1)++[e1.1])++B.map (·.1):=(by simp);have h:(A.map (·.1)++[e1.1]).length=(a::A).length:=(by simp);rw[u,z,take_left' h,<- h,drop_length_add_append];rfl
 have u:((A++e1::y::B).map (·.2.page)).set A.length s.page=(A.map (·.2.page)++[s.page])++(y.2.page::B.map (·.2.page)):=(by rw[xJ,set_append_right _ _ (by omega),C,Nat.sub_self];simp);have h:(A.map (·.2.page)++[s.page]).length=A.length+1:=(by simp);rw[u,take_left' h,<- h,drop_length_add_append];simp
theorem qw9{A B:List Ent}{e:Ent}{s:Seg}:(⟨false,((A++e::B).map (·.1)).tail,[],((A++e::B).map (·.2.page)).set A.length s.page⟩:NodeM)=inOf (A++(e.1,s)::B):=by
 have h:(A.map (·.2.page)).length=A.length:=zK _;unfold inOf;congr 1;cases A with
 | nil=>rfl
 | cons a A=>simp
 rw[xJ,set_append_right _ _ (by omega),h,Nat.sub_self];simp
structure Nbrs (D:DiskM) (M:PgM) (k v:Nat) (h:Nat) (A B:List Ent) (e1 e2:Ent) (Nl Nr:NodeM) (n1 n2:Nat) (L1 L2:Prs) (R1 R2:List Int):Prop where
 wf:M.Wf
 over:M.over=false
 head:((A++e1::e2::B).map (·.1)).head?=some []
 keys:KeysOk k (A++e1::e2::B)
 sep:SepE (A++(e1.1,⟨0,0,L1,[]⟩)::(e2.1,⟨0,0,L2,[]⟩)::B)
 len:A.length+B.length+2<=(capsV k v).2
 rest:∀ b,b∈A\/b∈B->Has D M k v h b.2/\minOf k v h<=b.2.size
 left:HasN D M k v h Nl n1 L1 R1
 right:HasN D M k v h Nr n2 L2 R2
 use:∀ x∈A.flatMap (·.2.pages)++(((e1.2.page::R1)++(e2.2.page::R2))++B.flatMap (·.2.pages)),InUse M x
 nodup:(A.flatMap (·.2.pages)++(((e1.2.page::R1)++(e2.2.page::R2))++B.flatMap (·.2.pages))).Nodup
theorem Nbrs.mids{A B:List Ent}{e1 u:Ent}{E G:NodeM}{C z:Prs}{I J:List Int}(H:Nbrs D M k v h A B e1 u E G n1 n2 C z I J):(∀x∈C,KLt x.1 u.1)/\(∀y∈z,KLe u.1 y.1)/\u.1.length=k/\IsB u.1:=by have K:=pairwise_append.1 H.sep.pair;have O:=yI.1 K.2.1;have R:=H.keys u (by cases A<;>simp);exact⟨(O.1 (u.1,⟨0,0,z,[]⟩) (by simp)).2,H.sep.low (u.1,⟨0,0,z,[]⟩) (by simp),R⟩
theorem qrK(hc:CapsOk k v){A B:List Ent}{e1 C:Ent}{L1:Prs}(H:Nbrs D M k v h A B e1 C Nl Nr n1 n2 L1 L2 R1 R2){r:NodeM×NodeM×Key}(hr:TwoOk D M k v h r (L1++L2) (R1++R2))(hf:2<=M.free.length:=by omega): ∃N M' R,bothM k v M (inOf (A++e1::C::B)) A.length r=((N,0),M')/\HasN D M' k v (h+1) N (A.length+B.length+2) (A.flatMap (·.2.prs)++((L1++L2)++B.flatMap (·.2.prs))) R/\ Step D M M' (A.flatMap (·.2.pages)++(((e1.2.page::R1)++(C.2.page::R2))++B.flatMap (·.2.pages))) R/\M.free.length<=M'.free.length+2:=by
 obtain⟨m1,K1,G,m2,K2,I,aK,aL,eL,eR,aM,aN,aO,aP,aQ,aR,ay,az⟩:=hr.res;have bd:=hc.min h;have aa:=H.use;have ap:=H.nodup;have pm:(((e1.2.page::R1)++(C.2.page::R2))).Perm (e1.2.page::C.2.page::(R1++R2)):=by rw[xH];exact (perm_middle).cons _
 rw[<- eR] at pm;have O:∀x,x∈e1.2.page::C.2.page::(G++I)->x∈A.flatMap (·.2.pages)++(((e1.2.page::R1)++(C.2.page::R2))++B.flatMap (·.2.pages)):=fun x y=>zI _ (zH _ (pm.mem_iff.2 y));have ag:(e1.2.page::C.2.page::(G++I)).Nodup:=pm.nodup_iff.1 (yL.1 (yL.1 ap).2.1).1;have U:=nodup_cons.1 ag;have ah:=nodup_cons.1 U.2;have aS:=aa _ (O e1.2.page (by simp));have aB:=aa _ (O C.2.page (by simp));obtain⟨E,M1,s1,ab,H1,bg⟩:=aK.store H.wf H.over (by omega) aS (fun hm=>U.1 (zN _ (zH _ hm))) (by omega);have J:∀x,InUse M x->x≠e1.2.page->pagerReadM D M1 x=pagerReadM D M x/\InUse M1 x/\x≠E:=fun x y aq=>by
  have:=ab.rest x y (by simpa using aq)
  exact⟨this.1,this.2.1,by simpa using this.2.2⟩
 have ac:C.2.page≠e1.2.page:=fun e=>U.1 (by rw[e];simp);have aU:HasN D M1 k v h r.2.1 m2 K2 I:=aL.frame fun x y=>(J x (aa x (O x (by simp[y]))) (fun e=>U.1 (by rw[<- e];simp[y]))).1;obtain⟨K,M2,s2,aC,H2,bj⟩:=aU.store ab.wf ab.over (by omega) (J _ aB ac).2.1 (fun hm=>ah.1 (zI _ hm)) (by omega);have ad:∀x,InUse M1 x->x≠C.2.page->pagerReadM D M2 x=pagerReadM D M1 x/\InUse M2 x/\x≠K:=fun x y aq=>by
  have:=aC.rest x y (by simpa using aq)
  exact⟨this.1,this.2.1,by simpa using this.2.2⟩
 have ai:∀x∈E::G,InUse M1 x/\x≠C.2.page:=fun x y=>by refine⟨H1.used ab.over x y,fun e=>?_⟩;rcases zG.1 y with e'|y;rcases ab.new E (by simp) with V|V;exact ac (by rw[<- e,e',zE.1 V]);exact V (by rw[<- e',e];exact aB);exact ah.1 (zH _ (e▸y))
 have aV:Has D M2 k v h ⟨E,m1,K1,E::G⟩:=H1.frame fun x y=>(ad x (ai x y).1 (ai x y).2).1;have aW:∀b,b∈A\/b∈B->∀x∈b.2.pages,InUse M x/\x≠e1.2.page/\x≠C.2.page:=fun b u x y=>by
  have hd:=yL.1 ap;have aX:=yL.1 hd.2.1;have aD:∀z,z=e1.2.page\/z=C.2.page->z∈(e1.2.page::R1)++(C.2.page::R2):=fun z hz=>pm.mem_iff.2 (by rcases hz with rfl|rfl<;>simp);have key:∀z,z=e1.2.page\/z=C.2.page->x≠z:=fun z hz e=>by rcases u with u|u;exact hd.2.2 x (yJ.2 ⟨b,u,y⟩) z (zH _ (aD z hz)) e;exact aX.2.2 z (aD z hz) x (yJ.2 ⟨b,u,y⟩) e.symm
  refine⟨aa x ?_,key _ (.inl rfl),key _ (.inr rfl)⟩;rcases u with u|u;exact zH _ (yJ.2 ⟨b,u,y⟩);exact zI _ (zI _ (yJ.2 ⟨b,u,y⟩))
 have ae:∀b,b∈A\/b∈B->Has D M2 k v h b.2/\minOf k v h<=b.2.size:=fun b u=>⟨(H.rest b u).1.frame fun x y=>by have V:=aW b u x y;have h8:=J x V.1 V.2.1;exact ((ad x h8.2.1 V.2.2).1).trans h8.1,(H.rest b u).2⟩;have hL:K1++K2=L1++L2:=eL;have aE:SepE (A++(e1.1,(⟨E,m1,K1,E::G⟩:Seg))::(r.2.2,⟨K,m2,K2,K::I⟩)::B):=by
  have hS:=H.sep;have hp:=pairwise_append.1 hS.pair;have af:=yI.1 hp.2.1;have aG:=yI.1 af.2;have hj:SepE (A++(e1.1,(⟨0,0,L1++L2,[]⟩:Seg))::B):=by refine⟨pairwise_append.2 ⟨hp.1,yI.2 ⟨fun b u=>⟨(af.1 b (by simp[u])).1,fun x y=>?_⟩,aG.2⟩,fun a ha b u=>?_⟩,fun b u x y=>?_⟩;rcases zD.1 y with y|y;exact (af.1 b (by simp[u])).2 x y;exact (aG.1 b u).2 x y;rcases zG.1 u with rfl|u;exact hp.2.2 a ha (e1.1,⟨0,0,L1,[]⟩) (by simp);exact hp.2.2 a ha b (by simp[u]);rcases zD.1 u with u|u;exact hS.low b (by simp[u]) x y;rcases zG.1 u with rfl|u;rcases zD.1 y with y|y;exact hS.low (e1.1,⟨0,0,L1,[]⟩) (by simp) x y;have V:=hS.low (C.1,⟨0,0,L2,[]⟩) (by simp) x y;exact qc1 (qaY (af.1 (C.1,⟨0,0,L2,[]⟩) (by simp)).1) V;exact hS.low b (by simp[u]) x y
  exact hj.cut2 hL.symm aM aN ay az
 have ar:KeysOk k (A++(e1.1,(⟨E,m1,K1,E::G⟩:Seg))::(r.2.2,⟨K,m2,K2,K::I⟩)::B):=by
  have V:KeysOk k (A++e1::B):=fun b u=>H.keys b (by
   cases A with
   | nil=>exact zN _ u
   | cons a A=>
    rcases zD.1 (show b∈A++e1::B from u) with u|u;exact zH (e1::C::B) u;exact zI A ((zG.1 u).elim (fun e=>by rw[e];simp) fun u=>by simp[u]))
  exact qpK V ⟨aO,aP⟩
 have au:((A++(e1.1,(⟨E,m1,K1,E::G⟩:Seg))::(r.2.2,⟨K,m2,K2,K::I⟩)::B).map (·.1)).head?=some []:=by
  have V:=H.head;cases A with
  | nil=>exact V
  | cons a A=>exact V
 refine⟨inOf (A++(e1.1,(⟨E,m1,K1,E::G⟩:Seg))::(r.2.2,⟨K,m2,K2,K::I⟩)::B),M2,_,?_,⟨_,au,rfl,by simp;omega,?_,rfl,ar,aE,H.len,fun b u=>?_⟩,?_,by omega⟩;have aY:(inOf (A++e1::C::B)).kids.getD A.length 0=e1.2.page:=qe2.1;have aZ:(inOf (A++e1::C::B)).kids.getD (A.length+1) 0=C.2.page:=qe2.2;unfold bothM;rw[aY,aZ,s1];dsimp only;rw[if_neg (fun h=>h rfl),s2];exact congrArg (fun N=>((N,(0:Int)),M2)) (qxa (s1:=⟨E,m1,K1,E::G⟩) (s2:=⟨K,m2,K2,K::I⟩));rw[qaJ,yG,<- hL,zV];rcases zD.1 u with u|u;exact ae b (.inl u);rcases zG.1 u with rfl|u;exact⟨aV,aQ⟩;rcases zG.1 u with rfl|u;exact⟨H2,aR⟩;exact ae b (.inr u);have t1:Step D M M1 (e1.2.page::C.2.page::(G++I)) ([E]++C.2.page::(G++I)):=by
  have:=ab.beside (Z:=C.2.page::(G++I)) (fun x y=>aa x (O x (zN _ y))) (by have p9:(e1.2.page::C.2.page::(G++I)).Perm ((C.2.page::(G++I))++[e1.2.page]):=(perm_append_singleton _ _).symm;exact p9.nodup_iff.1 ag)
  exact this.perm (perm_append_singleton _ _) perm_append_comm
 have aH:∀x∈[E]++(G++I),InUse M1 x:=fun x y=>t1.has x (by rcases zD.1 y with y|y;exact zH _ y;exact zI _ (zN _ y));have p8:([E]++C.2.page::(G++I)).Perm (([E]++(G++I))++[C.2.page]):=(by exact perm_middle.trans<|(perm_append_singleton _ _).symm);have t2:=aC.beside (Z:=[E]++(G++I)) aH (p8.nodup_iff.1 t1.nodup);have t3:=(t1.perm (.refl _) p8).trans t2;have p7:(([E]++(G++I))++[K]).Perm ((E::G)++(K::I)):=(by show (E::((G++I)++[K])).Perm (E::(G++K::I));refine List.Perm.cons _ ((perm_append_singleton _ _).trans ?_);exact perm_middle.symm);have t4:=Step.part (D:=D) (a:=A.flatMap (·.2.pages)) (b:=B.flatMap (·.2.pages)) aa ap (t3.perm pm.symm p7);rw[qaJ,yG];refine t4.perm (.refl _) ?_;rw[zV]
end
end
section
section
variable {D:DiskM} {M M':PgM} {k v:Nat}
theorem qnK(z:M.Wf)(A:M.over=false)(C:InUse M n):∃M',dropV M n=(0,M')/\Step D M M' [n] []/\M.free.length<=M'.free.length:=by
 obtain⟨M',e,t,E,G,I⟩:=qkr (D:=D) (q:=n+1) z A C;have y:∀x,x≠n->pagerReadM D M' x=pagerReadM D M x/\(InUse M' x↔InUse M x):=fun x u=>by by_cases hq':x=n+1;rw[hq'];exact⟨E,G⟩;exact⟨t.rest x hq' u,t.use x hq' u⟩
 refine⟨M',e,⟨t.wf,t.over,t.roots,t.sup,t.lists,t.named,t.Named,t.turn,fun x u h=>?_,fun x u=>?_,fun x u=>(nomatch u),fun x u=>(nomatch u),.nil,t.old⟩,I⟩;have h:x≠n:=(by simpa using h);exact⟨(y x h).1,(y x h).2.2 u,by simp⟩;by_cases h:x=n;subst h;exact absurd u (t.left (by omega));exact .inr ⟨(y x h).2.1 u,by simpa using h⟩
theorem qnS(hc:CapsOk k v){A B:List Ent}{e1 C:Ent}{L1:Prs}{E G:List Int}(H:Nbrs D M k v h A B e1 C Nl Nr n1 n2 L1 L2 E G)(h1:n1+n2<=(if h=0 then (capsV k v).1 else (capsV k v).2):=by omega)(h2:minOf k v h<=n1+n2:=by omega)(hf:1<=M.free.length:=by omega): ∃N M' R,joinM k v M (inOf (A++e1::C::B)) A.length Nl Nr=((N,0),M')/\HasN D M' k v (h+1) N (A.length+B.length+1) (A.flatMap (·.2.prs)++((L1++L2)++B.flatMap (·.2.prs))) R/\ Step D M M' (A.flatMap (·.2.pages)++(((e1.2.page::E)++(C.2.page::G))++B.flatMap (·.2.pages))) R/\M.free.length<=M'.free.length+1:=by
 obtain⟨ay,az,aA,aB⟩:=H.mids;have hJ:=qwO H.left H.right h1 ay az ⟨aA,aB⟩;have aY:=hc.min h;have J:=H.use;have ah:=H.nodup;have pm:(((e1.2.page::E)++(C.2.page::G))).Perm (e1.2.page::C.2.page::(E++G)):=by rw[xH];exact (perm_middle).cons _
 have K:∀x,x∈e1.2.page::C.2.page::(E++G)->x∈A.flatMap (·.2.pages)++(((e1.2.page::E)++(C.2.page::G))++B.flatMap (·.2.pages)):=fun x y=>zI _ (zH _ (pm.mem_iff.2 y));have ag:(e1.2.page::C.2.page::(E++G)).Nodup:=pm.nodup_iff.1 (yL.1 (yL.1 ah).2.1).1;have O:=nodup_cons.1 ag;have am:=nodup_cons.1 O.2;have aC:=J _ (K e1.2.page (by simp));have an:=J _ (K C.2.page (by simp));obtain⟨q,M1,s1,U,H1,a0⟩:=hJ.store H.wf H.over (by omega) aC (fun hm=>O.1 (zN _ hm)) hf;have V:C.2.page≠e1.2.page:=fun e=>O.1 (by rw[e];simp);have I:∀x,InUse M x->x≠e1.2.page->pagerReadM D M1 x=pagerReadM D M x/\InUse M1 x/\x≠q:=fun x y ai=>by
  have:=U.rest x y (by simpa using ai)
  exact⟨this.1,this.2.1,by simpa using this.2.2⟩
 obtain⟨M2,s2,ao,a3⟩:=qnK (D:=D) U.wf U.over (I _ an V).2.1;have aa:∀x,InUse M1 x->x≠C.2.page->pagerReadM D M2 x=pagerReadM D M1 x/\InUse M2 x:=fun x y ai=>by
  have:=ao.rest x y (by simpa using ai)
  exact⟨this.1,this.2.1⟩
 have aD:Has D M2 k v h ⟨q,n1+n2,L1++L2,q::(E++G)⟩:=H1.frame fun x y=>(aa x (H1.used U.over x y) (fun e=>by rcases zG.1 y with e'|y;exact (I _ an V).2.2 (by rw[<- e,e']);exact am.1 (e▸y))).1;have aE:∀b,b∈A\/b∈B->∀x∈b.2.pages,InUse M x/\x≠e1.2.page/\x≠C.2.page:=fun b u x y=>by
  have hd:=yL.1 ah;have aF:=yL.1 hd.2.1;have ap:∀z,z=e1.2.page\/z=C.2.page->z∈(e1.2.page::E)++(C.2.page::G):=fun z hz=>pm.mem_iff.2 (by rcases hz with rfl|rfl<;>simp);have key:∀z,z=e1.2.page\/z=C.2.page->x≠z:=fun z hz e=>by rcases u with u|u;exact hd.2.2 x (yJ.2 ⟨b,u,y⟩) z (zH _ (ap z hz)) e;exact aF.2.2 z (ap z hz) x (yJ.2 ⟨b,u,y⟩) e.symm
  refine⟨J x ?_,key _ (.inl rfl),key _ (.inr rfl)⟩;rcases u with u|u;exact zH _ (yJ.2 ⟨b,u,y⟩);exact zI _ (zI _ (yJ.2 ⟨b,u,y⟩))
 have ab:∀b,b∈A\/b∈B->Has D M2 k v h b.2/\minOf k v h<=b.2.size:=fun b u=>⟨(H.rest b u).1.frame fun x y=>by have h9:=aE b u x y;have h8:=I x h9.1 h9.2.1;exact ((aa x h8.2.1 h9.2.2).1).trans h8.1,(H.rest b u).2⟩;have hS:=H.sep;have hp:=pairwise_append.1 hS.pair;have af:=yI.1 hp.2.1;have ar:=yI.1 af.2;have au:SepE (A++(e1.1,(⟨q,n1+n2,L1++L2,q::(E++G)⟩:Seg))::B):=by refine⟨pairwise_append.2 ⟨hp.1,yI.2 ⟨fun b u=>⟨(af.1 b (by simp[u])).1,fun x y=>?_⟩,ar.2⟩,fun a ha b u=>?_⟩,fun b u x y=>?_⟩;rcases zD.1 y with y|y;exact (af.1 b (by simp[u])).2 x y;exact (ar.1 b u).2 x y;rcases zG.1 u with rfl|u;exact hp.2.2 a ha (e1.1,⟨0,0,L1,[]⟩) (by simp);exact hp.2.2 a ha b (by simp[u]);rcases zD.1 u with u|u;exact hS.low b (by simp[u]) x y;rcases zG.1 u with rfl|u;rcases zD.1 y with y|y;exact hS.low (e1.1,⟨0,0,L1,[]⟩) (by simp) x y;have h9:=hS.low (C.1,⟨0,0,L2,[]⟩) (by simp) x y;exact qc1 (qaY (af.1 (C.1,⟨0,0,L2,[]⟩) (by simp)).1) h9;exact hS.low b (by simp[u]) x y
 have aj:KeysOk k (A++(e1.1,(⟨q,n1+n2,L1++L2,q::(E++G)⟩:Seg))::B):=by
  have h9:KeysOk k (A++e1::B):=fun b u=>H.keys b (by
   cases A with
   | nil=>exact zN _ u
   | cons a A=>
    rcases zD.1 (show b∈A++e1::B from u) with u|u;exact zH (e1::C::B) u;exact zI A ((zG.1 u).elim (fun e=>by rw[e];simp) fun u=>by simp[u]))
  exact qlh h9
 have ak:((A++(e1.1,(⟨q,n1+n2,L1++L2,q::(E++G)⟩:Seg))::B).map (·.1)).head?=some []:=by
  have h9:=H.head;cases A with
  | nil=>exact h9
  | cons a A=>exact h9
 have aQ:=H.len;refine⟨inOf (A++(e1.1,(⟨q,n1+n2,L1++L2,q::(E++G)⟩:Seg))::B),M2,_,?_,⟨_,ak,rfl,by simp;omega,by rw[qaJ],rfl,aj,au,by omega,fun b u=>?_⟩,?_,by omega⟩;have aG:(inOf (A++e1::C::B)).kids.getD A.length 0=e1.2.page:=qe2.1;have aH:(inOf (A++e1::C::B)).kids.getD (A.length+1) 0=C.2.page:=qe2.2;have aI:(inOf (A++e1::C::B)).keys.getD A.length []=C.1:=qjB;unfold joinM;rw[aG,aH,aI,s1];dsimp only;rw[if_neg (fun h=>h rfl),s2];dsimp only;rw[if_neg (fun h=>h rfl)];exact congrArg (fun N=>((N,(0:Int)),M2)) (qwz (s:=⟨q,n1+n2,L1++L2,q::(E++G)⟩));rcases zD.1 u with u|u;exact ab b (.inl u);rcases zG.1 u with rfl|u;exact⟨aD,h2⟩;exact ab b (.inr u);have t1:Step D M M1 (e1.2.page::C.2.page::(E++G)) ([q]++C.2.page::(E++G)):=by
  have:=U.beside (Z:=C.2.page::(E++G)) (fun x y=>J x (K x (zN _ y))) (by have p9:(e1.2.page::C.2.page::(E++G)).Perm ((C.2.page::(E++G))++[e1.2.page]):=(perm_append_singleton _ _).symm;exact p9.nodup_iff.1 ag)
  exact this.perm (perm_append_singleton _ _) perm_append_comm
 have p8:([q]++C.2.page::(E++G)).Perm (([q]++(E++G))++[C.2.page]):=(by exact perm_middle.trans<|(perm_append_singleton _ _).symm);have t2:=ao.beside (Z:=[q]++(E++G)) (fun x y=>t1.has x (by rcases zD.1 y with y|y;exact zH _ y;exact zI _ (zN _ y))) (p8.nodup_iff.1 t1.nodup);have t3:=(t1.perm (.refl _) p8).trans t2;rw[xF] at t3;have t4:=Step.part (D:=D) (a:=A.flatMap (·.2.pages)) (b:=B.flatMap (·.2.pages)) J ah (t3.perm pm.symm (.refl _));rw[qaJ];exact t4
theorem SepE.swap{A B:List Ent}{e:Ent}{s:Seg}(h:SepE (A++e::B))(u:∀x∈s.prs,x∈e.2.prs):SepE (A++(e.1,s)::B):=
 h.put (key:=e.1) qaA (fun b y=>(h.mid.2 b y).1) fun x z=>.inr (u x z)
theorem treeCut(hc:CapsOk k v){key:Key}:∀(h:Nat) (M:PgM) (s:Seg),Has D M k v h s->M.Wf->M.over=false->s.pages.Nodup->key∈keysP s.prs->2*h<=M.free.length-> ∃N n M' R R',cutN D k v key (h+1) M s.page=((N,0),M')/\s.pages=s.page::R/\HasN D M' k v h N n (cutP key s.prs) R'/\Step D M M' R R'/\s.size<=n+1/\M.free.length<=M'.free.length+2*h
 | 0,M,s,hs,hW,ho,aI,ai,hf=>by
  obtain⟨N,R,hl,hN,hp,bN,_⟩:=hs.load;have bO:=hN;obtain⟨rfl,hn,rfl,hL,aJ,a9⟩:=hN;have aj:=qlV aJ ai;have hm:=(qcn aJ).2 ai;have hi:placeV (keysP s.prs) key<s.prs.length:=by
   have:=(zP.1 hm).1
   simpa using this
  have bE:(cutP key s.prs).length+1=s.prs.length:=(by rw[aj,zF,yK,yB];omega);refine⟨lfOf (cutP key s.prs),(cutP key s.prs).length,M,[],[],?_,hp,⟨rfl,rfl,rfl,fun x u=>hL x (qlj.1 u).1,qtM aJ,by omega⟩,Step.refl hW ho (fun x u=>nomatch u) .nil,by omega,by omega⟩;unfold cutN;rw[hl];dsimp only;rw[if_neg (fun h=>h rfl),if_pos (show (lfOf s.prs).leaf=true from rfl),if_pos (show (lfOf s.prs).keys[placeV (lfOf s.prs).keys key]?=some key from hm)];refine congrArg (fun N=>((N,(0:Int)),M)) ?_;rw[aj];unfold lfOf delAt;simp only[xJ,xL,xM]
 | h+1,M,⟨p,n,L,P⟩,⟨es,h0,h1,h2,h3,h4,h5,h6,h7⟩,hW,ho,aI,ai,hf=>by
  dsimp only at h1 h2 h3 h5 aI ai;subst h1 h2 h3;have hl:loadN D M k v p=(inOf es,0):=h4.load h5;have ak:=h4.right.innerTwo;obtain⟨A,e,B,O,hA,bp,bq,aL⟩:=qhH (key:=key) h0 h6;have aM:(inOf es).kids.getD (kidV (inOf es).keys key) 0=e.2.page:=aL;have br:kidV (inOf es).keys key=A.length:=hA.symm;have bs:e∈es:=(by rw[O];simp);obtain⟨bt,bu⟩:=h7 e bs;have af:es.flatMap (·.2.pages)=A.flatMap (·.2.pages)++(e.2.pages++B.flatMap (·.2.pages)):=(by rw[O,qaJ]);have aq:es.flatMap (·.2.prs)=A.flatMap (·.2.prs)++(e.2.prs++B.flatMap (·.2.prs)):=(by rw[O,qaJ]);have av:∀z∈A.flatMap (·.2.pages)++(e.2.pages++B.flatMap (·.2.pages)),InUse M z:=fun z hz=>by rw[<- af] at hz;obtain⟨b,C,hz⟩:=yJ.1 hz;exact (h7 b C).1.used ho z hz
  have ae:(A.flatMap (·.2.pages)++(e.2.pages++B.flatMap (·.2.pages))).Nodup:=(by rw[<- af];exact (nodup_cons.1 aI).2);have al:e.2.pages.Nodup:=(yL.1 (yL.1 ae).2.1).1;have ar:=h6;rw[O] at ar;have aw:=ar.mid;have ba:∀x∈A.flatMap (·.2.prs),KLt x.1 key:=fun x u=>by obtain⟨a,ha,u⟩:=yJ.1 u;exact qbw (aw.1 a ha x u) bp
  have bb:∀x∈B.flatMap (·.2.prs),KLt key x.1:=fun x u=>by obtain⟨b,C,u⟩:=yJ.1 u;exact qbw (bq b C) ((aw.2 b C).2.2 x u)
  have aj:cutP key (es.flatMap (·.2.prs))=A.flatMap (·.2.prs)++(cutP key e.2.prs++B.flatMap (·.2.prs)):=(by rw[aq,qlU ba,qkp bb]);have aN:key∈keysP e.2.prs:=by obtain⟨x,u,rfl⟩:=mem_map.1 ai;rw[aq] at u;rcases zD.1 u with u|u;exact absurd (ba x u) qaA;rcases zD.1 u with u|u;exact zY u;exact absurd (bb x u) qaA
  obtain⟨N1,n1,M1,Re,I,ec,aO,am,st,bT,bU⟩:=treeCut hc h M e.2 bt hW ho al aN (by omega);rw[aO] at av ae al;have U:=KeysOk.of h4;have aG:e.2.page∉Re:=(nodup_cons.1 al).1;have aP:InUse M e.2.page:=av _ (by simp);have bw:Step D M M1 (e.2.page::Re) (e.2.page::I):=st.beside (Z:=[e.2.page]) (fun x u=>by rw[zE.1 u];exact aP) (by simpa using al);have aQ:=Step.part av ae bw;have bc:InUse M1 e.2.page:=(st.rest _ aP aG).2.1;have aR:e.2.page∉I:=(st.rest _ aP aG).2.2;have E:∀b,b∈A\/b∈B->Has D M1 k v h b.2/\minOf k v h<=b.2.size:=fun b C=>by
   have aS:b∈es:=by rw[O];rcases C with C|C<;>simp[C]
   refine⟨(h7 b aS).1.frame fun x u=>?_,(h7 b aS).2⟩;have hd:=yL.1 ae;refine (st.rest x ((h7 b aS).1.used ho x u) fun hm=>?_).1;rcases C with C|C;exact hd.2.2 x (yJ.2 ⟨b,C,u⟩) x (zH _ (zN _ hm)) rfl;exact (yL.1 hd.2.1).2.2 x (zN _ hm) x (yJ.2 ⟨b,C,u⟩) rfl
  have a9:n1<=(if h=0 then (capsV k v).1 else (capsV k v).2):=by
   cases h with
   | zero=>exact am.2.2.2.2.2
   | succ h=>obtain⟨_,_,_,_,_,_,_,_,h9,_⟩:=am;exact h9
  have bV:=hc.min h;have ao:minOf k v h=(if h=0 then (capsV k v).1 else (capsV k v).2) / 2:=(by unfold minOf;split<;>rfl);have ax:SepE (A++(e.1,(⟨0,0,cutP key e.2.prs,[]⟩:Seg))::B):=ar.swap fun x u=>(qlj.1 u).1;have y:es.length=A.length+B.length+1:=(by rw[O];simp;omega);have aB:∀ {N:NodeM} {M2:PgM} {n R':_},HasN D M2 k v (h+1) N n (A.flatMap (·.2.prs)++(cutP key e.2.prs++B.flatMap (·.2.prs))) R'->HasN D M2 k v (h+1) N n (cutP key (es.flatMap (·.2.prs))) R':=fun h9=>by rw[aj];exact h9
  have au:∀ {M2:PgM} {R':List Int},Step D M1 M2 (A.flatMap (·.2.pages)++((e.2.page::I)++B.flatMap (·.2.pages))) R'->Step D M M2 (es.flatMap (·.2.pages)) R':=fun h9=>by rw[af,aO];exact aQ.trans h9
  have aH:lowN N1 k v↔n1<minOf k v h:=(by unfold lowN;rw[am.size,ao]);unfold cutN;rw[hl];dsimp only;rw[if_neg (fun h=>h rfl),if_neg (show ¬(inOf es).leaf=true from fun e=>nomatch e),aM,ec];dsimp only;rw[if_neg (fun h=>h rfl),br];by_cases hlw:lowN N1 k v;rw[if_neg (fun h=>h hlw)];have bW:=aH.1 hlw;have bf:n1+1=minOf k v h:=(by omega);by_cases hA0:A.length>0;rw[if_pos hA0];obtain⟨A',f,rfl⟩:∃A' f,A=A'++[f]:=(by have bg:A≠[]:=length_pos_iff.1 hA0;exact⟨A.dropLast,A.getLast bg,(dropLast_concat_getLast bg).symm⟩);have bx:(A'++[f]).length-1=A'.length:=(by simp);rw[bx];have ay:=E f (.inl (by simp));obtain⟨Ny,Ry,aU,ap,aV,_,_⟩:=ay.1.load;have G:es=A'++f::e::B:=(by rw[O];simp);have bz:(A'++[f]).flatMap (·.2.pages)=A'.flatMap (·.2.pages)++f.2.pages:=(by simp[yP]);have bi:(A'++[f]).flatMap (·.2.prs)=A'.flatMap (·.2.prs)++f.2.prs:=(by simp[yP]);have V:(A'++[f]).flatMap (·.2.pages)++((e.2.page::I)++B.flatMap (·.2.pages))=A'.flatMap (·.2.pages)++(((f.2.page::Ry)++(e.2.page::I))++B.flatMap (·.2.pages)):=(by rw[bz,aV];simp only[zV]);have an:(A'++[f]).flatMap (·.2.prs)++(cutP key e.2.prs++B.flatMap (·.2.prs))=A'.flatMap (·.2.prs)++((f.2.prs++cutP key e.2.prs)++B.flatMap (·.2.prs)):=(by rw[bi];simp only[zV]);have az:SepE (A'++(f.1,(⟨0,0,f.2.prs,[]⟩:Seg))::(e.1,⟨0,0,cutP key e.2.prs,[]⟩)::B):=(by have h9:SepE (A'++f::((e.1,(⟨0,0,cutP key e.2.prs,[]⟩:Seg))::B)):=(by simpa using ax);exact h9.swap (s:=⟨0,0,f.2.prs,[]⟩) fun x u=>u);have aa:=aQ;rw[V] at aa;have Hn:Nbrs D M1 k v h A' B f e Ny N1 f.2.size n1 f.2.prs (cutP key e.2.prs) Ry I:=
   ⟨st.wf,st.over,by rw[<- G];exact h0,by rw[<- G];exact U,az,by have:=ak.2;rw[y] at this;simp at this;omega,fun b C=>E b (C.imp (fun C=>by simp[C]) id),ap,am,aa.has,aa.nodup⟩
  have aX:(inOf es).kids.getD A'.length 0=f.2.page:=(by rw[G];exact qe2.1);have J:spareN Ny k v↔minOf k v h<f.2.size:=(by unfold spareN;rw[ap.size,ao]);unfold evenM;rw[aX,aU];dsimp only;rw[if_neg (fun h=>h rfl),if_pos (show A'.length<(A'++[f]).length by simp),G];by_cases hsq:spareN Ny k v;rw[if_neg (fun h=>h hsq)];obtain⟨aY,aZ,a0,a1⟩:=Hn.mids;have a2:(inOf (A'++f::e::B)).keys.getD A'.length []=e.1:=qjB;rw[a2];obtain⟨N,M2,R,e2,ab,K,aD⟩:=qrK hc Hn (qwF hc ap am (J.1 hsq) bf aY aZ ⟨a0,a1⟩);rw[<- an] at ab;rw[<- V] at K;rw[<- G];exact⟨N,_,M2,_,R,by rw[G];exact e2,rfl,aB ab,au K,by rw[y];simp;omega,by omega⟩;rw[if_pos hsq];have bA:f.2.size<=minOf k v h:=Nat.le_of_not_lt fun h9=>hsq (J.2 h9);have a3:=ay.2;obtain⟨N,M2,R,e2,ab,K,aD⟩:=qnS hc Hn;rw[<- an] at ab;rw[<- V] at K;rw[<- G];exact⟨N,_,M2,_,R,by rw[G];exact e2,rfl,aB ab,au K,by rw[y];simp;omega,by omega⟩;rw[if_neg hA0];obtain rfl:A=[]:=eq_nil_of_length_eq_zero (by omega);obtain⟨f,B',rfl⟩:∃f B',B=f::B':=by
   cases B with
   | nil=>rw[y] at ak;simp at ak
   | cons f B'=>exact⟨f,B',rfl⟩
  have ay:=E f (.inr (by simp));obtain⟨Ny,Ry,aU,ap,aV,_,_⟩:=ay.1.load;have G:es=[]++e::f::B':=O;have V:([]:List Ent).flatMap (·.2.pages)++((e.2.page::I)++(f::B').flatMap (·.2.pages))=([]:List Ent).flatMap (·.2.pages)++(((e.2.page::I)++(f.2.page::Ry))++B'.flatMap (·.2.pages)):=by rw[yG,aV];simp only[zV]
  have an:([]:List Ent).flatMap (·.2.prs)++(cutP key e.2.prs++(f::B').flatMap (·.2.prs))=([]:List Ent).flatMap (·.2.prs)++((cutP key e.2.prs++f.2.prs)++B'.flatMap (·.2.prs)):=(by rw[yG];simp only[zV]);have az:SepE ([]++(e.1,(⟨0,0,cutP key e.2.prs,[]⟩:Seg))::(f.1,⟨0,0,f.2.prs,[]⟩)::B'):=(by have h9:SepE ([(e.1,(⟨0,0,cutP key e.2.prs,[]⟩:Seg))]++f::B'):=ax;exact h9.swap (s:=⟨0,0,f.2.prs,[]⟩) fun x u=>u);have aa:=aQ;rw[V] at aa;have Hn:Nbrs D M1 k v h [] B' e f N1 Ny n1 f.2.size (cutP key e.2.prs) f.2.prs I Ry:=
   ⟨st.wf,st.over,by rw[<- G];exact h0,by rw[<- G];exact U,az,by have:=ak.2;rw[y] at this;simp at this⊢;omega,fun b C=>E b (C.imp id fun C=>by simp[C]),am,ap,aa.has,aa.nodup⟩
  have aX:(inOf es).kids.getD (([]:List Ent).length+1) 0=f.2.page:=(by rw[G];exact qe2.2);have J:spareN Ny k v↔minOf k v h<f.2.size:=(by unfold spareN;rw[ap.size,ao]);unfold evenM;rw[aX,aU];dsimp only;rw[if_neg (fun h=>h rfl),if_neg (show ¬([]:List Ent).length+1<([]:List Ent).length by simp),G];by_cases hsq:spareN Ny k v;rw[if_neg (fun h=>h hsq)];obtain⟨aY,aZ,a0,a1⟩:=Hn.mids;have a2:(inOf ([]++e::f::B')).keys.getD ([]:List Ent).length []=f.1:=qjB (A:=[]) (B:=B') (e1:=e);rw[a2];obtain⟨N,M2,R,e2,ab,K,aD⟩:=qrK hc Hn (qxd hc am ap bf (J.1 hsq) aY aZ ⟨a0,a1⟩);rw[<- an] at ab;rw[<- V] at K;rw[<- G];exact⟨N,_,M2,_,R,by rw[G];exact e2,rfl,aB ab,au K,by rw[y];simp,by omega⟩;rw[if_pos hsq];have bA:f.2.size<=minOf k v h:=Nat.le_of_not_lt fun h9=>hsq (J.2 h9);have a3:=ay.2;obtain⟨N,M2,R,e2,ab,K,aD⟩:=qnS hc Hn;rw[<- an] at ab;rw[<- V] at K;rw[<- G];exact⟨N,_,M2,_,R,by rw[G];exact e2,rfl,aB ab,au K,by rw[y];simp,by omega⟩;rw[if_pos hlw];have a3:minOf k v h<=n1:=Nat.le_of_not_lt fun h9=>hlw (aH.2 h9);obtain⟨q,M2,e2,K,H2,aD⟩:=am.store st.wf st.over (by omega) bc aR (by omega);rw[e2];have bB:Step D M M2 (e.2.page::Re) (q::I):=Step.kid (Q:=[q]) (fun z hz=>av z (zI _ (zH _ hz))) al st K;have bC:=Step.part av ae bB;have a4:SepE (A++(e.1,(⟨q,n1,cutP key e.2.prs,q::I⟩:Seg))::B):=ar.swap fun x u=>(qlj.1 u).1;have a5:((A++(e.1,(⟨q,n1,cutP key e.2.prs,q::I⟩:Seg))::B).map (·.1)).head?=some []:=(by rw[O] at h0;rw[xJ,xK] at h0⊢;exact h0);refine⟨inOf (A++(e.1,(⟨q,n1,cutP key e.2.prs,q::I⟩:Seg))::B),es.length,M2,_,A.flatMap (·.2.pages)++((q::I)++B.flatMap (·.2.pages)),?_,rfl,⟨_,a5,rfl,by rw[O];simp,by rw[qaJ,aj],by rw[qaJ],qlh (by rw[<- O];exact U),a4,ak.2,fun b C=>?_⟩,by rw[af,aO];exact bC,by show es.length<=es.length+1;omega,by omega⟩;rw[O];exact congrArg (fun N=>((N,(0:Int)),M2)) (qw9 (s:=⟨q,n1,cutP key e.2.prs,q::I⟩));have bj:∀b,b∈A\/b∈B->Has D M2 k v h b.2/\minOf k v h<=b.2.size:=fun b C=>by have h9:=E b C;refine⟨h9.1.frame fun x u=>(K.rest x (h9.1.used st.over x u) fun hm=>?_).1,h9.2⟩;have hd:=yL.1 ae;have bk:=zE.1 hm;rcases C with C|C;exact hd.2.2 x (yJ.2 ⟨b,C,u⟩) x (by rw[bk];simp) rfl;exact (yL.1 hd.2.1).2.2 x (by rw[bk];simp) x (yJ.2 ⟨b,C,u⟩) rfl
  rcases zD.1 C with C|C;exact bj b (.inl C);rcases zG.1 C with rfl|C;exact⟨H2,a3⟩;exact bj b (.inr C)
end
end
end
section
open Go Go.Pt List
open Go.IntKind (wrap)
open Classical
variable {M:PgM} {e:Int×Int×List Int} {f:List (Int×Int×List Int)} {named pages:List Int}
theorem qx7(u:M.Named)(x:Int):x∈M.all↔x∈M.named\/x∈M.deferred\/x∈M.lists:=by rw[u.mem x];simp only[PgM.all,zD];constructor;rintro (h|h|h|h);exact .inl (.inl h);exact .inr (.inl h);exact .inr (.inr h);exact .inl (.inr h);rintro ((h|h)|h|h);exact .inl h;exact .inr (.inr (.inr h));exact .inr (.inl h);exact .inr (.inr (.inl h))
theorem qdR(u:planM M=some (pages,named))(x:Int):x∈pages\/x∈named↔x∈M.free\/x∈M.deferred\/x∈M.lists:=by
 obtain⟨k,z,y,rfl,rfl⟩:=qcv u;rw[qaS];have e:x∈M.free↔x∈M.free.take k\/x∈M.free.drop k:=by
  conv=>lhs;rw[<- xC k M.free]
  exact zD
 simp only[zD,e];constructor;rintro (h|(h|h)|h);exact .inl (.inl h);exact .inr (.inl h);exact .inr (.inr h);exact .inl (.inr h);rintro ((h|h)|h|h);exact .inl h;exact .inr (.inr h);exact .inr (.inl (.inl h));exact .inr (.inl (.inr h))
section
variable {D D':DiskM} {M:PgM} {pages named:List Int} {t:Int} {ov:Bool}
theorem qkw(h:M.Wf)(y:∀e∈M.fresh,view D' e.1=sealV e.1 e.2.1 e.2.2)(u:e∈M.fresh):openV e.1 (view D' e.1)=(e.2.1,e.2.2,0):=by have z:=h.keys e.1 (zY u);have A:=h.n4;rw[y e u];exact qgA ⟨by omega,by omega⟩ (h.body e u).2.1
theorem qc7{x:Int}(y:M.over=false)(z:D.down=false)(u:2<=x/\x<D.size)(A:M.sup.2.getD 0 0=D.size)(h:x∉M.all):pagerReadM D M x=openV x (view D x):=by have C:look x M.fresh=none:=qbl.2 fun E=>h (zI _ (zI _ (zI _ E)));have G:usedV M x=true:=qbr.2 ⟨⟨u.1,by rw[A];exact u.2⟩,h⟩;have I:=qeW z (n:=x) ⟨by omega,u.2⟩;unfold pagerReadM;rw[if_neg (by rw[y];decide),C];dsimp only;rw[if_neg (by rw[G];decide),I,if_neg (by simp)]
theorem qmC(h:M.over=false)(u:M.Wf)(y:e∈M.fresh):pagerReadM D M e.1=(e.2.1,e.2.2,0):=by obtain⟨i,z⟩:=qcG u.keysNodup y;unfold pagerReadM;rw[if_neg (by rw[h];decide),z]
end
theorem qre{v v':Int->List Int}{s t:Sup}(h:newestV (v 0) (v 1)=(s,0))(E:t.1=s.1+1)(C:0<=s.1)(y:readSV (t.1%2) (v' (t.1%2))=(t,0))(z:v' (s.1%2)=v (s.1%2)):newestV (v' 0) (v' 1)=(t,0):=by rcases qdw h with ⟨A,u,_⟩|⟨A,u,_⟩;have u:s.1%2=0:=(by rw[<- Int.tmod_eq_emod_of_nonneg C];exact u);have e:t.1%2=1:=(by omega);rw[e] at y;rw[u] at z;rw[newestV,z,A,y,if_neg (by simp),if_pos (.inr ⟨rfl,by dsimp only;omega⟩)];have u:s.1%2=1:=(by rw[<- Int.tmod_eq_emod_of_nonneg C];exact u);have e:t.1%2=0:=(by omega);rw[e] at y;rw[u] at z;rw[newestV,z,A,y,if_neg (by simp),if_neg (by dsimp only;omega)]
theorem qpU(M:PgM)(pages named:List Int):(nextS M pages named).2.getD 0 0=M.sup.2.getD 0 0/\(nextS M pages named).2.getD 1 0=pages.headD 0/\(nextS M pages named).2.getD 2 0=wrap .u32 named.length:=⟨rfl,rfl,rfl⟩
theorem quq{n:Int}(h:ListOk n named pages)(y:n<=4096):wrap .u32 (named.length:Int)=named.length:=by
 have:=qct (qbd h.rises) h.nums
 refine qa5 _ ?_;rcases this with u|u;omega;rw[u];exact⟨by decide,by decide⟩
theorem Opens.next{D D':DiskM}(h:Opens D M.sup M.lists M.named)(C:M.Wf)(u:planM M=some (pages,named))(G:SupOk (nextS M pages named))(I:(nextS M pages named).1=M.sup.1+1)(J:0<=M.sup.1)(K:D'.down=false)(y:D'.size=D.size)(O:Listed D' named pages)(R:view D' ((nextS M pages named).1%2)=sealV ((nextS M pages named).1%2) 1 (superB (nextS M pages named).1 (nextS M pages named).2))(U:view D' (M.sup.1%2)=view D (M.sup.1%2)):Opens D' (nextS M pages named) pages named:=by
 have E:=qa7 C u;have z:=qpU M pages named;have A:newestV (view D' 0) (view D' 1)=(nextS M pages named,0):=qre (v:=view D) (v':=view D') h.newest I J (by rw[R];exact G.read) U;exact {
  down:=K
  size:=by rw[y];exact h.size
  newest:=A
  blocks:=by rw[z.1,y];exact h.blocks
  list:=z.2.1
  free:=by rw[z.2.2];exact quq E C.n4
  ok:=by rw[y,<- h.blocks];exact E
  listed:=O }
theorem qti{D:DiskM}{p n:List Int}{s:Sup}:(flushM D f p n s).1.safe.length=D.safe.length:=
 qel qd0 fun D' h=>qel (by rw[qgD,h]) fun D' h=>by rw[quR,h]
theorem qhL{v v':Int->List Int}{s:Sup}(h:newestV (v 0) (v 1)=(s,0))(G:0<=s.1)(z:v' (s.1%2)=v (s.1%2))(A:(readSV ((s.1+1)%2) (v' ((s.1+1)%2))).2=0->(readSV ((s.1+1)%2) (v' ((s.1+1)%2))).1.1<s.1):newestV (v' 0) (v' 1)=(s,0):=by
 rcases qdw h with ⟨C,u,_⟩|⟨C,u,_⟩;have u:s.1%2=0:=(by rw[<- Int.tmod_eq_emod_of_nonneg G];exact u);have e:(s.1+1)%2=1:=(by omega);rw[e] at A;rw[u] at z;rw[newestV,z,C,if_neg (by simp),if_neg (by
  rintro (y|⟨y,E⟩);exact y rfl
  have:=A y
  have I:(readSV 1 (v' 1)).1.1>s.1:=E;omega)]
 have u:s.1%2=1:=(by rw[<- Int.tmod_eq_emod_of_nonneg G];exact u);have e:(s.1+1)%2=0:=(by omega);rw[e] at A;rw[u] at z;rw[newestV,z,C,if_neg (by simp),if_pos (by by_cases y:(readSV 0 (v' 0)).2=0;exact .inr ⟨rfl,by have:=A y;dsimp only;omega⟩;exact .inl y)]
theorem qjk{p:Int}{l:List Int}(h:(readSV p l).2=0):Int.tmod (readSV p l).1.1 2=p:=by unfold readSV at h⊢;split;rename_i u;rw[if_pos u] at h;exact absurd h u;rename_i u;rw[if_neg u] at h;split;rename_i y;rw[if_pos y] at h;cases h;rename_i y;rw[if_neg y] at h;split;rename_i z;rw[if_pos z] at h;cases h;rename_i z;exact Classical.not_not.1 z
theorem Opens.same{D D':DiskM}(h:Opens D M.sup M.lists M.named)(J:M.Wf)(z:planM M=some (pages,named))(K:D'.down=false)(A:D'.size=D.size)(O:newestV (view D' 0) (view D' 1)=(M.sup,0))(R:∀m,2<=m->m∉M.fresh.map (·.1)->m∉pages->view D' m=view D m):Opens D' M.sup M.lists M.named where
 down:=K
 size:=by rw[A];exact h.size
 newest:=O
 blocks:=by rw[A];exact h.blocks
 list:=h.list
 free:=h.free
 ok:=by rw[A];exact h.ok
 listed:=fun i p I=>by have G:=yE I;have U:=h.ok.pgs p G;have C:=J.nodup;rw[yL] at C;have u:=C.2.1;rw[yL] at u;have y:=u.2.1;rw[yL] at y;obtain⟨k,hk,V,rfl,rfl⟩:=qcv z;rw[R p U.1 (fun E=>y.2.2 p G p E rfl) (fun E=>C.2.2 p (yU E) p (zI _ (zH _ G)) rfl)];exact h.listed i p I
end
end Go.Proofs.YtmmkegapckbomaaGreatDoor
