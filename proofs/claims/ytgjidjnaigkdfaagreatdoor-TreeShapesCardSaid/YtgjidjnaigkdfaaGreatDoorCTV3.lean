/- Conditions: those that stand in each line. -/
import Derived.Test.YtgjidjnaigkdfaaGreatDoorCTV2
import Derived.Sort.LotB
import Derived.Sort.LotD3
import Derived.Test.YtgjidjnaigkdfaaGreatDoorCTV1
import Derived.Shelf.Bytes.SlCountOne
import Derived.Laws.CopyRow
import Derived.Laws.IdiomCopy
import Derived.Test.YtgjidjnaigkdfaaGreatDoorTie
import Derived.LaidMore
import Derived.MakeChecks
import Derived.OpenShut
import Derived.ProofKit
import Derived.Lib.Bytealg
import Derived.Lib.BytesEntry
set_option linter.unusedVariables false
set_option linter.unusedSimpArgs false
namespace Go.Proofs.YtgjidjnaigkdfaaGreatDoor
open Go.Proofs.Tryz (prog)
section
open Go Go.Pt Go.Sort List
attribute [local irreducible] ld ldA ldV fld fldA newZ st new idx idxS idxA slc slcS slcP mkS chk nn call callV inv run runQ runU join loop held ext rng undefer s2a nxt ent IntKind.wrap
variable {F S:List Nat} {K:Sl->WP} {d:Array Int} {l:List Int} {s:Sl} {w:World}
section
variable {blk:Nat} {T:ArrT} {len cap:Nat}
theorem qxw:∀(n:Nat) {w0 w:World} {d:Array Int} {a b:Nat} {limit:Int} {K:Unit->WP},b-a<=n->Arr blk T w0 w d->a<=b->b<=len->(len<=d.size/\len<=1152921504606846976)->Sort.Below ltInt a b d-> (∀d' w',PermIn a b d d'->SortedIn ltInt a b d'->Arr blk T w0 w' d'->K () w')-> cW 125 [.slice (pW blk) len cap,.i a,.i b,.i limit] [] w K:=by
 intro n;induction n using Nat.strongRecOn with
 | _ n ih=>
 intro w0 w d a0 b0 limit0 K hn h hab hb hl hB hk;refine qcm (data:=⟨pW blk,len,cap⟩) ?_;unfold qbz;dsimp only;refine qag (fun x w'=>∃(a b:Nat) (l:Int) (wb wp:Bool) (d':Array Int),x=((a:Int),(b:Int),l,wb,wp)/\b-a<=n/\a<=b/\b<=len/\d'.size=d.size/\Sort.Below ltInt a b d'/\Arr blk T w0 w' d'/\
   ∀R,PermIn a b d' R->SortedIn ltInt a b R->PermIn a0 b0 d R/\SortedIn ltInt a0 b0 R) (fun x _=>(x.2.1-x.1).toNat)
  ⟨a0,b0,limit0,true,true,d,rfl,hn,hab,hb,rfl,hB,h,fun R h1 h2=>⟨h1,h2⟩⟩ ?_
 rintro x w1 ⟨a,b,l,wb,wp,d1,rfl,hn1,hab,hb,hs1,hB,h,hR⟩ X hX;dsimp only;have e0:IntKind.i64.wrap ((b:Int)-a)=((b-a:Nat):Int):=(by rw[wi _];omega);rw[e0];apply qaa<;>intro hc;refine qxv h hab hb oJ fun w2 h=>?_;obtain⟨h1,h2⟩:=insertionSort_holds swo d1 a b hab oJ;obtain⟨h3,h4⟩:=hR _ h1 h2;exact hk _ _ h3 h4 h;have h12:12<b-a:=(by have:=zB hc;omega);apply qaa<;>intro hc;refine qww h hab hb oJ fun w2 h=>?_;obtain⟨h1,h2⟩:=heapSort_holds swo d1 a b hab oJ;obtain⟨h3,h4⟩:=hR _ h1 h2;exact hk _ _ h3 h4 h;refine qaf (fun _ w'=>∃d2,PermIn a b d1 d2/\Arr blk T w0 w' d2) ?_ ?_;apply qaa<;>intro hc;exact qu4 h hab hb oJ fun d2 w2 hp h=>⟨d2,hp,h⟩;exact⟨d1,permIn_refl _ _ _,h⟩;rintro lim w2 ⟨d2,hp2,h⟩;have hs2:=hp2.1;refine qvj h oJ hb oJ fun p hint w3 hpp h=>?_;dsimp only;refine qaf (fun x w'=>∃(p:Nat) (hint:Int) (d3:Array Int),x=((p:Int),hint)/\a<=p/\p<b/\PermIn a b d1 d3/\Arr blk T w0 w' d3) ?_ ?_;apply qaa<;>intro hc;refine qxy h oJ hb oJ fun w4 h=>⟨(b-1)-(p-a),1,_,qbm ?_ rfl,oJ,oJ,permIn_trans _ _ _ _ _ hp2 (reverseRange_holds _ _ _ hab oJ),h⟩;rw[wi ((b:Int)-1),wi ((p:Int)-a),wi _];omega;exact⟨p,hint,d2,rfl,hpp.1,hpp.2,hp2,h⟩;rintro x w4 ⟨p,hint,d3,rfl,hp1,hp2,hp3,h⟩;have hs3:=hp3.1;dsimp only;refine qaf (fun _ w'=>∃d4,PermIn a b d1 d4/\Arr blk T w0 w' d4) ?_ ?_;refine qaf (fun _ w'=>Arr blk T w0 w' d3) ?_ ?_;apply qaa<;>intro hc;apply qaa<;>intro hc;exact h;exact h;exact h;rintro c w5 h;apply qaa<;>intro hc;refine qvo h oJ hb oJ fun w6 h=>?_;obtain⟨h1,h2⟩:=partialInsertionSort_holds swo d3 a b oJ oJ (hB.perm oJ hp3);apply qaa<;>intro hc;obtain⟨h3,h4⟩:=hR _ (permIn_trans _ _ _ _ _ hp3 h1) (h2 hc);exact hk _ _ h3 h4 h;exact⟨_,permIn_trans _ _ _ _ _ hp3 h1,h⟩;exact⟨d3,hp3,h⟩;rintro _ w5 ⟨d4,hp4,h⟩;have hs4:=hp4.1;have hB4:=hB.perm oJ hp4;refine qaf (fun c w'=>c=(decide (0<a)&&!ltInt d4[a-1]! d4[p]!)/\Arr blk T w0 w' d4) ?_ ?_;apply qaa<;>intro hc;have ha:0<a:=(by have:=zC hc;omega);exact h.drew.rd (a-1) (by rw[wi _];omega) oJ oJ<|h.drew.rd p rfl oJ oJ<|qa6<|⟨by simp[ha],h.drew⟩;have ha:¬0<a:=(by have:=zB hc;omega);exact⟨by simp[ha],h.drew⟩;rintro c w6 ⟨rfl,h⟩;apply qaa<;>intro hc;simp only[yA,decide_eq_true_eq,zT] at hc;have hr:=round_eq swo (partitionEqual_holds ltInt) hc.1 hp1 hp2 oJ hB4 hc.2 (mid:=(Sort.partitionEqual ltInt d4 a b p).1) (d4:=(Sort.partitionEqual ltInt d4 a b p).2) rfl;refine qtE h hp1 hp2 hb oJ fun w7 h=>?_;obtain⟨h1,h2,h3,h4,h5⟩:=hr;refine hX _ _ ⟨_,b,lim,wb,wp,_,rfl,oJ,h2,hb,oJ,h4,h,fun R r1 r2=>?_⟩ oN;obtain⟨q1,q2⟩:=h5 R r1 r2;exact hR R (permIn_trans _ _ _ _ _ hp4 q1) q2;have hr:=round_part swo (partition_holds ltInt) hp1 hp2 oJ hB4 (mid:=(Sort.partition ltInt d4 a b p).1) (ap:=(Sort.partition ltInt d4 a b p).2.1) (d4:=(Sort.partition ltInt d4 a b p).2.2) rfl;refine qwz h hp1 hp2 hb oJ fun w7 h=>?_;obtain⟨h1,h2,h3,h4,h5,h6,h7⟩:=hr;dsimp only;generalize (Sort.partition ltInt d4 a b p).1=mid at *
 generalize (Sort.partition ltInt d4 a b p).2.2=d5 at *
 rw[wi ((mid:Int)-a),wi ((b:Int)-mid),wi ((mid:Int)+1),show (mid:Int)+1=((mid+1:Nat):Int) by omega];apply qaa<;>intro hc;have hlt:mid-a<b-mid:=(by have:=zC hc;omega);refine ih (mid-a) oJ (zM _) h h1 oJ oJ h4 fun d6 w8 r1 r2 h=>?_;obtain⟨q1,q2⟩:=h6 d6 r1 r2;refine hX _ _ ⟨mid+1,b,lim,_,_,d6,rfl,oJ,oJ,hb,by have:=r1.1;omega,q1,h,fun R s1 s2=>?_⟩ oN;obtain⟨t1,t2⟩:=q2 R s1 s2;exact hR R (permIn_trans _ _ _ _ _ hp4 t1) t2;refine ih (b-(mid+1)) oJ (zM _) h oJ hb oJ h5 fun d6 w8 r1 r2 h=>?_;obtain⟨q1,q2⟩:=h7 d6 r1 r2;refine hX _ _ ⟨a,mid,lim,_,_,d6,rfl,oJ,oJ,oJ,by have:=r1.1;omega,q1,h,fun R s1 s2=>?_⟩ oN;obtain⟨t1,t2⟩:=q2 R s1 s2;exact hR R (permIn_trans _ _ _ _ _ hp4 t1) t2
theorem qrI{w0:World}{K:Unit->WP}(h:Arr blk T w0 w d)(y:len<=d.size/\len<=1152921504606846976)(z:∀u w',PermIn 0 len d u->SortedIn ltInt 0 len u->Arr blk T w0 w' u->K () w'): cW 81 [.slice (pW blk) len cap] [] w K:=by refine qhu (x:=⟨pW blk,len,cap⟩) ?_;unfold qfA;dsimp only;rw[IntWalk.u64_in (len:Int) oJ];exact qpg oJ<|qxw len (a:=0) oJ h oJ (zM _) y (.inl rfl) z
theorem qpn{K:Unit->WP}(h:K () w):cW 81 [.slice none 0 0] [] w K:=by refine qhu (x:=⟨none,0,0⟩) ?_;unfold qfA;dsimp only;rw[IntWalk.u64_in ((0:Nat):Int) oJ];refine qpg (n:=0) oJ<|qcm (data:=⟨none,0,0⟩) ?_;unfold qbz;refine qc0 fun X u=>cond_true (by decide +kernel)<|qbt (data:=⟨none,0,0⟩) ?_;unfold qa4;exact qc0 fun X u=>cond_false (by decide +kernel) h
end
theorem qu5{rb n cap:Nat}{T:TypeId}(C:w.heap[rb]?=some (.cells (u32s d) T (0,0)))(ac:n<=d.size)(hn:n<=1000000)(hk:∀b I h T' w',w'.heap[b]?=some (.cells (u32s I) T' (0,0))->n<=I.size->n<=h/\h<=I.size->I.toList.take n=d.toList.take n->w.heap.size<=b->Fr [] w w'->K ⟨pW b,n,h⟩ w'): cW 48 [.slice (pW rb) n cap] [.one .slice] w K:=by
 obtain⟨J,hi,hz,O,Q⟩:=qdu;refine qdA (s:=⟨pW rb,n,cap⟩) ?_;unfold qcH;refine cond_false rfl ?_;have y:=oE [] w;refine Own.new y fun tb R et af y=>?_;have U:R.heap[rb]?=some (.cells (u32s d) T (0,0)):=(by rw[y.fr.block rb (qac C) oL];exact C);have A:∀(j:Nat) u,((d.toList.take n).map (Value.int .u32))[j]?=some u->R.cell? ((⟨rb,0,none⟩:Addr).add j)=some u:=fun j u z=>by rw[Addr.add_mk,qai U,xO];rw[zQ,xA] at z;by_cases hjn:j<n;rw[if_pos hjn] at z;unfold u32s;rw[Array.getElem?_map];simpa using z;rw[if_neg hjn] at z;cases z
 have E:((d.toList.take n).map (Value.int .u32)).length=n:=oO;dsimp only;by_cases h0:n=0;subst h0;refine qrM (P:=prog) (e:=32) oK hi [] (y.at (i:=0) rfl) oL (fun j u z=>by simp at z) oL oJ oL ?_;have G:=y.upd (o':=.cells (splice #[] (0+0*J.size) []) 32 (0,0)) 0 rfl
 have:=G.at (i:=0) rfl
 have e:u32s #[] = #[]:=(by simp[u32s]);exact hk tb #[] 0 32 _ (by rw[e];exact this) oL ⟨zM _,zM _⟩ oL oJ G.fr;refine qpr (P:=prog) (e:=32) oK hi hz [] ((d.toList.take n).map (Value.int .u32)) oL (fun j u z=>by simp at z) (by rw[E,O];omega) A oJ (by rw[Q];omega) oJ fun q ag ah=>?_;rw[qm7 _ _ rfl];have V:([]:List Value).toArray++((d.toList.take n).map (Value.int .u32)).toArray++Array.replicate (q-(0+n)) (.u 0)=u32s ((d.toList.take n++List.replicate (q-(0+n)) (0:Int)).toArray):=(by rw[qjV];apply Array.ext';simp);rw[V];have y:=y.drew.alloc (.cells (u32s ((d.toList.take n++List.replicate (q-(0+n)) (0:Int)).toArray)) 32 (0,0));have hl:(d.toList.take n).length=n:=oO;rw[xO];refine hk _ _ q _ _ (by have:=y.at (i:=0) rfl;rw[xO] at this;exact this) oO ⟨oJ,by simp;omega⟩ ?_ (by show w.heap.size<=R.heap.size;omega) (by rw[xO] at y;exact y.fr);show ((d.toList.take n++List.replicate (q-n) (0:Int))).take n=_;rw[take_append_of_le_length oJ,take_take,Nat.min_self]
theorem qct:∀ {u y:List Int},u.Perm y->u.Pairwise (·<=·)->y.Pairwise (·<=·)->u=y
 | [],y,h,_,_=>h.nil_eq
 | a::u,[],h,_,_=>absurd h.symm.nil_eq oL
 | a::u,b::y,h,G,I=>by
  have z:=yI.1 G;have A:=yI.1 I;have C:a=b:=by
   have J:a∈b::y:=h.mem_iff.1 oL;have K:b∈a::u:=h.mem_iff.2 oL;rcases zG.1 J with e|e;exact e;rcases zG.1 K with E|E;exact E.symm
   have:=A.1 a e
   have:=z.1 b E
   omega
  subst C;rw[qct h.cons_inv z.2 A.2]
def Told (w w':World) (s:Sl) (l:List Int):Prop:=
 (l=[]/\s=⟨none,0,0⟩)\/∃b d T cap,s=⟨pW b,l.length,cap⟩/\w'.heap[b]?=some (.cells (u32s d) T (0,0))/\l.length<=d.size/\l.length<=cap/\d.toList.take l.length=l/\w.heap.size<=b/\cap<=d.size
theorem qnb{pb:Nat}(h:PoolAt w pb F l)(hl:l.length<=1000000)(V:∀s w',Told w w' s l->Fr [] w w'->K s w'):cW 47 [.pointer (pW pb)] [.one .slice] w K:=by
 refine qkl ?_;unfold qgn;have u:=h.sorted;obtain⟨mb,R,d,f,rfl,hr,hm,hp,hh,hf,h1⟩:=h.ex;rcases hr with ⟨h0,hd,hR,C⟩|⟨rb,T,hR,C,E,al,G⟩;have I:l=[]:=eq_nil_of_length_eq_zero h0;subst I;refine qae<|qah C ⟨none,0,0⟩ rfl<|qdA ?_;unfold qcH;exact cond_true rfl<|qpn<|V _ _ (.inl ⟨rfl,rfl⟩) (.refl _ _);refine qae<|qah C ⟨pW rb,l.length,d.size⟩ rfl ?_;dsimp only;refine qu5 E G hl fun b d' y T' w' c1 c2 J c3 c4 c5=>?_;dsimp only;refine qrI (.start c1) ⟨c2,oJ⟩ fun O w2 s1 s2 s3=>?_;have ar:=s1.1;refine V _ _ (.inr ⟨b,O,T',y,rfl,s3.blk,oJ,J.1,?_,c4,oJ⟩) (c5.trans' s3.fr fun i z=>by simp at z;subst z;exact .inr c4);refine qct ((qcD s1).trans (by rw[c3];exact hp)) ?_ (u.imp Int.le_of_lt);rw[pairwise_iff_getElem];intro i j z hj Q;have U:i<l.length:=(by simp at z;omega);have A:j<l.length:=(by simp at hj;omega);have g1:=qcJ (d:=O) rfl U;have g2:=qcJ (d:=O) rfl A;rw[zA z] at g1;rw[zA hj] at g2;rw[yN g1,yN g2]
 have:=s2 i j oJ Q A
 simp[ltInt] at this;exact this
abbrev encU:Int->List Value:=fun n=>[Value.int .u32 n]
abbrev Rd (S:List Nat) (w:World) (s:Sl) (l:List Int):Prop:=Rds encU 1 S w s l
abbrev BufU (w:World) (s:Sl) (l:List Int) (B:List Nat):Prop:=Buf encU 1 w s l B
theorem qaE:∀x,(encU x).length=1:=fun _=>rfl
theorem Rd.at(h:Rd S w s l)(n:Nat){i x:Int}{K:Int->Prop}(hi:i=n)(z:l[n]?=some x)(k:K x):idx s i 1 fun a=>ld .u a w K:=
 Rds.get (y:=x) h n hi z rfl k
theorem pushU{B:List Nat}{x:Int}{T:TypeId}(h:BufU w s l B)(J:l.length<=1000000)(C:∀A B' w',BufU w' A (l++[x]) B'->Fr B w w'->(∀b∈B',b∈B\/w.heap.size<=b)->K A w'): Pt.new (.cells #[.u x] T) w fun r E=>Pt.run [Ty1.one Cell.slice] ((Builtin.append_ #[31,31] 31 #[s.v,.slice (pW r) 1 1]).run prog E) K:=by obtain⟨i,G,I,y,z⟩:=qdu;exact Buf.push (e:=32) h qaE (by simp[Value.oneCell']) oK G I y rfl rfl (by rw[z];omega) oJ C
theorem qwC{n:Int}{K:Bool->WP}(h:Rd S w s l)(V:l.length<=1000000)(G:K (decide (n∈l)) w): cW 43 [s.v,.u n] [.one .bool] w K:=by
 refine qhS ?_;unfold qej;have Q:=h.1;refine qag (fun x w'=>w'=w/\∃i:Nat,x=i/\i<=l.length/\∀j y,j<i->l[j]?=some y->y≠n) (fun x _=>((l.length:Int)-x).toNat) ⟨rfl,0,rfl,oJ,fun j y I=>oJ⟩ ?_;rintro x w' ⟨rfl,i,rfl,hi,E⟩ X R;apply qaa<;>intro J;have z:i<l.length:=(by have:=zC J;omega);refine Rd.at h i rfl (zA z) ?_;apply qaa<;>intro C;have A:l[i]=n:=yO.1 C;rw[show decide (n∈l)=true by rw[yM];rw[<- A];exact zW z] at G;exact G;have A:l[i]≠n:=fun e=>by rw[e] at C;simp at C
 rw[wi _];refine R _ _ ⟨rfl,i+1,oJ,oJ,fun j y I O=>?_⟩ oJ;by_cases hji:j=i;subst hji;rw[zA z] at O;rw[<- yN O];exact A;exact E j y oJ O;have z:i=l.length:=(by have:=zB J;omega);rw[show decide (n∈l)=false by rw[decide_eq_false_iff_not];intro U;obtain⟨j,I,C⟩:=getElem_of_mem U;exact E j n oJ (by rw[zA I,C]) rfl] at G;exact G
def putAcc (n:Int) (acc:List Int×Bool) (x:Int):List Int×Bool:=
 let a1:=if !acc.2&&decide (x>=n) then (acc.1++[n],true) else acc
 (if x≠n then a1.1++[x] else a1.1,a1.2)
def putFin (n:Int) (r:List Int×Bool):List Int:=if !r.2 then r.1++[n] else r.1
def putR (l:List Int) (n:Int):List Int:=putFin n (l.foldl (putAcc n) ([],false))
theorem qs6(n:Int)(acc:List Int×Bool)(x:Int):(putAcc n acc x).1.length<=acc.1.length+2:=by unfold putAcc;dsimp only;split<;>split<;>simp
theorem qk1(n:Int):∀(l:List Int) (h:List Int×Bool),(l.foldl (putAcc n) h).1.length<=h.1.length+2*l.length
 | [],h=>by simp
 | x::l,h=>by have u:=qs6 n h x;have y:=qk1 n l (putAcc n h x);simp only[foldl_cons,yH];omega
theorem qfv(n:Int):∀(l:List Int) (a:List Int),(∀x∈l,n<x)->l.foldl (putAcc n) (a,true)=(a++l,true)
 | [],a,_=>by simp
 | x::l,a,h=>by have hx:=h x oL;have e:putAcc n (a,true) x=(a++[x],true):=(by simp[putAcc,show x≠n by omega]);rw[foldl_cons,e,qfv n l _ (fun y hy=>h y (by simp[hy]))];simp
theorem qk0(n:Int):∀(l:List Int) (a:List Int),l.Pairwise (· < ·)->putFin n (l.foldl (putAcc n) (a,false))=a++ins n l
 | [],a,_=>by simp[ins,putFin]
 | x::l,a,h=>by
  have h':=yI.1 h;simp only[foldl_cons,ins];by_cases h1:n<x;have e:putAcc n (a,false) x=(a++[n]++[x],true):=(by simp[putAcc,show x>=n by omega,show x≠n by omega]);rw[e,qfv n l _ (fun y hy=>by have:=h'.1 y hy;omega),if_pos h1];simp[putFin];by_cases h2:n=x;have e:putAcc n (a,false) x=(a++[n],true):=(by simp[putAcc,show x>=n by omega,h2]);rw[e,qfv n l _ (fun y hy=>by have:=h'.1 y hy;omega),if_neg h1,if_pos h2,h2];simp[putFin];have e:putAcc n (a,false) x=(a++[x],false):=(by simp[putAcc,show ¬n<=x by omega,show x≠n by omega]);rw[e,if_neg h1,if_neg h2]
  have:=qk0 n l (a++[x]) h'.2
  simpa using this
theorem qv2{n:Int}(h:l.Pairwise (· < ·)):putR l n=ins n l:=by
 have:=qk0 n l [] h
 simpa[putR] using this
theorem qwD{n:Int}(h:Rd S w s l)(hl:l.length<=100000)(hk:∀s' B w',BufU w' s' (putR l n) B->Fr [] w w'->(∀b∈B,w.heap.size<=b)->K s' w'): cW 44 [s.v,.u n] [.one .slice] w K:=by
 refine qhT (l:=s) ?_;unfold qek;have hlen:=h.1;refine Own.new (oE [] w) fun b0 w1 e0 s0 ho=>?_;have hB0:BufU w1 ⟨pW b0,0,0⟩ [] [b0]:=Buf.fresh qaE (ho.at (i:=0) rfl) rfl (zM _) oL oL;have key:∀ {w2:World},Fr [] w w2->∀ {s2:Sl} {l2:List Int} {B2:List Nat},BufU w2 s2 l2 B2->(∀b∈B2,w.heap.size<=b)->l2.length<=300000->∀ {x:Int} {T:TypeId} {K:Sl->WP},
   (∀s' B' w',BufU w' s' (l2++[x]) B'->Fr [] w w'->(∀b∈B',w.heap.size<=b)->K s' w')->
   Pt.new (.cells #[.u x] T) w2 fun r w1=>Pt.run [Ty1.one Cell.slice] ((Builtin.append_ #[31,31] 31 #[s2.v,.slice (pW r) 1 1]).run prog w1) K:=by
  intro w2 f2 s2 l2 B2 hb hB hl2 x T K kk;refine pushU hb oJ fun s' B' w' g1 g2 g3=>kk s' B' w' g1 (f2.trans' g2 fun i hi=>.inr (hB i hi)) (fun b hb=>?_);rcases g3 b hb with h|h;exact hB b h
  have:=f2.size;omega
 refine qag (fun x w'=>∃(i:Nat) (B:List Nat),x.2.2=i/\i<=l.length/\BufU w' x.1 ((l.take i).foldl (putAcc n) ([],false)).1 B/\x.2.1=((l.take i).foldl (putAcc n) ([],false)).2/\Fr [] w w'/\∀b∈B,w.heap.size<=b) (fun x _=>((l.length:Int)-x.2.2).toNat)
  ⟨0,[b0],rfl,oJ,by simpa using hB0,rfl,ho.fr,fun b hb=>by simp at hb;omega⟩ ?_
 rintro⟨sa,da,ia⟩ w2 ⟨i,B,hi0,hi,hb,hd,hf,hB⟩ X hX;simp only at hi0 hb hd;subst hi0;have hh:Rd S w2 s l:=h.frame0 hf;dsimp only;generalize hacc:(l.take i).foldl (putAcc n) ([],false)=acc at hb hd;have hacclen:acc.1.length<=2*i:=by
  have:=qk1 n (l.take i) ([],false)
  rw[hacc,yK] at this;simp at this;omega
 apply qaa<;>intro hc;have hil:i<l.length:=(by have:=zC hc;omega);have hget:=zA hil;have hnext:(l.take (i+1)).foldl (putAcc n) ([],false)=putAcc n acc l[i]:=by rw[yF hil,foldl_append,hacc];rfl
 refine qaf (fun (x:Sl×Bool) w'=>∃B,BufU w' x.1 (putAcc n acc l[i]).1 B/\x.2=(putAcc n acc l[i]).2/\Fr [] w w'/\∀b∈B,w.heap.size<=b) ?_ ?_;refine qaf (fun (x:Sl×Bool) w'=>∃B,BufU w' x.1 (if !acc.2&&decide (l[i]>=n) then (acc.1++[n],true) else acc).1 B/\x.2=(if !acc.2&&decide (l[i]>=n) then (acc.1++[n],true) else acc).2/\Fr [] w w'/\∀b∈B,w.heap.size<=b) ?_ ?_;refine qaf (fun x w'=>x=(!acc.2&&decide (l[i]>=n))/\w'=w2) ?_ ?_;rw[hd];apply qaa<;>intro hc;refine Rd.at hh i rfl hget ⟨?_,rfl⟩;rw[hc,Bool.true_and];exact⟨by rw[hc];rfl,rfl⟩;rintro x w' ⟨rfl,rfl⟩;apply qaa<;>intro hc;rw[if_pos hc];exact key hf hb hB oJ fun s' B' w' g1 g2 g3=>⟨B',g1,rfl,g2,g3⟩;rw[if_neg (by rw[hc];simp)];exact⟨B,hb,hd,hf,hB⟩;rintro⟨s3,d3⟩ w3 ⟨B3,h3,hd3,f3,hB3⟩;simp only at h3 hd3;have hh3:Rd S w3 s l:=h.frame0 f3;refine Rd.at hh3 i rfl hget ?_;generalize hacc3:(if !acc.2&&decide (l[i]>=n) then (acc.1++[n],true) else acc)=acc3 at h3 hd3;have hl3:acc3.1.length<=2*i+1:=(by rw[<- hacc3];split<;>(try rw[zF,xI])<;>omega);have hput:putAcc n acc l[i]=(if l[i]≠n then acc3.1++[l[i]] else acc3.1,acc3.2):=(by unfold putAcc;rw[hacc3]);rw[hput];apply qaa<;>intro hc;have hne:l[i]≠n:=(oP hc);refine Rd.at hh3 i rfl hget ?_;rw[if_pos hne];exact key f3 h3 hB3 oJ fun s' B' w' g1 g2 g3=>⟨B',g1,hd3,g2,g3⟩;have hne:¬l[i]≠n:=(oP hc);rw[if_neg hne];exact⟨B3,h3,hd3,f3,hB3⟩;rintro⟨s4,d4⟩ w4 ⟨B4,h4,hd4,f4,hB4⟩;rw[wi _];exact hX _ _ ⟨i+1,B4,oL,oJ,by rw[hnext];exact h4,by rw[hnext];exact hd4,f4,hB4⟩ oN;have hil:i=l.length:=(by have:=zB hc;omega);subst hil;rw[xX] at hacc;have hput:putR l n=if !acc.2 then acc.1++[n] else acc.1:=by unfold putR;rw[hacc];rfl
 refine qaf (fun s' w'=>∃B,BufU w' s' (putR l n) B/\Fr [] w w'/\∀b∈B,w.heap.size<=b) ?_ (fun s' w' ⟨B',g1,g2,g3⟩=>hk s' B' w' g1 g2 g3);rw[hd,hput];apply qaa<;>intro hc;rw[if_pos hc];exact key hf hb hB oJ fun s' B' w' g1 g2 g3=>⟨B',g1,g2,g3⟩;rw[if_neg (by rw[hc];simp)];exact⟨B,hb,hf,hB⟩
theorem qoF(h:l.Pairwise (· < ·)):l.Pairwise (·<=·):=h.imp Int.le_of_lt
theorem qjk{w0:World}{F':List Nat}(u:∀b∈F,w0.heap.size<=b)(z:w0.heap.size<=w.heap.size)(h:∀b∈F',b∈F\/w.heap.size<=b):∀b∈F',w0.heap.size<=b:=by intro b y;rcases h b y with h|h;exact u b h;omega
theorem qry{pb:Nat}{K:Option Addr->WP}(h:PoolAt w pb F l)(hl:l.length<=1000000)(hk:∀U F' w',PoolAt w' U F' l->Fr [] w w'->(∀b∈F',w.heap.size<=b)->K (pW U) w'): cW 181 [.pointer (pW pb)] [.one .ptr] w K:=by
 refine qkk ?_;unfold qgm;refine qfg fun nb F0 w1 h1 f1 G=>?_;have al:PoolAt w1 pb F l:=h.frame f1 (fun _ _ h=>by cases h);have A:=h.sorted;refine qae ?_;obtain⟨mb,R,d,f,rfl,hr,hm,hp,hh,hf,hv⟩:=al.ex;rcases hr with ⟨h0,hd,hR,V⟩|⟨rb,T,hR,V,an,aG,I⟩;have ao:l=[]:=eq_nil_of_length_eq_zero h0;subst ao;exact qah V ⟨none,0,0⟩ rfl<|qc0 fun X hX=>cond_false rfl<|hk nb F0 w1 h1 f1 G;refine qah V ⟨pW rb,l.length,d.size⟩ rfl ?_;dsimp only;have aC:rb<w.heap.size:=h.lt rb (by rw[hR];simp);have E:Rd F0 w1 ⟨pW rb,l.length,d.size⟩ (d.toList.take l.length):=by
  refine⟨by rw[yK,Array.length_toList];exact (xN I).symm,I,.inr ⟨rb,0,_,T,_,rfl,an,fun hm=>by have:=G rb hm;omega,fun i x hx=>?_⟩⟩;have hi:=(zP.1 hx).1;rw[yK,Array.length_toList] at hi;have C:i<l.length:=yC hi (Nat.min_le_left _ _);have aq:i<d.size:=yC hi (Nat.min_le_right _ _);have ar:=qcJ (d:=d) rfl C I;rw[ar] at hx;rw[xO,xQ];have hc:(u32s d)[i]?=some (.u x):=by unfold u32s;rw[Array.getElem?_map];rw[<- yN hx];simp[aq]
  apply ext_getElem?;intro j;rw[xA,yZ];match j with
  | 0=>simpa using hc
  | j+1=>simp
 have ab:(d.toList.take l.length).length=l.length:=oO;have z:(d.toList.take l.length).Nodup:=hp.symm.nodup (A.imp (fun h=>Int.ne_of_lt h));generalize hL:d.toList.take l.length=L at E ab z hp;refine qag (fun x w'=>∃(i:Nat) (J:List Int) (F':List Nat),x=i/\i<=l.length/\PoolAt w' nb F' J/\J.Perm (L.take i)/\Fr [] w w'/\Rd F' w' ⟨pW rb,l.length,d.size⟩ L/\∀b∈F',w.heap.size<=b) (fun x _=>((l.length:Int)-x).toNat)
  ⟨0,[],F0,rfl,oJ,h1,oL,f1,E,G⟩ ?_
 rintro x w2 ⟨i,J,F',rfl,hi,h2,y,f2,ac,O⟩ X hX;have aw:J.length=i:=(by rw[y.length_eq,yK];omega);apply qaa<;>intro hc;have C:i<l.length:=(by have:=zC hc;omega);have Q:i<L.length:=oJ;refine Rd.at ac i rfl (zA Q)<|ql3 h2 oJ fun F3 w3 h3 f3 ad=>?_;rw[wi _];have ae:L[i]∉J:=by
  intro hm;have ax:=y.mem_iff.1 hm;have e:L.take (i+1)=L.take i++[L[i]]:=yF Q;have af:(L.take (i+1)).Nodup:=(take_sublist _ _).nodup z;rw[e] at af
  have:=(yL.1 af).2.2 _ ax L[i] oL
  exact this rfl
 refine hX _ _ ⟨i+1,ins L[i] J,F3,oJ,oJ,h3,?_,f2.trans' f3 (fun b V=>.inr (O b V)),ac.frame f3 ad,qjk O f2.size ad⟩ oJ;rw[yF Q];exact ((qcg ae).trans (y.cons _)).trans (perm_append_singleton _ _).symm;have C:i=l.length:=(by have:=zB hc;omega);subst C;rw[zS oJ] at y;have:J=l:=qct (y.trans hp) (qoF h2.sorted) (qoF A);subst this;exact hk nb F' w2 h2 f2 O
end
section
open Go Go.Pt List
open Go.IntKind (wrap)
attribute [local irreducible] ld ldA ldV fld fldA newZ st new idx idxS idxA slc slcS slcP mkS chk nn call callV inv run runQ runU join loop held ext rng undefer s2a nxt ent IntKind.wrap
variable {K:Sl->Prop} {L:List (Nat×Obj)} {S:List Nat} {T:TypeId} {body l:List Int} {number:Int} {s:Sl} {w:World}
abbrev encB:Int->List Value:=fun n=>[Value.int .u8 n]
abbrev RdB (S:List Nat) (w:World) (s:Sl) (l:List Int):Prop:=Rds encB 1 S w s l
abbrev BufB (w:World) (s:Sl) (l:List Int) (B:List Nat):Prop:=Buf encB 1 w s l B
theorem qas:∀x,(encB x).length=1:=fun _=>rfl
def bytesA (l:List Int):Array Value:=(l.map (Value.int .u8)).toArray
theorem qd4(l:List Int):(bytesA l).size=l.length:=by simp[bytesA]
theorem qaJ(l:List Int):l.flatMap encB=l.map (Value.int .u8):=by
 induction l with
 | nil=>rfl
 | cons a l ih=>rw[yG,ih];rfl
theorem qmq:∃i,prog.info? 5=some i/\i.zero=some (.b 0)/\i.size=1/\i.bytes=1:=qe6 oK
theorem RdB.at(h:RdB S w s l)(n:Nat){i x:Int}{K:Int->Prop}(hi:i=n)(u:l[n]?=some x)(k:K x):idx s i 1 fun a=>ld .b a w K:=
 Rds.get (y:=x) h n hi u rfl k
theorem qfa{b o n cap:Nat}{L:List Int}{u:Nat×Nat}(y:w.heap[b]?=some (.cells (bytesA L) T u))(E:o+n<=L.length)(z:n<=cap)(A:b∉S:=by simp):RdB S w ⟨some ⟨b,o,none⟩,n,cap⟩ ((L.drop o).take n):=by
 refine⟨by rw[yK,yB];dsimp only;omega,z,.inr ⟨b,o,_,T,_,rfl,y,A,fun i x h=>?_⟩⟩;have C:=(zP.1 h).1;rw[yK,yB] at C;rw[xA,iP,yZ] at h;rw[xQ];apply ext_getElem?;intro j;rw[xA,yZ];match j with
 | 0=>simp[bytesA,h]
 | j+1=>simp
theorem qka{b o len cap:Nat}{lo hi:Int}{h:Nat}(u:0<=lo)(y:lo<=hi)(z:hi<=cap)(A:lo<cap)(k:K ⟨some ⟨b,o+lo.toNat*h,none⟩,hi.toNat-lo.toNat,cap-lo.toNat⟩):slc ⟨some ⟨b,o,none⟩,len,cap⟩ (some lo) (some hi) none h K:=by unfold slc;refine⟨by simpa using ⟨u,y,z⟩,?_⟩;simp only[xT,xS,zJ];rw[iN];simp only[Option.map_some,Addr.add_mk];exact k
theorem qlR{b o len cap:Nat}{lo:Int}{h:Nat}(u:0<=lo)(y:lo<=len)(z:len<=cap)(A:lo<cap)(k:K ⟨some ⟨b,o+lo.toNat*h,none⟩,len-lo.toNat,cap-lo.toNat⟩):slc ⟨some ⟨b,o,none⟩,len,cap⟩ (some lo) none none h K:=by unfold slc;refine⟨by simp;omega,?_⟩;simp only[xT,xS,zJ];rw[iN];simp only[Option.map_some,Addr.add_mk];exact k
theorem Rds.part{α:Type}{enc:α->List Value}{k:Nat}{l:List α}(h:Rds enc k S w s l){lo hi:Option Int}(a b:Nat)(u:lo.getD 0=a)(y:hi.getD s.len=b)(O:a<=b)(I:b<=l.length)(Q:∀z,z.len=b-a->Rds enc k S w z ((l.take b).drop a)->(s.a.isNone=true->z.a.isNone=true)->K z):slc s lo hi none k K:=by
 obtain⟨h1,h2,C⟩:=h;unfold slc;refine⟨by rw[u,y];simp;omega,Q _ ?_ ⟨?_,?_,?_⟩ ?_⟩;rw[u,y];simp;rw[u,y];simp;omega;rw[u,y];simp;omega;by_cases he:(l.take b).drop a=[];exact .inl he;right;have R:a<b:=by rcases Nat.lt_or_ge a b with h|h;exact h;exact absurd (by rw[xZ];simp;omega) he
 rcases C with C|⟨U,o,V,T,fr,ha,E,G,hc⟩;rw[C] at I;simp at I;omega;refine⟨U,o+a*k,V,T,fr,?_,E,G,fun i x A=>?_⟩;rw[u];simp only[xT,zJ];rw[iN,ha];simp[Addr.add_mk];rw[yZ,xA] at A;split at A
 have:=hc (a+i) x A
 rw[<- this,xR,Nat.add_assoc];cases A;intro J;rw[Option.isNone_iff_eq_none] at J;rw[J];simp
def byteAt (n:Int) (j:Nat):Int:=wrap .u8 (Int.fdiv n (2^min (8*j) 32))
def be (n:Int) (k:Nat):List Int:=(List.range k).map fun i=>byteAt n (k-1-i)
theorem qal(n:Int)(k:Nat):(be n k).length=k:=by simp[be]
theorem wi'(n:Int)(h:-1000000000000000<=n/\n<=1000000000000000):wrap .i64 n=n:=by rw[IntWalk.i64_in];omega
theorem qqs{w0:World}{b o k cap:Nat}{A X Z:List Int}{n:Int}{K:Unit->WP}(h:Own S w0 w L)(i:Nat)(hi:L[i]?=some (b,.cells (bytesA (A++X++Z)) T (0,0)))(V:A.length=o)(hX:X.length=k)(Q:k<=4)(R:∀w',Own S w0 w' (L.set i (b,.cells (bytesA (A++be n k++Z)) T (0,0)))->K () w'): cW 89 [.slice (some ⟨b,o,none⟩) k cap,.u n] [] w K:=by
 refine qrq (b:=⟨some ⟨b,o,none⟩,k,cap⟩) ?_;unfold qok;refine qag (fun x w'=>∃j:Nat,x=j/\j<=k/\Own S w0 w' (L.set i (b,.cells (bytesA (A++((be n k).take j++X.drop j)++Z)) T (0,0)))) (fun x _=>((k:Int)-x).toNat) ⟨0,rfl,oJ,?_⟩ ?_;have:L.set i (b,.cells (bytesA (A++((be n k).take 0++X.drop 0)++Z)) T (0,0))=L:=by
  apply ext_getElem?;intro j;rw[xU];by_cases hij:i=j;subst hij;rw[if_pos rfl,hi]
  have:=(zP.1 hi).1
  simp[this];rw[if_neg hij]
 rw[this];exact h;rintro x w1 ⟨j,rfl,hj,z⟩ Y U;have I:=(zP.1 hi).1;dsimp only;apply qaa<;>intro J;have C:j<k:=(by have:=zC J;omega);have e1:wrap .i64 (8*wrap .i64 (wrap .i64 ((k:Int)-1)-j))=((8*(k-1-j):Nat):Int):=by rw[wi' ((k:Int)-1) oJ,wi' ((k:Int)-1-j) oJ,wi' (8*((k:Int)-1-j)) oJ];omega
 rw[e1,wi' _ oJ];refine qaP oJ<|qdR oJ oJ ?_;rw[zJ,xQ,zJ];have E:X.drop j=X[j]::X.drop (j+1):=zX oJ;have O:(be n k).take (j+1)=(be n k).take j++[byteAt n (k-1-j)]:=by rw[yF (by rw[qal];exact C)];simp[be]
 have y:((be n k).take j).length=j:=(by rw[yK,qal];omega);refine oH z i (by rw[xU,if_pos rfl,if_pos I]) (bytesA (A++((be n k).take (j+1)++X.drop (j+1))++Z)) ?_ rfl ?_ fun w2 G _=>?_;rw[splice,splice];apply Array.ext';rw[Array.toList_setIfInBounds];show (bytesA _).toList.set _ _=(bytesA _).toList;unfold bytesA;simp only[toList_toArray];rw[<- map_set,E,O,zV A,set_append_right _ _ oJ];rw[show o+j-A.length=j by omega,zV ((be n k).take j),set_append_right _ _ oJ,y,Nat.sub_self,xH,set_cons_zero];simp only[zV,xH,xG,byteAt];refine Nat.ble_eq_true_of_le ?_;rw[qd4,E];simp only[zF,yH,length_nil,y];omega;refine U _ _ ⟨j+1,oJ,oJ,?_⟩ oJ;rw[set_set] at G;exact G;have C:j=k:=(by have:=zB J;omega);subst C;rw[zS (by rw[qal];exact zM _),drop_of_length_le oJ,xF] at z;exact R _ z
def getV (l:List Int):Int:=l.foldl (fun r x=>bits .or .u32 (wrap .u32 (r*2^8)) (wrap .u32 x)) 0
theorem qpS{K:Int->WP}(h:RdB S w s l)(J:l.length<=100000)(G:K (getV l) w):cW 120 [s.v] [.one .u] w K:=by refine qrp ?_;unfold qoj;have C:=h.1;refine qag (fun x w'=>w'=w/\∃i:Nat,x.2=i/\i<=l.length/\x.1=getV (l.take i)) (fun x _=>((l.length:Int)-x.2).toNat) ⟨rfl,0,rfl,oJ,rfl⟩ ?_;rintro⟨r,ii⟩ w' ⟨rfl,i,z,O,E⟩ X I;simp only at z E;subst z E;apply qaa<;>intro A;have y:i<l.length:=(by have:=zC A;omega);refine RdB.at h i rfl (zA y) ?_;rw[wi' _ oJ];refine I _ _ ⟨rfl,i+1,oL,oJ,?_⟩ oN;rw[yF y,getV,getV,foldl_append];rfl;have y:i=l.length:=(by have:=zB A;omega);subst y;rw[xX];exact G
theorem qkA{K:Sl->World->Prop}(h:RdB S w s l)(hl:l.length<=1000000)(hk:∀s' B w',BufB w' s' l B->Fr [] w w'->(∀b∈B,w.heap.size<=b)->(s.a.isNone=true->s'=⟨none,0,0⟩)->(s.a.isNone=false->s'.a.isNone=false)->K s' w'): cond (Option.isNone s.a) (K ⟨none,0,0⟩ w) (new (.cells #[] 5) w fun r w1=>Pt.run [Ty1.one Cell.slice] ((Builtin.append_ #[27,27] 27 #[.slice (some ⟨r,0,none⟩) 0 0,.slice s.a s.len s.cap]).run prog w1) fun s' w'=>K s' w'):=by
 obtain⟨i5,hi,hz,hsz,hby⟩:=qmq;apply qaa<;>intro hc;have hl0:l=[]:=by rcases h.2.2 with h3|⟨b,o,cs,T,fr,ha,_⟩;exact h3;rw[ha] at hc;cases hc
 subst hl0;exact hk _ [] w (.nil _ _ _) (.refl _ _) oL (fun _=>rfl) (fun h=>by rw[hc] at h;cases h);obtain⟨a,ha⟩:∃a,s.a=some a:=by cases hs:s.a with|none=>rw[hs] at hc;cases hc|some a=>exact⟨a,rfl⟩
 have ho:=oE [] w;refine Own.new ho fun r w1 e1 s1 ho=>?_;have h1:RdB S w1 s l:=h.frame0 ho.fr;have hb:BufB w1 ⟨some ⟨r,0,none⟩,0,0⟩ [] [r]:=Buf.fresh qas (ho.at (i:=0) rfl) rfl (zM _) oL oL;have hlen:=h.1;rw[ha];refine Buf.appSrc (s:=⟨some ⟨r,0,none⟩,0,0⟩) (ys:=l) (e:=5) hb qas oK hi hz hsz rfl (.ofSlice _ (e':=5) oK a s.len s.cap _ ?_ (h1.cells qas ha) ?_) hlen (by rw[hby,hlen];simp;omega) (by rw[hlen];simp;omega) fun s' B w' g1 g2 g3 g4=>?_;rw[qaJ];simp[hlen];intro u hu;rw[qaJ] at hu;obtain⟨x,_,rfl⟩:=List.mem_map.1 hu;rfl;have hBn:∀b∈B,w.heap.size<=b:=fun b hb=>by rcases g3 b hb with h|h;simp at h;omega;omega
 refine hk s' B w' (oP g1) (ho.fr.trans' g2 (fun b hb=>by simp at hb;subst hb;exact .inr oJ)) hBn (fun h=>by rw[hc] at h;cases h) (fun _=>?_);rcases g4 with hn|hn;exact hn;simp at hn
theorem qa3{K:Sl->WP}(h:RdB S w s l)(y:l.length<=1000000)(z:∀u B w',BufB w' u l B->Fr [] w w'->(∀b∈B,w.heap.size<=b)->(s.a.isNone=true->u=⟨none,0,0⟩)->(s.a.isNone=false->u.a.isNone=false)->K u w'): cW 76 [s.v] [.one .slice] w K:=by refine qlS ?_;unfold qhs;exact qkA h y z
theorem qgV{K:Sl->WP}(h:RdB S w s l)(y:l.length<=1000000)(z:∀u B w',BufB w' u l B->Fr [] w w'->(∀b∈B,w.heap.size<=b)->(s.a.isNone=true->u=⟨none,0,0⟩)->(s.a.isNone=false->u.a.isNone=false)->K u w'): cW 75 [s.v] [.one .slice] w K:=by refine qnf ?_;unfold qi4;exact qkA h y z
def halvesL:List Int:=[0,274646895,549293790,820201905,1098587580,1361435347,1640403810,1905808397,2197175160,2460548119,2722870694,2987750089,3280807620,3553878443,3811616794,4084100981]
abbrev HG:Nat:=0
def Hv (w:World):Prop:=∃T h,w.heap[HG]?=some (.cells (halvesL.map (Value.int .u32)).toArray T h)
theorem Hv.frame{w':World}(h:Hv w)(f:Fr S w w')(y:HG∉S):Hv w':=by obtain⟨T,z,u⟩:=h;exact⟨T,z,by rw[f.block HG (qac u) y];exact u⟩
theorem Hv.frame0{w':World}(h:Hv w)(f:Fr [] w w'):Hv w':=h.frame f oL
theorem Hv.lt(h:Hv w):HG<w.heap.size:=by obtain⟨T,y,u⟩:=h;exact qac u
theorem qsu(x:Int):0<=bits .and .u32 x 15/\bits .and .u32 x 15<16:=by have h:(BitVec.ofInt 32 x&&& BitVec.ofInt 32 15).toNat<16:=(by rw[BitVec.toNat_and];exact Nat.lt_of_le_of_lt Nat.and_le_right oM);have u:bits .and .u32 x 15=((BitVec.ofInt 32 x&&& BitVec.ofInt 32 15).toNat:Int):=(by show wrap .u32 _=_;unfold wrap;have:(IntKind.u32.signed)=false:=rfl;simp only[this,Bool.false_and,Bool.false_eq_true,if_false];have e:((2:Int)^IntKind.u32.bits)=4294967296:=rfl;rw[e];exact Int.emod_eq_of_lt oJ (by have:(BitVec.ofInt IntKind.u32.bits x&&& BitVec.ofInt IntKind.u32.bits 15).toNat<16:=h;omega));rw[u];omega
def half (x:Int):Int:=halvesL.getD x.toNat 0
def turn4 (r:Int):Int:=bits .xor .u32 (Int.fdiv r (2^4)) (half (bits .and .u32 r 15))
def crcStep (r x:Int):Int:=turn4 (turn4 (bits .xor .u32 r (wrap .u32 x)))
def moreV (h:Int) (l:List Int):Int:=bits .xor .u32 (l.foldl crcStep (bits .xor .u32 h 4294967295)) 4294967295
def sumV (l:List Int):Int:=moreV 0 l
theorem qrY{x:Int}{K:Int->Prop}(h:Hv w)(k:K (half (bits .and .u32 x 15))):ld .u (Addr.add ⟨HG,0,none⟩ (Int.toNat (bits .and .u32 x 15)*1)) w K:=by obtain⟨T,G,A⟩:=h;obtain⟨C,E⟩:=qsu x;rw[Addr.add_mk];refine qah A _ ?_ k;generalize bits .and .u32 x 15=y at C E;have z:y.toNat<halvesL.length:=(by show y.toNat<16;omega);rw[xO,xQ];simp only[List.getElem?_toArray,zQ,zA z,Option.map_some,half,yQ,xS];rfl
theorem qw7{z:Int}{K:Int->WP}(h:RdB S w s l)(E:Hv w)(Q:l.length<=100000)(J:K (moreV z l) w): cW 133 [.u z,s.v] [.one .u] w K:=by refine qq5 ?_;unfold qnT;have G:=h.1;refine qag (fun x w'=>w'=w/\∃i:Nat,x.2=i/\i<=l.length/\x.1=(l.take i).foldl crcStep (bits .xor .u32 z 4294967295)) (fun x _=>((l.length:Int)-x.2).toNat) ⟨rfl,0,rfl,oJ,rfl⟩ ?_;rintro⟨r,ii⟩ w' ⟨rfl,i,A,R,I⟩ X O;simp only at A I;subst A I;apply qaa<;>intro C;have y:i<l.length:=(by have:=zC C;omega);refine RdB.at h i rfl (zA y)<|qaP (qsu _)<|qrY E<|qaP (qsu _)<|qrY E ?_;rw[wi' _ oJ];refine O _ _ ⟨rfl,i+1,oL,oJ,?_⟩ oN;rw[yF y,foldl_append];rfl;have y:i=l.length:=(by have:=zB C;omega);subst y;rw[xX];exact J
theorem quX{K:Int->WP}(h:RdB S w s l)(y:Hv w)(z:l.length<=100000)(A:K (sumV l) w): cW 90 [s.v] [.one .u] w K:=by refine qsF ?_;unfold qpy;exact qw7 h y z A
theorem qfC{α:Type}(A X Y Z:List α)(h:X.length=Y.length):(A++X++Z).take A.length++Y++(A++X++Z).drop (A.length+Y.length)=A++Y++Z:=by have u:(A++X++Z).take A.length=A:=(by rw[zV,take_append_of_le_length (zM _),zS (zM _)]);have y:(A++X++Z).drop (A.length+Y.length)=Z:=(by rw[<- h,<- zF,drop_append_of_le_length (zM _),drop_of_length_le (zM _),xG]);rw[u,y]
theorem qjH{A X Y Z:List Int}(h:X.length=Y.length):splice (bytesA (A++X++Z)) A.length (Y.map (Value.int .u8))=bytesA (A++Y++Z):=by
 apply Array.ext';rw[qar _ _ _ (by rw[qd4];simp only[zF,zK];omega)]
 have:=qfC (A.map (Value.int .u8)) (X.map (Value.int .u8)) (Y.map (Value.int .u8)) (Z.map (Value.int .u8)) (oP h)
 simpa only[bytesA,xJ,toList_toArray,zK] using this
def zs (n:Nat):List Int:=List.replicate n 0
theorem qaK(n:Nat):(zs n).length=n:=length_replicate
theorem qhF(a b:Nat):zs (a+b)=zs a++zs b:=replicate_append_replicate.symm
theorem qx1:zs 1=[0]:=rfl
theorem qqU(n:Nat):(List.replicate n (Value.int .u8 0)).toArray=bytesA (zs n):=by unfold bytesA zs;rw[map_replicate]
theorem Own.bytes{w0:World}{b:Nat}{l':List Int}(h:Own S w0 w ((b,.cells (bytesA l) T (0,0))::L))(e:l=l'):Own S w0 w ((b,.cells (bytesA l') T (0,0))::L):=by rw[<- e];exact h
def restV (number kind:Int) (body:List Int):List Int:=be number 4++[kind]++be (wrap .u32 body.length) 2++[0]++body++zs (500-body.length)
def sealV (number kind:Int) (body:List Int):List Int:=be (sumV (restV number kind body)) 4++restV number kind body
theorem qgq{kind:Int}(h:body.length<=500):(restV number kind body).length=508:=by simp only[restV,qal,qaK,zF,yH,length_nil];omega
theorem qck{kind:Int}(h:body.length<=500):(sealV number kind body).length=512:=by rw[sealV,zF,qal,qgq h]
theorem qnz{kind:Int}{K:Sl×Int->WP}(h:RdB S w s l)(I:Hv w)(hl:l.length<=100000)(E:500<l.length->K (⟨none,0,0⟩,3) w)(hk:l.length<=500->∀b T w',w'.heap[b]?=some (.cells (bytesA (sealV number kind l)) T (0,0))->Fr [] w w'->w.heap.size<=b->K (⟨pW b,512,512⟩,0) w'): cW 55 [.u number,.b kind,s.v] [.one .slice,.one .i] w K:=by
 refine qqm ?_;unfold qmI;have C:=h.1;refine qaa (fun J=>E (by have:=zC J;omega)) (fun J=>?_);have z:l.length<=500:=(by have:=zB J;omega);refine Own.mk1 (oE [] w) oM oM oM oM fun b w1 eb y=>?_;rw[qqU] at y;replace y:=Own.bytes (l':=zs 4++zs 4++zs 504) y (by rw[<- qhF,<- qhF];rfl);refine qka oM oM oM oM<|qqs (k:=4) y 0 rfl (qaK 4) (qaK 4) oM fun w2 y=>?_;replace y:=Own.bytes (l':=(zs 4++be number 4)++zs 1++zs 503) y (by rw[show (504:Nat)=1+503 from rfl,qhF,zV,zV,zV]);refine qdR oJ oL<|oH y 0 rfl _ (qjH (A:=zs 4++be number 4) (X:=zs 1) (Y:=[kind]) rfl) rfl (by rw[qd4];simp only[zF,qaK,qal];rfl) fun w3 y _=>?_;replace y:=Own.bytes (l':=(zs 4++be number 4++[kind])++zs 2++zs 501) y (by rw[show (503:Nat)=2+501 from rfl,qhF,zV,zV,zV,zV,zV]);refine qka oJ oJ oL oL<|qqs (k:=2) y 0 rfl (by simp only[zF,qaK,qal];rfl) (qaK 2) oM fun w4 y=>?_;replace y:=Own.bytes (l':=(zs 4++be number 4++[kind]++be (wrap .u32 s.len) 2++[0])++zs l.length++zs (500-l.length)) y (by rw[show (501:Nat)=1+(l.length+(500-l.length)) by omega,qhF,qhF,qx1];simp only[zV]);refine qlR oJ oL oL oL ?_;have R:RdB S w4 s l:=h.frame0 y.fr;have U:(zs 4++be number 4++[kind]++be (wrap .u32 s.len) 2++[0]).length=12:=(by simp only[zF,qaK,qal];rfl);refine Own.copy1 (el:=5) (vs:=l.map (Value.int .u8)) y 0 rfl oK oK (by rw[zK,C];exact (xN (by show l.length<=500;omega)).symm) (fun G=>?_) (fun v I=>by obtain⟨x,_,rfl⟩:=mem_map.1 I;rfl) (by rw[qd4,zF,zF,U,qaK,qaK,zK];omega) fun V y=>?_;rcases R.2.2 with h3|⟨bb,o,cs,T,fr,ha,_⟩;rw[h3] at G;exact absurd rfl G;refine⟨_,ha,?_⟩
 have:=R.cells qas ha
 rw[qaJ] at this;exact this;have e5:=qjH (A:=zs 4++be number 4++[kind]++be (wrap .u32 s.len) 2++[0]) (X:=zs l.length) (Y:=l) (Z:=zs (500-l.length)) (qaK _);rw[U] at e5;have e7:(0:Nat)+Int.toNat 12*1=12:=rfl;rw[e7,e5] at y;replace y:=Own.bytes (l':=[]++zs 4++restV number kind l) y (by simp only[restV,C,zV,xG]);refine qjC ⟨oJ,oL⟩<|qlR oJ oL oL oL ?_;have O:=y.drew;have hr:RdB [] V.drew ⟨some ⟨b,0+Int.toNat 4*1,none⟩,(512:Int).toNat-Int.toNat 4,(512:Int).toNat-Int.toNat 4⟩ (restV number kind l):=by
  have:=qfa (S:=[]) (o:=4) (n:=508) (cap:=508) (O.at (i:=0) rfl) (by rw[zF,zF,qaK,qgq z];simp) (zM _)
  rw[xG,drop_append_of_le_length (by rw[qaK];exact zM _),drop_of_length_le (by rw[qaK];exact zM _),xG,zS (by rw[qgq z];exact zM _)] at this;exact this
 have Q:Hv V.drew:=I.frame0 O.fr;refine quX hr Q (by rw[qgq z];decide)<|qqs (k:=4) O 0 rfl rfl (qaK 4) oM fun w6 y=>hk z b _ w6 (y.at (i:=0) rfl) y.fr oJ
def IsB (l:List Int):Prop:=∀x∈l,0<=x/\x<256
theorem IsB.take{l:List Int}(h:IsB l)(n:Nat):IsB (l.take n):=fun x u=>h x (yU u)
theorem IsB.drop{l:List Int}(h:IsB l)(n:Nat):IsB (l.drop n):=fun x u=>h x (yT u)
theorem qtP(h:IsB l):((Lib.countByte (Lib.bytesOf l) (0:Int).toNat.toUInt8:Nat):Int)=l.length↔∀x∈l,x=0:=by
 have key:∀l:List Int,IsB l->((Lib.bytesOf l).count (0:UInt8)<=l.length/\((Lib.bytesOf l).count (0:UInt8)=l.length↔∀x∈l,x=0)):=by
  intro l;induction l with
  | nil=>intro _;simp[Lib.bytesOf]
  | cons a l ih=>
   intro u;obtain⟨E,y⟩:=ih (fun x z=>u x (zN _ z));have G:=u a oL;have e:Lib.bytesOf (a::l)=UInt8.ofNat a.toNat::Lib.bytesOf l:=rfl;rw[e,count_cons];have A:(UInt8.ofNat a.toNat==0)=decide (a=0):=by
    by_cases h0:a=0;subst h0;rfl;rw[zU h0,zR];intro C
    have:=congrArg UInt8.toNat C
    simp at this;omega
   rw[A];by_cases h0:a=0;subst h0;simp only[decide_true,if_true,yH,zG,forall_eq_or_imp,true_and];exact⟨oJ,by rw[<- y];omega⟩;simp only[h0,decide_false,Bool.false_eq_true,if_false,yH,zG,forall_eq_or_imp,false_and,iff_false];omega
 have:=(key l h).2
 show (((Lib.bytesOf l).count _:Nat):Int)=_↔_;rw[<- this];exact Int.ofNat_inj
theorem qnh{b2 cap2:Nat}{K:Int->World->Prop}(h:RdB S w s l)(hB:IsB l)(hc2:w.cell? ⟨b2,0,none⟩=some (.int .u8 0))(hk:∀c:Int,(c=l.length↔∀x∈l,x=0)->K c w): call prog 121 [.slice s.a s.len s.cap,.slice (some ⟨b2,0,none⟩) 1 cap2] [.one (.int .i64)] w K:=by
 refine qng (s:=s) (sep:=⟨some ⟨b2,0,none⟩,1,cap2⟩) ?_;unfold qi5;have hlen:=h.1;refine cond_false (by rfl)<|cond_true (by rfl)<|qdR oJ oL<|qeY (c:=.int .u8) 0 hc2 ?_;have hcount:(Extern.BytealgCount.count #[.slice s.a s.len s.cap,.int .u8 0]).run prog w=.ok (.int .i64 (Lib.countByte (Lib.bytesOf l) (0:Int).toNat.toUInt8)) w:=by
  cases ha:s.a with
  | none=>
   have hl0:l=[]:=by rcases h.2.2 with h3|⟨b,o,cs,T,fr,ha',_⟩;exact h3;rw[ha] at ha';cases ha'
   subst hl0;exact Lib.run_countNil w _ _ _
  | some a=>
   refine Lib.run_countAt w a s.len s.cap l hlen.symm (fun i hi=>?_) 0
   have:=h.cells qas ha i (.int .u8 (l.getD i 0)) ?_
   exact this;rw[qaJ,zQ,yQ,zA oJ];rfl
 exact qi9 (e:=Extern.BytealgCount.count) Tryz.func160 oK oK oK oK (((Lib.countByte (Lib.bytesOf l) (0:Int).toNat.toUInt8:Nat):Int)) w hcount<|hk _ (qtP hB)
def openV (number:Int) (b:List Int):Int×List Int×Int:=
 if b.length≠512 then (0,[],1)
 else if getV (b.take 4)≠sumV (b.drop 4) then (0,[],8)
 else if getV ((b.take 8).drop 4)≠number then (0,[],4)
 else if getV ((b.take 11).drop 9)>500\/b.getD 11 0≠0 then (0,[],2)
 else if ∃x∈b.drop (12+(getV ((b.take 11).drop 9)).toNat),x≠0 then (0,[],2)
 else (b.getD 8 0,(b.take (12+(getV ((b.take 11).drop 9)).toNat)).drop 12,0)
theorem qaQ(x:Int)(h:0<=x/\x<4294967296:=by omega):wrap .u32 x=x:=by unfold wrap;have:(IntKind.u32.signed)=false:=rfl;simp only[this,Bool.false_and,Bool.false_eq_true,if_false];exact Int.emod_eq_of_lt h.1 h.2
theorem qaW(x:Int):0<=wrap .u32 x/\wrap .u32 x<4294967296:=by unfold wrap;have:(IntKind.u32.signed)=false:=rfl;simp only[this,Bool.false_and,Bool.false_eq_true,if_false];exact⟨Int.emod_nonneg _ oM,Int.emod_lt_of_pos _ oM⟩
theorem qco(h:BinOp)(x y:Int):0<=bits h .u32 x y/\bits h .u32 x y<4294967296:=qaW _
theorem qsK(l:List Int):0<=getV l/\getV l<4294967296:=by
 unfold getV;have:∀(l:List Int) (a:Int),0<=a/\a<4294967296->0<=l.foldl (fun r x=>bits .or .u32 (wrap .u32 (r*2^8)) (wrap .u32 x)) a/\l.foldl (fun r x=>bits .or .u32 (wrap .u32 (r*2^8)) (wrap .u32 x)) a<4294967296:=by
  intro l;induction l with
  | nil=>intro a h;exact h
  | cons x l ih=>intro a _;exact ih _ (qco _ _ _)
 exact this l 0 oM
theorem qnu{K:Int×Sl×Int->WP}(h:RdB S w s l)(hv:Hv w)(hB:IsB l)(hl:l.length<=100000)(hk:∀s' B w',BufB w' s' (openV number l).2.1 B->Fr [] w w'->(∀b∈B,w.heap.size<=b)->K ((openV number l).1,s',(openV number l).2.2) w'): cW 78 [.u number,s.v] [.one .b,.one .slice,.one .i] w K:=by
 refine qql ?_;unfold qmH;have G:=h.1;have A:∀ {e:Int} {w':World},openV number l=(0,[],e)->Fr [] w w'->K (0,⟨none,0,0⟩,e) w':=by
  intro e w' he hf
  have:=hk ⟨none,0,0⟩ [] w' (by rw[he];exact .nil _ _ _) hf oL
  rw[he] at this;exact this
 apply qaa<;>intro y;refine A ?_ (.refl _ _);have:l.length≠512:=(by simp at y;omega);simp[openV,this];have I:l.length=512:=(by simp at y;omega);refine Rds.part h 0 4 rfl rfl oJ oJ fun s1 l1 r1 _=>Rds.part h 4 512 rfl (by rw[G,I];rfl) oJ oJ fun s2 l2 r2 _=>?_;rw[zS oJ] at r2;rw[xD] at r1;have U:Fr [] w w.drew:=(Fr.refl _ _).drew;have ah:Hv w.drew:=hv.frame0 U;refine qpS (w:=w.drew) r1 (by rw[yK];omega)<|quX (w:=w.drew) r2 ah (by rw[yB];omega) ?_;have R:¬l.length≠512:=oJ;apply qaa<;>intro y;refine A ?_ U;have:getV (l.take 4)≠sumV (l.drop 4):=(oP y);rw[openV,if_neg R,if_pos this];have h1:¬getV (l.take 4)≠sumV (l.drop 4):=(oP y);have hd:RdB S w.drew s l:=h;refine Rds.part hd 4 8 rfl rfl oJ oJ fun s3 l3 r3 _=>qpS r3 (by rw[yB,yK];omega) ?_;apply qaa<;>intro y;refine A ?_ U;have:getV ((l.take 8).drop 4)≠number:=(oP y);rw[openV,if_neg R,if_neg h1,if_pos this];have h2:¬getV ((l.take 8).drop 4)≠number:=(oP y);refine Rds.part hd 9 11 rfl rfl oJ oJ fun s4 l4 r4 _=>qpS r4 (by rw[yB,yK];omega) ?_;have hn:=qsK ((l.take 11).drop 9);have aj:l[11]?=some (l.getD 11 0):=(by rw[yQ,zA oJ];rfl);have g8:l[8]?=some (l.getD 8 0):=(by rw[yQ,zA oJ];rfl);refine qaf (fun b w'=>b=decide (getV ((l.take 11).drop 9)>500\/l.getD 11 0≠0)/\w'=w.drew) ?_ ?_;apply qaa<;>intro y;exact⟨by rw[zZ (Or.inl (zC y))],rfl⟩;refine RdB.at hd 11 rfl aj ⟨?_,rfl⟩
 have:=zB y
 generalize l.getD 11 0=z;by_cases hz:z=0<;>simp[this,hz];rintro b w1 ⟨rfl,rfl⟩;apply qaa<;>intro y;refine A ?_ U;rw[openV,if_neg R,if_neg h1,if_neg h2,if_pos (zC y)];have h3:=zB y;have J:getV ((l.take 11).drop 9)<=500:=by rcases Int.lt_or_le 500 (getV ((l.take 11).drop 9)) with h|h;exact absurd (Or.inl h) h3;exact h
 have ov:openV number l=if ∃x∈l.drop (12+(getV ((l.take 11).drop 9)).toNat),x≠0 then (0,[],2) else (l.getD 8 0,(l.take (12+(getV ((l.take 11).drop 9)).toNat)).drop 12,0):=by rw[openV,if_neg R,if_neg h1,if_neg h2,if_neg h3]
 generalize getV ((l.take 11).drop 9)=n at hn J ov;obtain⟨m,rfl⟩:∃m:Nat,n=m:=⟨n.toNat,oJ⟩;rw[qaQ _];rw[zJ] at ov;refine Rds.part hd (12+m) 512 oL (by rw[G,I];rfl) oJ oJ fun s5 l5 r5 _=>?_;rw[zS oJ] at r5;have V:=oE [] w.drew;refine Own.new V fun zb w2 ez sz V=>?_;have al:RdB S w2 s5 (l.drop (12+m)):=r5.frame0 V.fr;refine qnh al (hB.drop _) (V.cell (off:=0) 0 rfl rfl) fun c ab=>?_;have E:Fr [] w w2:=U.trans V.fr;have ac:=r5.1;apply qaa<;>intro y;refine A ?_ E;have am:¬ ∀x∈l.drop (12+m),x=0:=by rw[<- ab];intro e;rw[e,ac] at y;simp at y
 rw[ov,if_pos];exact Classical.byContradiction fun an=>am fun x hx=>Classical.byContradiction fun ap=>an ⟨x,hx,ap⟩;have ad:∀x∈l.drop (12+m),x=0:=by rw[<- ab];rw[ac] at y;simpa using y
 rw[if_neg (by rintro⟨x,hx,R⟩;exact R (ad x hx))] at ov;have ae:RdB S w2.drew s l:=(h.frame0 E).drew;obtain⟨_,b8,o8,ar,_,af,T8,au,O,av⟩:=Rds.at ae 8 g8;have Q:af[o8+8]?=some (.b (l.getD 8 0)):=by
  have:=congrArg (·[0]?) av
  simpa using this
 refine qbE ar ⟨oJ,oJ⟩ ?_;have C:∀ {w':World},w'.heap[b8]?=some (.cells af T8 au)->w'.cell? ⟨b8,o8+Int.toNat 8*1,none⟩=some (.b (l.getD 8 0)):=fun hb=>by rw[qai hb];exact Q
 refine qeY (l.getD 8 0) (C O)<|Rds.part ae 12 (12+m) rfl oL oJ oJ fun s6 l6 r6 _=>?_;have lm:((l.take (12+m)).drop 12).length=m:=(by rw[yB,yK];omega);refine qgV r6 (by rw[lm];omega) fun s7 B w3 ax f7 n7 _ _=>qaj (C (by show _=_;rw[f7.block b8 (qac O) oL];exact O)) ?_;have e1:(w2.drew).heap.size=w2.heap.size:=rfl
 have:=hk s7 B w3 (by rw[ov];exact ax) (E.drew.trans f7) (fun b hb=>by have:=n7 b hb;have:=E.size;omega)
 rw[ov] at this;exact this
end
section
open Go Go.Pt List
open Go.IntKind (wrap)
variable {K:Int×Int->WP} {a b body:List Int} {n number:Int} {w:World}
theorem wu8(x:Int):wrap .u8 x=x%256:=by unfold wrap;have:(IntKind.u8.signed)=false:=rfl;simp only[this,Bool.false_and,Bool.false_eq_true,if_false];rfl
theorem qxS{r x:Int}(h:0<=r/\r<16777216)(u:0<=x/\x<256):bits .or .u32 (wrap .u32 (r*2^8)) (wrap .u32 x)=r*256+x:=by rw[qaQ x,qaQ (r*2^8)];obtain⟨a,rfl⟩:∃a:Nat,r=a:=⟨r.toNat,oJ⟩;obtain⟨b,rfl⟩:∃b:Nat,x=b:=⟨x.toNat,oJ⟩;have e1:((a:Int)*2^8)=((2^8*a:Nat):Int):=oJ;rw[e1];show wrap .u32 ((BitVec.ofInt 32 ((2^8*a:Nat):Int)||| BitVec.ofInt 32 (b:Int)).toNat:Nat)=_;rw[BitVec.toNat_or,BitVec.ofInt_natCast,BitVec.ofInt_natCast,BitVec.toNat_ofNat,BitVec.toNat_ofNat,Nat.mod_eq_of_lt (show 2^8*a<2^32 by omega),Nat.mod_eq_of_lt (show b<2^32 by omega),<- Nat.two_pow_add_eq_or_of_lt (show b<2^8 by omega)];rw[qaQ _];omega
def beV (l:List Int):Int:=l.foldl (fun r x=>r*256+x) 0
theorem qh1:∀ {l:List Int},IsB l->l.length<=4->getV l=beV l:=by
 have key:∀(l:List Int) (r:Int) (k:Nat),IsB l->l.length<=k->k<=4->0<=r->r<256^(4-k)->
   l.foldl (fun r x=>bits .or .u32 (wrap .u32 (r*2^8)) (wrap .u32 x)) r=l.foldl (fun r x=>r*256+x) r:=by
  intro l;induction l with
  | nil=>intros;rfl
  | cons x l ih=>
   intro r k u h z C A;have E:=u x oL;simp only[yH] at h;have G:r<16777216:=by
    have:(256:Int)^(4-k)<=256^3:=by
     have:(4-k)<=3:=oJ;match k,z,h with
     | 1,_,_=>decide
     | 2,_,_=>decide
     | 3,_,_=>decide
     | 4,_,_=>decide
    have e:(256:Int)^3=16777216:=oM;omega
   rw[foldl_cons,foldl_cons,qxS ⟨C,G⟩ E];match k,z,h,A with
   | k+1,z,h,A=>
    refine ih _ k (fun y I=>u y (zN _ I)) oJ oJ oJ ?_;have e:4-k=(4-(k+1))+1:=oJ;rw[e,Int.pow_succ];omega
 intro l u h;exact key l 0 4 u h oM oM oM
theorem qcR(h:0<=n)(j:Nat)(u:j<=3:=by decide):byteAt n j=n / 256^j%256:=by
 unfold byteAt;rw[wu8,Int.fdiv_eq_ediv_of_nonneg _ (by exact Int.pow_nonneg oM)];match j,u with
 | 0,_=>rfl
 | 1,_=>rfl
 | 2,_=>rfl
 | 3,_=>rfl
theorem be4(h:0<=n):be n 4=[n / 16777216%256,n / 65536%256,n / 256%256,n%256]:=by have e:be n 4=[byteAt n 3,byteAt n 2,byteAt n 1,byteAt n 0]:=rfl;rw[e,qcR h 3,qcR h 2,qcR h 1,qcR h 0];simp
theorem be2(h:0<=n:=by omega):be n 2=[n / 256%256,n%256]:=by have e:be n 2=[byteAt n 1,byteAt n 0]:=rfl;rw[e,qcR h 1,qcR h 0];simp
theorem qbb(n:Int)(k:Nat):IsB (be n k):=by intro x h;obtain⟨i,_,rfl⟩:=mem_map.1 h;unfold byteAt;rw[wu8];omega
theorem qlv(h:0<=n/\n<4294967296):getV (be n 4)=n:=by rw[qh1 (qbb _ _) (by rw[qal];exact zM _),be4 h.1];show (((0*256+_)*256+_)*256+_)*256+_=n;omega
theorem qpR(h:0<=n/\n<65536:=by omega):getV (be n 2)=n:=by rw[qh1 (qbb _ _) (by rw[qal];decide),be2 h.1];show (0*256+_)*256+_=n;omega
theorem qtr(l:List Int):0<=sumV l/\sumV l<4294967296:=by unfold sumV moreV;exact qco _ _ _
theorem IsB.append(h:IsB a)(k:IsB b):IsB (a++b):=fun x y=>by rcases zD.1 y with u|u;exact h x u;exact k x u
theorem IsB.zs(n:Nat):IsB (zs n):=fun x h=>by
 have:=eq_of_mem_replicate h
 omega
theorem IsB.one{x:Int}(h:0<=x/\x<256):IsB [x]:=fun y u=>by simp at u;subst u;exact h
theorem quO{kind:Int}(h:0<=kind/\kind<256)(u:IsB body):IsB (restV number kind body):=
 (((((qbb _ _).append (.one h)).append (qbb _ _)).append (.one oM)).append u).append (.zs _)
theorem qc6{kind:Int}(h:0<=kind/\kind<256)(u:IsB body):IsB (sealV number kind body):=(qbb _ _).append (quO h u)
theorem qgQ{kind:Int}(C:0<=number/\number<4294967296)(E:body.length<=500):openV number (sealV number kind body)=(kind,body,0):=by
 have u:wrap .u32 (body.length:Int)=(body.length:Int):=qaQ _;have e0:sealV number kind body=be (sumV (restV number kind body)) 4++(be number 4++([kind]++(be body.length 2++([0]++(body++zs (500-body.length)))))):=by
  rw[sealV];conv=>lhs;rhs;rw[restV]
  rw[u];simp only[zV]
 have l4:=qal (sumV (restV number kind body)) 4;have e1:(sealV number kind body).take 4=be (sumV (restV number kind body)) 4:=(by rw[sealV,take_append_of_le_length (by rw[qal];exact zM _),zS (by rw[qal];exact zM _)]);have G:(sealV number kind body).drop 4=restV number kind body:=(by rw[sealV,drop_append_of_le_length (by rw[qal];exact zM _),drop_of_length_le (by rw[qal];exact zM _),xG]);have A:∀n,∃a b c d,be n 4=[a,b,c,d]:=fun n=>⟨_,_,_,_,rfl⟩;have I:∀n,∃a b,be n 2=[a,b]:=fun n=>⟨_,_,rfl⟩;obtain⟨J,K,O,Q,R⟩:=A (sumV (restV number kind body));obtain⟨U,V,n2,n3,y⟩:=A number;obtain⟨l0,l1,z⟩:=I body.length;have h:sealV number kind body=J::K::O::Q::U::V::n2::n3::kind::l0::l1::0::(body++zs (500-body.length)):=by rw[e0,R,y,z];rfl
 have g1:getV ((sealV number kind body).take 4)=sumV ((sealV number kind body).drop 4):=(by rw[e1,G,qlv (qtr _)]);have g2:getV (((sealV number kind body).take 8).drop 4)=number:=(by have:((sealV number kind body).take 8).drop 4=be number 4:=(by rw[h,y];rfl);rw[this,qlv C]);have g3:getV (((sealV number kind body).take 11).drop 9)=body.length:=(by have:((sealV number kind body).take 11).drop 9=be body.length 2:=(by rw[h,z];rfl);rw[this,qpR oJ]);have g4:(sealV number kind body).getD 11 0=0:=(by rw[h];rfl);have g5:(sealV number kind body).getD 8 0=kind:=(by rw[h];rfl);have g6:(sealV number kind body).drop (12+body.length)=zs (500-body.length):=(by rw[h,Nat.add_comm];show (body++zs (500-body.length)).drop body.length=_;rw[drop_append_of_le_length (zM _),drop_length,xG]);have g7:((sealV number kind body).take (12+body.length)).drop 12=body:=(by rw[h,Nat.add_comm];show (body++zs (500-body.length)).take body.length=_;rw[take_append_of_le_length (zM _),xX]);rw[openV,if_neg (by rw[qck E];simp),if_neg (by rw[g1];simp),if_neg (by rw[g2];simp),g3,g4,if_neg oO,zJ,g6,if_neg,g5,g7];rintro⟨x,hx,h0⟩;exact h0 (eq_of_mem_replicate hx)
def cmpL:List Int->List Int->Int
 | [],[]=>0
 | [],_::_=>-1
 | _::_,[]=>1
 | a::r,b::s=>if a<b then -1 else if b<a then 1 else cmpL r s
abbrev KLt (a b:List Int):Prop:=cmpL a b<0
theorem qhU:∀a b:List Int,cmpL a b=-1\/cmpL a b=0\/cmpL a b=1
 | [],[]=>.inr (.inl rfl)
 | [],_::_=>.inl rfl
 | _::_,[]=>.inr (.inr rfl)
 | a::r,b::s=>by rw[cmpL];split;exact .inl rfl;split;exact .inr (.inr rfl);exact qhU r s
theorem qf2:∀a:List Int,cmpL a a=0
 | []=>rfl
 | a::r=>by rw[cmpL,iN,iN];exact qf2 r
theorem qf3:∀ {a b:List Int},cmpL a b=0->a=b
 | [],[],_=>rfl
 | [],_::_,h=>by simp[cmpL] at h
 | _::_,[],h=>by simp[cmpL] at h
 | a::r,b::s,h=>by rw[cmpL] at h;split at h;cases h;split at h;cases h;rw[qf3 h,show a=b by omega]
theorem qcI:∀a b:List Int,cmpL b a =-cmpL a b
 | [],[]=>rfl
 | [],_::_=>rfl
 | _::_,[]=>rfl
 | a::r,b::s=>by rw[cmpL,cmpL];by_cases h1:a<b;rw[if_neg (show ¬b<a by omega),if_pos h1,if_pos h1];rfl;by_cases h2:b<a;rw[if_pos h2,if_neg h1,if_pos h2];rw[if_neg h2,if_neg h1,if_neg h1,if_neg h2];exact qcI r s
theorem qaD:¬KLt a a:=by unfold KLt;rw[qf2];decide
theorem qaB:∀ {a b c:List Int},KLt a b->KLt b c->KLt a c
 | [],[],_,h,_=>by simp[KLt,cmpL] at h
 | [],_::_,[],_,h=>by simp[KLt,cmpL] at h
 | [],_::_,_::_,_,_=>by simp[KLt,cmpL]
 | _::_,[],_,h,_=>by simp[KLt,cmpL] at h
 | _::_,_::_,[],_,h=>by simp[KLt,cmpL] at h
 | a::r,b::s,c::t,h,g=>by unfold KLt at h g⊢;rw[cmpL] at h g⊢;by_cases h1:a<b;by_cases g1:b<c;rw[iP];decide;rw[if_neg g1] at g;by_cases g2:c<b;rw[if_pos g2] at g;omega;rw[iP];decide;rw[if_neg h1] at h;by_cases h2:b<a;rw[if_pos h2] at h;omega;rw[if_neg h2] at h;by_cases g1:b<c;rw[iP];decide;rw[if_neg g1] at g;by_cases g2:c<b;rw[if_pos g2] at g;omega;rw[if_neg g2] at g;rw[iN,iN];exact qaB (a:=r) (b:=s) (c:=t) h g
theorem qaX(h:KLt a b):¬KLt b a:=fun g=>qaD (qaB h g)
theorem qha(h:KLt a b):a≠b:=fun e=>by rw[e] at h;exact qaD h
theorem qn9(a b:List Int):KLt a b\/a=b\/KLt b a:=by rcases qhU a b with h|h|h;exact .inl (by unfold KLt;omega);exact .inr (.inl (qf3 h));refine .inr (.inr ?_);unfold KLt;rw[qcI];omega
theorem qhg:¬KLt a b↔a=b\/KLt b a:=by constructor;intro h;rcases qn9 a b with u|u|u;exact absurd u h;exact .inl u;exact .inr u;rintro (rfl|h);exact qaD;exact qaX h
abbrev KLe (a b:List Int):Prop:=¬KLt b a
theorem qg9{c:List Int}(h:KLe a b)(g:KLt b c):KLt a c:=by rcases qhg.1 h with u|u;rw[<- u];exact g;exact qaB u g
theorem qbq{c:List Int}(h:KLt a b)(g:KLe b c):KLt a c:=by rcases qhg.1 g with u|u;rw[u];exact h;exact qaB h u
theorem qcZ{c:List Int}(h:KLe a b)(g:KLe b c):KLe a c:=fun k=>by rcases qhg.1 h with u|u;subst u;exact g k;exact g (qaB k u)
abbrev Key:=List Int
variable {k:Key}
abbrev Prs:=List (List Int×List Int)
variable {l:Prs}
def placeV (l:List Key) (k:Key):Nat:=(l.takeWhile fun a=>decide (KLt a k)).length
def kidV (l:List Key) (k:Key):Nat:=(l.takeWhile fun a=>decide (KLe a k)).length
def Rising (l:List Key):Prop:=l.Pairwise KLt
theorem qfH{α:Type}(p:α->Bool)(l:List α):(l.takeWhile p).length<=l.length:=(takeWhile_sublist p).length_le
theorem qon(l:List Key)(k:Key):placeV l k<=l.length:=qfH _ l
theorem qj3(l:List Key)(k:Key):kidV l k<=l.length:=qfH _ l
theorem qdZ{α:Type}(p:α->Bool):∀l:List α,l.take (l.takeWhile p).length=l.takeWhile p
 | []=>rfl
 | a::r=>by
  rw[takeWhile_cons];cases h:p a with
  | true=>simp[qdZ p r]
  | false=>simp
theorem qeB{α:Type}{p:α->Bool}:∀ {l:List α} {x:α},x∈l.takeWhile p->p x=true
 | a::r,x,h=>by
  rw[takeWhile_cons] at h;cases u:p a with
  | true=>
   rw[u] at h;rcases zG.1 h with rfl|h;exact u;exact qeB h
  | false=>rw[u] at h;cases h
theorem qb3{α:Type}{p:α->Bool}:∀ {l:List α} {x:α} {r:List α},l.drop (l.takeWhile p).length=x::r->p x=false
 | a::s,x,r,h=>by
  rw[takeWhile_cons] at h;cases u:p a with
  | true=>
   rw[u] at h;exact qb3 (l:=s) (oP h)
  | false=>
   rw[u] at h;simp at h;rw[<- h.1];exact u
theorem qqo{l:List Key}{a:Key}(h:a∈l.take (placeV l k)):KLt a k:=by unfold placeV at h;rw[qdZ] at h;exact zC (p:=KLt a k) (qeB (p:=fun a=>decide (KLt a k)) h)
theorem qsT{l:List Key}{a:Key}(h:a∈l.take (kidV l k)):KLe a k:=by unfold kidV at h;rw[qdZ] at h;exact zC (p:=KLe a k) (qeB (p:=fun a=>decide (KLe a k)) h)
theorem qby{x:Key}{r:List Key}(h:Rising (x::r)):∀a∈r,KLt x a:=(yI.1 h).1
theorem Rising.drop{l:List Key}(h:Rising l)(n:Nat):Rising (l.drop n):=List.Pairwise.sublist (drop_sublist n l) h
theorem Rising.take{l:List Key}(h:Rising l)(n:Nat):Rising (l.take n):=List.Pairwise.sublist (take_sublist n l) h
theorem qoX{l:List Key}{a:Key}(z:Rising l)(h:a∈l.drop (placeV l k)):KLe k a:=by
 have u:=z.drop (placeV l k);cases e:l.drop (placeV l k) with
 | nil=>rw[e] at h;cases h
 | cons x r=>
  have y:KLe k x:=zB (qb3 (p:=fun a=>decide (KLt a k)) e);rw[e] at h u;rcases zG.1 h with rfl|h;exact y;exact qcZ y (qaX (qby u a h))
theorem qrh{l:List Key}{a:Key}(z:Rising l)(h:a∈l.drop (kidV l k)):KLt k a:=by
 have u:=z.drop (kidV l k);cases e:l.drop (kidV l k) with
 | nil=>rw[e] at h;cases h
 | cons x r=>
  have y:KLt k x:=Classical.not_not.1 (zB (qb3 (p:=fun a=>decide (KLe a k)) e));rw[e] at h u;rcases zG.1 h with rfl|h;exact y;exact qaB y (qby u a h)
def insP (k v:Key):Prs->Prs
 | []=>[(k,v)]
 | x::r=>if KLt k x.1 then (k,v)::x::r else if k=x.1 then (k,v)::r else x::insP k v r
def cutP (k:Key) (l:Prs):Prs:=l.filter fun x=>decide (x.1≠k)
abbrev keysP (l:Prs):List Key:=l.map (·.1)
def SortP (l:Prs):Prop:=Rising (keysP l)
theorem qdv{k v:Key}:∀ {a:Prs} {l:Prs},(∀x∈a,KLt x.1 k)->insP k v (a++l)=a++insP k v l
 | [],l,_=>rfl
 | x::a,l,h=>by have u:=h x oL;rw[xH,insP,if_neg (qaX u),if_neg (fun e=>qha u e.symm),qdv fun y z=>h y (zN _ z),xH]
theorem qkL{k v:Key}{b:Prs}(h:∀x∈b,KLt k x.1):∀l:Prs,insP k v (l++b)=insP k v l++b
 | []=>by
  cases b with
  | nil=>rfl
  | cons x r=>
   show insP k v (x::r)=(k,v)::x::r;rw[insP,if_pos (h x oL)]
 | x::l=>by rw[xH,insP,insP];split;rfl;split;rfl;rw[qkL h l,xH]
theorem qvK{v w:Key}{a r:Prs}(h:∀x∈a,KLt x.1 k):insP k v (a++(k,w)::r)=a++(k,v)::r:=by rw[qdv h,insP,if_neg qaD,if_pos rfl]
theorem quf{v:Key}{a b:Prs}(h:∀x∈a,KLt x.1 k)(u:∀x∈b,KLt k x.1):insP k v (a++b)=a++(k,v)::b:=by
 rw[qdv h];cases b with
 | nil=>rfl
 | cons x r=>rw[insP,if_pos (u x oL)]
theorem qfs{k v:Key}{x:Key×Key}:∀ {l:Prs},x∈insP k v l->x=(k,v)\/x∈l
 | [],h=>.inl (by simpa[insP] using h)
 | y::l,h=>by rw[insP] at h;split at h;rcases zG.1 h with h|h;exact .inl h;exact .inr h;split at h;rcases zG.1 h with h|h;exact .inl h;exact .inr (zN _ h);rcases zG.1 h with h|h;exact .inr (by rw[h];simp);rcases qfs h with h|h;exact .inl h;exact .inr (zN _ h)
theorem qn5{k v:Key}:∀ {l:Prs},SortP l->SortP (insP k v l)
 | [],_=>pairwise_singleton _ _
 | x::l,h=>by have z:=yI.1 (show (x.1::keysP l).Pairwise KLt from h);rw[insP];split;rename_i A;refine yI.2 ⟨fun a u=>?_,h⟩;rcases zG.1 u with rfl|u;exact A;exact qaB A (z.1 a u);split;rename_i A;refine yI.2 ⟨fun a u=>?_,z.2⟩;show KLt k a;rw[A];exact z.1 a u;rename_i C E;refine yI.2 ⟨fun a u=>?_,qn5 z.2⟩;obtain⟨y,G,rfl⟩:=mem_map.1 u;rcases qfs G with rfl|G;rcases qhg.1 C with e|e;exact absurd e E;exact e;exact z.1 _ (zY G)
theorem qbF{k v:Key}:∀ {l:Prs},k∉keysP l->(insP k v l).length=l.length+1
 | [],_=>rfl
 | x::l,h=>by rw[insP];split;rfl;split;rename_i e;exact absurd (by rw[e];simp) h;rw[yH,qbF fun u=>h (zN _ u),yH]
theorem qcf{k v:Key}:∀ {l:Prs},SortP l->k∈keysP l->(insP k v l).length=l.length
 | x::l,z,h=>by have y:=yI.1 (show (x.1::keysP l).Pairwise KLt from z);rw[insP];split;rename_i u;rcases zG.1 h with e|e;rw[e] at u;exact absurd u qaD;exact absurd u (qaX (y.1 k e));split;rfl;rename_i u;rcases zG.1 h with e|e;exact absurd e u;rw[yH,qcf y.2 e,yH]
theorem ql9{a:Prs}(h:∀x∈a,KLt x.1 k):cutP k (a++l)=a++cutP k l:=by unfold cutP;rw[filter_append,filter_eq_self.2];intro x u;exact zZ (qha (h x u))
theorem qkB{b:Prs}(h:∀x∈b,KLt k x.1):cutP k (l++b)=cutP k l++b:=by unfold cutP;rw[filter_append];congr 1;rw[filter_eq_self];intro x u;exact zZ fun e=>qha (h x u) e.symm
theorem qvz{w:Key}{a b:Prs}(h:∀x∈a,KLt x.1 k)(u:∀x∈b,KLt k x.1):cutP k (a++(k,w)::b)=a++b:=by rw[ql9 h,show (k,w)::b=[(k,w)]++b from rfl,qkB u];unfold cutP;simp
theorem qtU(h:SortP l):SortP (cutP k l):=List.Pairwise.sublist (List.Sublist.map _ filter_sublist) h
theorem qlz{x:Key×Key}:x∈cutP k l↔x∈l/\x.1≠k:=by unfold cutP;rw[mem_filter];simp
theorem SortP.app{a b:Prs}:SortP (a++b)↔SortP a/\SortP b/\∀x∈a,∀y∈b,KLt x.1 y.1:=by unfold SortP Rising keysP;rw[xJ,pairwise_append];constructor;rintro⟨h,u,z⟩;exact⟨h,u,fun x A y C=>z _ (zY A) _ (zY C)⟩;rintro⟨h,u,z⟩;refine⟨h,u,fun a E b G=>?_⟩;obtain⟨x,A,rfl⟩:=mem_map.1 E;obtain⟨y,C,rfl⟩:=mem_map.1 G;exact z x A y C
theorem qd7(u:SortP l):(∀x∈l.take (placeV (keysP l) k),KLt x.1 k)/\∀x∈l.drop (placeV (keysP l) k),KLe k x.1:=by refine⟨fun x h=>qqo (l:=keysP l) ?_,fun x h=>qoX (l:=keysP l) u ?_⟩;rw[<- xL];exact zY h;rw[<- xM];exact zY h
theorem qsO{v:Key}(J:SortP l):insP k v l=if (keysP l)[placeV (keysP l) k]?=some k then l.set (placeV (keysP l) k) (k,v) else l.take (placeV (keysP l) k)++[(k,v)]++l.drop (placeV (keysP l) k):=by
 obtain⟨A,K⟩:=qd7 (k:=k) J;have C:SortP (l.drop (placeV (keysP l) k)):=(by unfold SortP keysP;rw[xM];exact Rising.drop J _);generalize V:placeV (keysP l) k=i at A K C;have E:l=l.take i++l.drop i:=(xC i l).symm;cases e:l.drop i with
 | nil=>
  have O:l.length<=i:=drop_eq_nil_iff.1 e;rw[if_neg (by rw[yR (by rw[zK];exact O)];simp)];conv=>lhs;rw[E,e]
  rw[qdv A];simp[insP]
 | cons x r=>
  have Q:=K x (by rw[e];simp);have u:i<l.length:=by rcases Nat.lt_or_ge i l.length with h|h;exact h;rw[xZ h] at e;cases e
  have R:l[i]=x:=by
   have:=zX u
   rw[e] at this;exact (List.cons.inj this).1.symm
  have U:l.drop (i+1)=r:=by
   have:=zX u
   rw[e] at this;exact (List.cons.inj this).2.symm
  have G:(keysP l)[i]?=some x.1:=(by rw[zQ,zA u,R];rfl);rw[G];by_cases hk:x.1=k
  ·rw[if_pos (by rw[hk])];conv=>lhs;rw[E,e]
   obtain⟨a,w⟩:=x;dsimp only at hk;subst hk;rw[qvK A,set_eq_take_append_cons_drop,if_pos u,U]
  ·rw[if_neg (fun h=>hk (yN h))];have z:KLt k x.1:=by rcases qhg.1 Q with h|h;exact absurd h hk;exact h
   conv=>lhs;rw[E,e]
   rw[quf A];simp;intro y I;rcases zG.1 I with rfl|I;exact z;rw[e] at C;exact qaB z (qby (x:=x.1) (r:=keysP r) C y.1 (zY I))
theorem qcj(A:SortP l):(keysP l)[placeV (keysP l) k]?=some k↔k∈keysP l:=by
 constructor;exact fun h=>yE h;intro G;obtain⟨I,J⟩:=qd7 (k:=k) A;obtain⟨x,z,rfl⟩:=mem_map.1 G;have u:x∈l.drop (placeV (keysP l) x.1):=by rw[<- xC (placeV (keysP l) x.1) l,zD] at z;rcases z with z|z;exact absurd (I x z) qaD;exact z
 have C:SortP (l.drop (placeV (keysP l) x.1)):=(by unfold SortP keysP;rw[xM];exact Rising.drop A _);cases e:l.drop (placeV (keysP l) x.1) with
 | nil=>rw[e] at u;cases u
 | cons y r=>
  have K:=J y (by rw[e];simp);rw[e] at u C;have O:y.1=x.1:=by rcases zG.1 u with rfl|u;rfl;exact absurd (qby (x:=y.1) (r:=keysP r) C x.1 (zY u)) K
  have E:(l.drop (placeV (keysP l) x.1))[0]?=some y:=(by rw[e];rfl);rw[yZ] at E;rw[zQ,show l[placeV (keysP l) x.1]?=some y by simpa using E,<- O];rfl
theorem qma(z:SortP l)(G:k∈keysP l):cutP k l=l.take (placeV (keysP l) k)++l.drop (placeV (keysP l) k+1):=by
 have u:=(qcj z).2 G;obtain⟨E,I⟩:=qd7 (k:=k) z;generalize placeV (keysP l) k=i at E I u;have h:i<l.length:=by
  have:=(zP.1 u).1
  simpa using this
 have J:l=l.take i++l[i]::l.drop (i+1):=(by rw[<- zX h,xC]);have A:l[i].1=k:=(by rw[zQ,zA h] at u;exact yN u);have C:SortP (l.drop i):=(by unfold SortP keysP;rw[xM];exact Rising.drop z _);rw[zX h] at C;conv=>lhs;rw[J]
 obtain⟨a,w,e⟩:∃a w,l[i]=(a,w):=⟨_,_,rfl⟩;rw[e] at A C⊢;dsimp only at A;subst A;exact qvz E fun y K=>qby (x:=a) (r:=keysP (l.drop (i+1))) C y.1 (zY K)
def shp (t:Int):Int×Int:=
 if t=0 then (16,88) else if t=1 then (16,108) else if t=2 then (16,1) else if t=3 then (16,16)
 else if t=4 then (24,16) else if t=5 then (24,16) else if t=6 then (24,65) else if t=7 then (1,8) else (0,0)
theorem qgr(t:Int):t=0\/t=1\/t=2\/t=3\/t=4\/t=5\/t=6\/t=7\/(t≠0/\t≠1/\t≠2/\t≠3/\t≠4/\t≠5/\t≠6/\t≠7):=by omega
theorem qvn{t:Int}(h:K (shp t) w):cW 102 [.i t] [.one .i,.one .i] w K:=by apply qo0;unfold qlc;rcases qgr t with rfl|rfl|rfl|rfl|rfl|rfl|rfl|rfl|⟨u,y,z,A,C,E,G,I⟩<;>simpa[shp, *] using h
theorem qcO{t:Int}(h:K (shp t) w):cW 39 [.i t] [.one .i,.one .i] w K:=by apply qgM;unfold qds;rcases qgr t with rfl|rfl|rfl|rfl|rfl|rfl|rfl|rfl|⟨u,y,z,A,C,E,G,I⟩<;>simpa[shp, *] using h
def caps (k v:Int):Int×Int:=if k<1\/k>24\/v<0\/v>108 then (0,0) else (498 / (k+v),(498+k) / (4+k))
theorem qwq{k v:Int}(h:∀w',Same w w'->K (caps k v) w'):cW 103 [.i k,.i v] [.one .i,.one .i] w K:=by
 apply qqd;unfold qmz;by_cases hc:k<1\/k>24\/v<0\/v>108;refine qaI true w (fun M u=>?_) ?_;by_cases h1:k<1;simpa[h1] using u;by_cases h2:k>24;simpa[h1,h2] using u;by_cases h3:v<0;simpa[h1,h2,h3] using u;have y:v>108:=oJ;simpa[h1,h2,h3,y] using u
 have:=h w (.refl w)
 simpa[caps,hc] using this;refine qaI false w (fun M u=>?_) ?_;simpa[show ¬k<1 by omega,show ¬k>24 by omega,show ¬v<0 by omega,show ¬v>108 by omega] using u
 have:=h w.drew (Same.refl w).drew
 simp only[caps,hc,if_false] at this;have e1:IntKind.i64.wrap (k+v)=k+v:=IntWalk.i64_in _ oJ;have z:IntKind.i64.wrap (4+k)=4+k:=IntWalk.i64_in _ oJ;have A:IntKind.i64.wrap (498+k)=498+k:=IntWalk.i64_in _ oJ;have G:0<k+v:=oJ;have I:0<4+k:=oJ;have C:(498:Int).tdiv (k+v)=498 / (k+v):=Int.tdiv_eq_ediv_of_nonneg oJ;have E:(498+k).tdiv (4+k)=(498+k) / (4+k):=Int.tdiv_eq_ediv_of_nonneg oJ;have J:498 / (k+v)<=498:=Int.ediv_le_self _ oJ;have O:(498+k) / (4+k)<=498+k:=Int.ediv_le_self _ oJ;have Q:0<=498 / (k+v):=Int.ediv_nonneg oJ oJ;have R:0<=(498+k) / (4+k):=Int.ediv_nonneg oJ oJ;rw[e1,z,A,C,E,IntWalk.i64_in _ ⟨oJ,oJ⟩,IntWalk.i64_in _ ⟨oJ,oJ⟩];exact⟨oJ,oJ,this⟩
abbrev good (t:Int):Prop:=0<=t/\t<=7
end
section
open Go Go.Pt List
open Go.IntKind (wrap)
attribute [local irreducible] ld ldA ldV fld fldA newZ st new idx idxS idxA slc slcS slcP mkS chk nn call callV inv run runQ runU join loop held ext rng undefer s2a nxt ent IntKind.wrap
variable {B F F1 F2 S X:List Nat} {K:Int->WP} {L:List (Nat×Obj)} {T:TypeId} {Z:List Value} {body c l t:List Int} {cs:Array Value} {db:Option Addr} {defb fb mb pb r:Nat} {f:List (Int×Value)} {n q:Int} {s sl sn:Sl} {w w' w0:World}
def needP (n:Nat):Nat:=if n=0 then 0 else (n-1) / 124+1
theorem qpb{n:Nat}(z:n<=1000000)(h:K (needP n) w):cW 82 [.i n] [.one .i] w K:=by
 refine qlt ?_;unfold qg7;apply qaa<;>intro u
 have:=zC u
 have y:n=0:=oJ;subst y;exact h
 have:=zB u
 have y:n≠0:=oJ;rw[needP,if_neg y] at h;rw[wi' ((n:Int)-1) oJ];have e:Int.tdiv ((n:Int)-1) 124=(((n-1) / 124:Nat):Int):=(by rw[Int.tdiv_eq_ediv_of_nonneg oJ];omega);rw[e,wi' (((n-1) / 124:Nat):Int) oJ,wi' ((((n-1) / 124:Nat):Int)+1) oJ];exact h
def risesB:Int->List Int->Bool
 | _,[]=>true
 | a,x::r=>decide (a<x)&&risesB x r
theorem qqx{K:Bool->WP}(h:Rd S w s l)(J:l.length<=1000000)(A:K (risesB 1 l) w): cW 150 [s.v] [.one .bool] w K:=by
 refine qkj ?_;unfold qgf;have G:=h.1;refine qag (fun x w'=>w'=w/\∃i:Nat,x.2=i/\i<=l.length/\risesB x.1 (l.drop i)=risesB 1 l) (fun x _=>((l.length:Int)-x.2).toNat) ⟨rfl,0,rfl,oJ,oL⟩ ?_;rintro⟨a,ii⟩ w' ⟨rfl,i,z,O,y⟩ X I;simp only at z y;subst z;apply qaa<;>intro C;have u:i<l.length:=(by have:=zC C;omega);refine Rd.at h i rfl (zA u) ?_;rw[zX u,risesB] at y;apply qaa<;>intro E
 have:=zC E
 rw[show decide (a<l[i])=false by rw[decide_eq_false_iff_not];omega,Bool.false_and] at y;rw[<- y] at A;exact A
 have:=zB E
 rw[show decide (a<l[i])=true by rw[yM];omega,Bool.true_and] at y;rw[wi' _ oJ];exact I _ _ ⟨rfl,i+1,oL,oJ,y⟩ oN;have u:i=l.length:=(by have:=zB C;omega);subst u;rw[drop_length] at y;rw[<- y] at A;exact A
theorem qwH(n:Int):byteAt n 0=wrap .u8 n:=by
 unfold byteAt;have:Int.fdiv n (2^min (8*0) 32)=n:=by show Int.fdiv n (2^0)=n;simp
 rw[this]
theorem qop{K:Sl->WP}(h:BufB w s l B)(hl:l.length<=1000000)(Q:∀y B' w',BufB w' y (l++be n 4) B'->Fr B w w'->(∀b∈B',b∈B\/w.heap.size<=b)->K y w'): new (.cells #[.b (wrap .u8 (Int.fdiv n (2^24))),.b (wrap .u8 (Int.fdiv n (2^16))),.b (wrap .u8 (Int.fdiv n (2^8))),.b (wrap .u8 n)] 5) w fun r R=> Pt.run [Ty1.one Cell.slice] ((Builtin.append_ #[27,27] 27 #[s.v,.slice (pW r) 4 4]).run prog R) fun y w'=>K y w':=by obtain⟨i5,z,U,A,C⟩:=qmq;refine oB (oE [] w) fun r w1 e1 E V=>?_;have G:be n 4=[byteAt n 3,byteAt n 2,byteAt n 1,byteAt n 0]:=rfl;have aa:=E.size;refine Buf.appSrc (ys:=be n 4) (e:=5) (h.frame0 E) qas oK z U A rfl (.ofSlice _ (e':=5) oK _ 4 4 _ (by rw[qaJ];simp[qal]) (fun j u J=>?_) (fun u O=>?_)) (qal n 4).symm (by rw[C];omega) oJ fun y B' w' g1 g2 g3 _=>?_;rw[Addr.add_mk,qai (V.at (i:=0) rfl),xO];rw[qaJ,G,qwH] at J;rw[List.getElem?_toArray];exact J;rw[qaJ] at O;obtain⟨x,_,rfl⟩:=mem_map.1 O;rfl;refine Q y B' w' g1 ((E.mono (fun i z _=>by cases z)).trans' g2 (fun b I=>.inl I)) (fun b I=>?_);rcases g3 b I with h|h;exact .inl h;exact .inr oJ
theorem qrW{K:Sl->WP}(h:BufB w s l B)(z:l.length<=1000000)(A:∀y B' w',BufB w' y (l++be n 4) B'->Fr B w w'->(∀b∈B',b∈B\/w.heap.size<=b)->K y w'): cW 177 [s.v,.u n] [.one .slice] w K:=by refine qml ?_;unfold qiu;exact qop h z A
theorem qlF{A B:Int}(k:Nat)(C:0<=A:=by omega)(y:A%2^k=0:=by omega)(E:0<=B:=by omega)(h:B<2^k:=by omega)(G:A+B<4294967296:=by omega):bits .or .u32 A B=A+B:=by
 obtain⟨a,rfl⟩:∃a:Nat,A=a:=⟨A.toNat,oJ⟩;obtain⟨b,rfl⟩:∃b:Nat,B=b:=⟨B.toNat,oJ⟩;have z:a%2^k=0:=by have:((a:Int)%((2^k:Nat):Int))=0:=(by rw[Int.natCast_pow];exact y);omega
 have u:b<2^k:=(by have:(b:Int)<((2^k:Nat):Int):=(by rw[Int.natCast_pow];exact h);omega);obtain⟨q,rfl⟩:∃q,a=2^k*q:=⟨a / 2^k,by have:=Nat.div_add_mod a (2^k);omega⟩;show wrap .u32 ((BitVec.ofInt 32 ((2^k*q:Nat):Int)||| BitVec.ofInt 32 (b:Int)).toNat:Nat)=_;rw[BitVec.toNat_or,BitVec.ofInt_natCast,BitVec.ofInt_natCast,BitVec.toNat_ofNat,BitVec.toNat_ofNat,Nat.mod_eq_of_lt (show 2^k*q<2^32 by omega),Nat.mod_eq_of_lt (show b<2^32 by omega),<- Nat.two_pow_add_eq_or_of_lt u];rw[qaQ _];omega
def get4V (a b c d:Int):Int:=bits .or .u32 (bits .or .u32 (bits .or .u32 (wrap .u32 (wrap .u32 a*2^24)) (wrap .u32 (wrap .u32 b*2^16))) (wrap .u32 (wrap .u32 c*2^8))) (wrap .u32 d)
theorem qpP{a b c d:Int}(h:0<=a/\a<256:=by omega)(u:0<=b/\b<256:=by omega)(y:0<=c/\c<256:=by omega)(z:0<=d/\d<256:=by omega):get4V a b c d=((a*256+b)*256+c)*256+d:=by unfold get4V;rw[qaQ a,qaQ b,qaQ c,qaQ d,qaQ (a*2^24),qaQ (b*2^16),qaQ (c*2^8)];rw[qlF (A:=a*2^24) (B:=b*2^16) 24];rw[qlF (B:=c*2^8) 16];rw[qlF (B:=d) 8];omega
theorem qvr(h:0<=n/\n<4294967296):get4V (n / 16777216%256) (n / 65536%256) (n / 256%256) (n%256)=n:=by rw[qpP oJ];omega
def first4 (l:List Int):Int:=get4V (l.getD 0 0) (l.getD 1 0) (l.getD 2 0) (l.getD 3 0)
theorem getD_some{n:Nat}(h:n<l.length):l[n]?=some (l.getD n 0):=by rw[yQ,zA h];rfl
theorem qt7(h:RdB S w s l)(E:4<=l.length)(u:K (first4 l) w): (idx s 0 1 fun a=>ld .b a w fun y=>idx s 1 1 fun a=>ld .b a w fun z=>idx s 2 1 fun a=>ld .b a w fun A=>idx s 3 1 fun a=>ld .b a w fun C=>K (get4V y z A C) w):=by exact RdB.at h 0 rfl (getD_some oJ)<|RdB.at h 1 rfl (getD_some oJ)<|RdB.at h 2 rfl (getD_some oJ)<|RdB.at h 3 rfl (getD_some oJ)<|u
theorem qrV(h:RdB S w s l)(y:4<=l.length)(z:K (first4 l) w.drew):cW 149 [s.v] [.one .u] w K:=by refine qmk ?_;unfold qit;exact qt7 (w:=w.drew) h y z
theorem qqk{A B:Int}(k:Nat)(C:0<=A:=by omega)(y:A%2^k=0:=by omega)(E:0<=B:=by omega)(h:B<2^k:=by omega)(G:A+B<4294967296:=by omega):bits .or .i64 A B=A+B:=by
 obtain⟨a,rfl⟩:∃a:Nat,A=a:=⟨A.toNat,oJ⟩;obtain⟨b,rfl⟩:∃b:Nat,B=b:=⟨B.toNat,oJ⟩;have z:a%2^k=0:=by have:((a:Int)%((2^k:Nat):Int))=0:=(by rw[Int.natCast_pow];exact y);omega
 have u:b<2^k:=(by have:(b:Int)<((2^k:Nat):Int):=(by rw[Int.natCast_pow];exact h);omega);obtain⟨q,rfl⟩:∃q,a=2^k*q:=⟨a / 2^k,by have:=Nat.div_add_mod a (2^k);omega⟩;show wrap .i64 ((BitVec.ofInt 64 ((2^k*q:Nat):Int)||| BitVec.ofInt 64 (b:Int)).toNat:Nat)=_;rw[BitVec.toNat_or,BitVec.ofInt_natCast,BitVec.ofInt_natCast,BitVec.toNat_ofNat,BitVec.toNat_ofNat,Nat.mod_eq_of_lt (show 2^k*q<2^64 by omega),Nat.mod_eq_of_lt (show b<2^64 by omega),<- Nat.two_pow_add_eq_or_of_lt u];rw[wi' _ oJ];omega
def cntV (l:List Int):Int:=l.getD 4 0*256+l.getD 5 0
def numsV (l:List Int) (n:Nat):List Int:=(List.range n).map fun i=>first4 (l.drop (6+4*i))
def parseV (l:List Int):Int×List Int×Int:=
 if l.length<6 then (0,[],2) else
 if first4 l=1\/cntV l>123\/(l.length:Int)≠6+4*cntV l then (0,[],2) else
 if risesB 1 (numsV l (cntV l).toNat) then (first4 l,numsV l (cntV l).toNat,0) else (0,[],2)
theorem qtx{K:Int×Sl×Int->WP}(h:RdB S w s l)(hB:IsB l)(hl:l.length<=100000)(hk:∀s' B w',BufU w' s' (parseV l).2.1 B->Fr [] w w'->(∀b∈B,w.heap.size<=b)->K ((parseV l).1,s',(parseV l).2.2) w'): cW 109 [s.v] [.one .u,.one .slice,.one .i] w K:=by
 refine qkh ?_;unfold qgd;have C:=h.1;have G:∀ {e:Int} {w':World},parseV l=(0,[],e)->Fr [] w w'->K (0,⟨none,0,0⟩,e) w':=by
  intro e w' he hf
  have:=hk ⟨none,0,0⟩ [] w' (by rw[he];exact .nil _ _ _) hf oL
  rw[he] at this;exact this
 apply qaa<;>intro y
 have:=zC y
 exact G (by rw[parseV,iP]) (.refl _ _);have h6:¬l.length<6:=(by have:=zB y;omega);have fd:Fr [] w w.drew:=(Fr.refl _ _).drew;have z:Fr [] w w.drew.drew:=fd.drew;obtain⟨_,b4,o4,ag,aG,ah,T4,aH,O,ai⟩:=Rds.at h 4 (getD_some (l:=l) (n:=4) oJ);obtain⟨_,b5,o5,aj,aI,ak,T5,aJ,Q,al⟩:=Rds.at h 5 (getD_some (l:=l) (n:=5) oJ);have g4:ah[o4+4]?=some (.b (l.getD 4 0)):=(by have:=congrArg (·[0]?) ai;simpa using this);have g5:ak[o5+5]?=some (.b (l.getD 5 0)):=(by have:=congrArg (·[0]?) al;simpa using this);have c4:∀ {w':World},Fr [] w w'->w'.cell? ⟨b4,o4+Int.toNat 4*1,none⟩=some (.b (l.getD 4 0)):=fun f=>by rw[qai (by rw[f.block b4 (qac O) oL];exact O)];exact g4
 have c5:∀ {w':World},Fr [] w w'->w'.cell? ⟨b5,o5+Int.toNat 5*1,none⟩=some (.b (l.getD 5 0)):=fun f=>by rw[qai (by rw[f.block b5 (qac Q) oL];exact Q)];exact g5
 refine qbE ag ⟨oJ,oJ⟩<|qeY (l.getD 4 0) (c4 fd)<|qbE aj ⟨oJ,oJ⟩<|qeY (l.getD 5 0) (c5 fd)<|qrV (w:=w.drew) (S:=S) h oJ<|qan (c5 z) (c4 z) ?_;have r4:0<=l.getD 4 0/\l.getD 4 0<256:=hB _ (yE (getD_some (l:=l) (n:=4) oJ));have r5:0<=l.getD 5 0/\l.getD 5 0<256:=hB _ (yE (getD_some (l:=l) (n:=5) oJ));have R:bits .or .i64 (wrap .i64 (wrap .i64 (l.getD 4 0)*2^8)) (wrap .i64 (l.getD 5 0))=cntV l:=by rw[wi' (l.getD 4 0) oJ,wi' (l.getD 5 0) oJ,wi' (l.getD 4 0*2^8) oJ,qqk 8];rfl
 have aD:0<=cntV l/\cntV l<65536:=(by unfold cntV;omega);rw[R];refine qaf (fun b w'=>b=decide (first4 l=1\/cntV l>123\/(l.length:Int)≠6+4*cntV l)/\w'=w.drew.drew) ?_ ?_;apply qaa<;>intro y;exact⟨by rw[zZ (Or.inl (oP y))],rfl⟩;have am:¬first4 l=1:=(oP y);apply qaa<;>intro I;exact⟨by rw[zZ (Or.inr (Or.inl (zC I)))],rfl⟩;have U:¬cntV l>123:=zB I;refine⟨?_,rfl⟩;rw[wi' (4*cntV l) oJ,wi' (6+4*cntV l) oJ,C];by_cases h3:(l.length:Int)=6+4*cntV l<;>simp[am,U,h3];rintro b w1 ⟨rfl,rfl⟩;refine qaa (fun y=>G (by rw[parseV,if_neg h6,if_pos (zC y)]) z) (fun y=>?_);have J:=zB y;have V:cntV l<=123:=by rcases Int.lt_or_le 123 (cntV l) with h|h;exact absurd (Or.inr (Or.inl h)) J;exact h
 have an:(l.length:Int)=6+4*cntV l:=Classical.byContradiction fun h=>J (Or.inr (Or.inr h));have pv:parseV l=if risesB 1 (numsV l (cntV l).toNat) then (first4 l,numsV l (cntV l).toNat,0) else (0,[],2):=by rw[parseV,if_neg h6,if_neg J]
 obtain⟨n,hn⟩:∃n:Nat,cntV l=n:=⟨(cntV l).toNat,oJ⟩;rw[hn] at V an pv⊢;rw[zJ] at pv;refine qag (fun x w'=>∃(i:Nat) (B:List Nat),x.2=i/\i<=n/\BufU w' x.1 (numsV l i) B/\Fr [] w w'/\∀b∈B,w.heap.size<=b) (fun x _=>((n:Int)-x.2).toNat)
  ⟨0,[],rfl,oJ,.nil _ _ _,z,oL⟩ ?_
 rintro⟨s1,ii⟩ w2 ⟨i,B,aa,hi,E,f2,n2⟩ X hX;simp only at aa E;subst aa;apply qaa<;>intro y;have ab:i<n:=(by have:=zC y;omega);rw[wi' (4*(i:Int)) oJ,wi' (6+4*(i:Int)) oJ];have h2:RdB S w2 s l:=h.frame0 f2;refine Rds.part h2 (6+4*i) l.length oL (by rw[C];rfl) oJ oJ fun s3 l3 r3 _=>?_;rw[xX] at r3;refine qrV r3 (by rw[yB];omega) ?_;have ac:Fr [] w w2.drew:=f2.drew;refine pushU (w:=w2.drew) (B:=B) E (by simp[numsV];omega) fun s4 B4 w4 g1 g2 g3=>?_;rw[wi' _ oJ];have aU:=ac.size;refine hX _ _ ⟨i+1,B4,oL,oJ,?_,ac.trans' g2 (fun b E=>.inr (n2 b E)),fun b E=>?_⟩ oN;have:numsV l (i+1)=numsV l i++[first4 (l.drop (6+4*i))]:=(by simp[numsV,range_succ]);rw[this];exact g1;rcases g3 b E with h|h;exact n2 b h;omega;have ab:i=n:=(by have:=zB y;omega);subst ab;refine qqx (S:=[]) (E.rds qaE oL) (by simp[numsV];omega) ?_;apply qaa<;>intro hr;have A:¬risesB 1 (numsV l i)=true:=(oP hr);exact G (by rw[pv,if_neg A]) f2;have A:risesB 1 (numsV l i)=true:=by simpa using hr
 have:=hk s1 B w2 (by rw[pv,if_pos A];exact E) f2 n2
 rw[pv,if_pos A] at this;exact this
def encS:Sl->List Value:=fun s=>[s.v]
theorem qpD:∀x,(encS x).length=1:=fun _=>rfl
theorem qx5:∃i,prog.info? 27=some i/\i.zero=some (.slice none 0 0)/\i.size=1/\i.bytes=24:=qe6 oK
def Bodies (S:List Nat) (w:World) (s:Sl) (u:List (List Int)) (B:List Nat):Prop:=
 ∃h:List Sl,Buf encS 1 w s h B/\h.length=u.length/\∀(i:Nat) sl l,h[i]?=some sl->u[i]?=some l->RdB (S++B) w sl l
theorem Bodies.nil(S:List Nat)(w:World):Bodies S w ⟨none,0,0⟩ [] []:=⟨[],.nil _ _ _,rfl,fun i sl l h=>by simp at h⟩
theorem Bodies.frame{S S':List Nat}{w w':World}{s:Sl}{A:List (List Int)}{B:List Nat}(h:Bodies S w s A B)(f:Fr S w w')(C:∀b∈B,b∉S)(y:∀b∈S',b∈S\/w.heap.size<=b):Bodies S' w' s A B:=by obtain⟨z,E,G,I⟩:=h;refine⟨z,E.frame f C,G,fun i sl l J K=>(I i sl l J K).frame (f.mono fun b u _=>zH _ u) fun b u=>?_⟩;rcases zD.1 u with u|u;rcases y b u with h|h;exact .inl (zH _ h);exact .inr h;exact .inl (zI _ u)
theorem Bodies.push{S:List Nat}{w:World}{s sl:Sl}{E:List (List Int)}{B:List Nat}{l:List Int}{T:TypeId}{K:Sl->WP}(h:Bodies S w s E B)(U:RdB (S++B) w sl l)(hl:E.length<=1000000)(V:∀C B' w',Bodies S w' C (E++[l]) B'->Fr B w w'->(∀b∈B',b∈B\/w.heap.size<=b)->K C w'): Pt.new (.cells #[sl.v] T) w fun r w1=>Pt.run [Ty1.one Cell.slice] ((Builtin.append_ #[161,161] 161 #[s.v,.slice (pW r) 1 1]).run prog w1) K:=by
 obtain⟨i,hi,hz,G,I⟩:=qx5;obtain⟨A,h1,J,h3⟩:=h;refine Buf.push (e:=27) (x:=sl) h1 qpD (by simp[encS,Value.oneCell']) oK hi hz G rfl rfl (by rw[I];omega) oJ fun C B' w' b' O n'=>V C B' w' ⟨_,b',by simp[J],fun j sj lj y u=>?_⟩ O n';have Q:∀b∈S++B',b∈S++B\/w.heap.size<=b:=fun b z=>by rcases zD.1 z with z|z;exact .inl (zH _ z);rcases n' b z with h|h;exact .inl (zI _ h);exact .inr h
 have R:Fr (S++B) w w':=O.mono fun b z _=>zI _ z;by_cases hjl:j<A.length;rw[yY hjl] at y;rw[yY oJ] at u;exact (h3 j sj lj y u).frame R Q;by_cases hje:j=A.length;subst hje;rw[yX (zM _),Nat.sub_self] at y;rw[J,yX (zM _),Nat.sub_self] at u;simp at y u;subst y u;exact U.frame R Q;rw[yR (by rw[zF];simp;omega)] at y;cases y
def bodyV (next:Int) (c:List Int):List Int:=be next 4++[wrap .u8 (Int.fdiv c.length (2^8)),wrap .u8 c.length]++c.flatMap (be · 4)
def bodiesL (numbers pages:List Int) (k:Nat):List (List Int):=(List.range k).map fun i=>bodyV (pages.getD (i+1) 0) ((numbers.drop (123*i)).take 123)
def bodiesV (numbers pages:List Int):List (List Int)×Int:=
 if risesB 1 numbers=false\/numbers.length>123*pages.length then ([],1) else if ∃p∈pages,p<2 then ([],1) else (bodiesL numbers pages pages.length,0)
theorem qvi{K:Value->WP}(z:∀u y w',Fr [] w w'->(∀S w0 L,Own S w0 w L->Own S w0 w' ((u,.cells #[.i n] 3 (0,0))::(y,.cells #[s.v] 31 (0,0))::L))->K (.func (.func 215) #[] #[.pointer (pW u),.pointer (pW y)]) w'): cW 176 [s.v,.i n] [.one .any] w K:=by refine qki ?_;unfold qge;exact Pt.qjk<|Pt.qjk<|z _ _ _ (((Fr.refl [] w).alloc _).alloc _) fun S w0 L h=>(h.alloc _).alloc _
theorem qdt:∀l:List Int,(l.flatMap (be · 4)).length=l.length*4
 | []=>rfl
 | x::l=>by rw[yG,zF,qal,qdt l,yH];omega
theorem qxp(a b:Int):([a,b]:List Int).length=2:=rfl
theorem qsk{G:List Nat}{sp:Sl}{numbers pages:List Int}{K:Sl×Int->WP}(hn:Rd S w sn numbers)(I:Rd S w sp pages)(bW:numbers.length<=100000)(bX:pages.length<=100000)(hG:∀b∈G,b<w.heap.size)(hk:∀s' B w',Bodies G w' s' (bodiesV numbers pages).1 B->Fr [] w w'->(∀b∈B,w.heap.size<=b)->K (s',(bodiesV numbers pages).2) w'): cW 129 [sn.v,sp.v] [.one .slice,.one .i] w K:=by
 refine qjd ?_;unfold qfo;have bd:=hn.1;have bf:=I.1;have aQ:∀ {w':World},bodiesV numbers pages=([],1)->Fr [] w w'->K (⟨none,0,0⟩,1) w':=by
  intro w' he hf
  have:=hk ⟨none,0,0⟩ [] w' (by rw[he];exact .nil _ _) hf oL
  rw[he] at this;exact this
 refine oB (oE [] w) fun r1 w1 e1 f1 ho=>?_;have bh:Rd S w1 sn numbers:=hn.frame0 ho.fr;have bi:Rd S w1 sp pages:=I.frame0 ho.fr;refine qaf (fun b w'=>b=decide (risesB 1 numbers=false\/numbers.length>123*pages.length)/\w'=w1) ?_ ?_;refine qqx bh oJ ?_;apply qaa<;>intro hc;have hr:risesB 1 numbers=false:=(oP hc);exact⟨by rw[zZ (Or.inl hr)],rfl⟩;have hr:risesB 1 numbers=true:=(oP hc);refine oA ho 0 rfl sp rfl ⟨?_,rfl⟩;rw[wi' (123*(sp.len:Int)) oJ,bd,bf];have e:decide ((numbers.length:Int)>123*(pages.length:Int))=decide (numbers.length>123*pages.length):=by by_cases h:numbers.length>123*pages.length;rw[zZ h,zZ];omega;rw[zU h,zU];omega
 rw[e];by_cases h:numbers.length>123*pages.length<;>simp[hr,h];rintro b w2 ⟨rfl,rfl⟩;refine qaa (fun hc=>aQ (by rw[bodiesV,if_pos (zC hc)]) ho.fr) (fun hc=>?_);have aR:=zB hc;refine oA ho 0 rfl sp rfl<|qag (fun x w'=>w'=w2/\∃i:Nat,x.2.2=i/\i<=pages.length/\∀p∈pages.take i,¬p<2) (fun x _=>((pages.length:Int)-x.2.2).toNat) ⟨rfl,0,rfl,oJ,oL⟩ ?_;rintro⟨sx,ex,ii⟩ w3 ⟨rfl,i,aS,hi,al⟩ X hX;simp only at aS;subst aS;dsimp only;apply qaa<;>intro hc;have am:i<pages.length:=(by have:=zC hc;omega);refine Rd.at bi i rfl (zA am) ?_;apply qaa<;>intro hx;exact aQ (by rw[bodiesV,if_neg aR,if_pos ⟨pages[i],zW am,zC hx⟩]) ho.fr;rw[wi' _ oJ];refine hX _ _ ⟨rfl,i+1,oL,oJ,fun p I=>?_⟩ oN;rw[yF am] at I;rcases zD.1 I with I|I;exact al p I;simp at I;subst I;exact zB hx;have am:i=pages.length:=(by have:=zB hc;omega);subst am;rw[xX] at al;have bm:bodiesV numbers pages=(bodiesL numbers pages pages.length,0):=by rw[bodiesV,if_neg aR,if_neg];rintro⟨p,I,h2⟩;exact al p I h2
 rw[bm] at hk;refine oB ho fun ro w4 eo fo ho=>oA ho 1 rfl sp rfl<|qvi fun V rl w5 f5 aT=>?_;have bn:=aT _ _ _ ho;refine Own.rng (lb:=[.pointer (pW V),.pointer (pW rl)]) bn rfl oK fun Dm l R Bz J E E0 w6 el eD b0 aU hy=>qhZ ?_;unfold qem;refine oA aU 2 rfl sp.len rfl<|qag (fun x w'=>∃(j:Nat) (U so:Sl) (Bo:List Nat),x=j/\j<=pages.length/\Rd [] w U (numbers.drop (123*j))/\Bodies ([l,Dm,V,rl,ro,r1]++G) w' so (bodiesL numbers pages j) Bo/\(∀b∈Bo,w.heap.size<=b/\b∉[l,Dm,V,rl,ro,r1])/\
   Own [] w w' [(l,R),(Dm,.deferred (some [])),(V,.cells #[.i sp.len] 3 (0,0)),(rl,.cells #[U.v] 31 (0,0)),(ro,.cells #[so.v] 161 (0,0)),(r1,.cells #[sp.v] 31 (0,0))]) (fun x _=>((pages.length:Int)-x).toNat)
  ⟨0,sn,⟨none,0,0⟩,[],rfl,oJ,hn.weak (fun b y=>by cases y),.nil _ _,oL,aU⟩ ?_
 rintro x w7 ⟨j,U,so,Bo,rfl,hj,aF,an,ai,Q⟩ X hX;have af:∀b∈Bo,b∉[l,Dm,V,rl,ro,r1]++G:=fun b y A=>by
  rcases zD.1 A with A|A;exact (ai b y).2 A
  have:=hG b A;have:=(ai b y).1;omega
 have bp:=aF.1;rw[yB] at bp;apply qaa<;>intro hc
 ·have b2:j<pages.length:=(by have:=zC hc;omega);refine oA Q 3 rfl U rfl<|oA Q 3 rfl U rfl ?_;obtain⟨m,A,O⟩:∃m:Nat,(if (123:Int)<(U.len:Int) then 123 else (U.len:Int))=m/\m=Nat.min 123 U.len:=(by by_cases h:123<U.len;exact⟨123,by rw[iP];rfl,(xN oJ).symm⟩;exact⟨U.len,by rw[iN],(Nat.min_eq_right oJ).symm⟩);rw[A];have br:m<=123:=(by rw[O];exact Nat.min_le_left _ _);have bN:m<=U.len:=(by rw[O];exact Nat.min_le_right _ _);refine Rds.part aF 0 m rfl rfl oJ (by rw[yB];omega) fun cs bO ax _=>?_;rw[xD] at ax;have ag:(numbers.drop (123*j)).take m=(numbers.drop (123*j)).take 123:=(by by_cases h:123<U.len;rw[O];congr 1;exact xN oJ;have:m=U.len:=(by rw[O];exact Nat.min_eq_right oJ);rw[this,zS (by rw[yB];omega),zS (by rw[yB];omega)]);generalize bs:(numbers.drop (123*j)).take m=chunk at ax ag;have aV:chunk.length=m:=(by rw[<- bs,yK,yB];omega);have aD:cs.len=m:=oJ;refine hy ((j:Int),cs) w7 _ (Q.at (i:=0) rfl) ?_;dsimp only;refine⟨Q.at (i:=0) rfl,?_⟩;have z:=Q.upd (o':=Bz) 0 rfl;have C:=z.rebaseS [];have aW:Rd [] (Pt.upd w7 l Bz) sp pages:=(I.weak (fun b y=>by cases y)).frame0 z.fr;have ao:Bodies ([l,Dm,V,rl,ro,r1]++G) (Pt.upd w7 l Bz) so (bodiesL numbers pages j) Bo:=an.frame ((qbo (qac (Q.at (i:=0) rfl)) Bz).mono fun b y _=>by simp at y;subst y;simp) af (fun b y=>.inl y);have aX:=an.choose_spec.1.lt;refine qaf (fun x w'=>x=pages.getD (j+1) 0/\w'=Pt.upd w7 l Bz) ?_ ?_;refine oA C 5 rfl sp rfl ?_;rw[wi' ((j:Int)+1) oJ];apply qaa<;>intro aG;have h2:j+1<pages.length:=(by have:=zC aG;omega);exact oA C 5 rfl sp rfl<|Rd.at aW (j+1) oJ (getD_some h2)<|⟨rfl,rfl⟩;have h2:¬j+1<pages.length:=(by have:=zB aG;omega);exact⟨by rw[yQ,yR oJ];rfl,rfl⟩;rintro x w8 ⟨rfl,rfl⟩;generalize bt:pages.getD (j+1) 0=next
  have hW:(Pt.upd w7 l Bz).heap.size=w7.heap.size:=qbU _ _ _;generalize b4:Pt.upd w7 l Bz=w8 at z C aW hW ao;have bP:Rd [] w8 cs chunk:=ax.frame0 z.fr;have ah:∀p∈[l,Dm,V,rl,ro,r1],p<w8.heap.size:=fun p I=>by have aj:=fun (k:Nat) (q:Nat×Obj) (hq:_[k]?=some q)=>qac (z.at (i:=k) hq);simp only[zG,xV,or_false] at I;rcases I with rfl|rfl|rfl|rfl|rfl|rfl;exact aj 0 _ rfl;exact aj 1 _ rfl;exact aj 2 _ rfl;exact aj 3 _ rfl;exact aj 4 _ rfl;exact aj 5 _ rfl
  obtain⟨i5,bu,bv,aY,aZ⟩:=qmq;refine qrW (s:=⟨none,0,0⟩) (l:=[]) (B:=[]) (.nil _ _ _) oL fun s9 B9 w9 b9 f9 n9=>?_;rw[xG] at b9;have C:=C.frame0 f9;refine oB C fun r2 b7 b8 a0 C=>?_;have aI:∀b∈B9,w8.heap.size<=b:=fun b y=>by rcases n9 b y with h|h;cases h;exact h
  refine Buf.appSrc (ys:=[wrap .u8 (Int.fdiv chunk.length (2^8)),wrap .u8 chunk.length]) (e:=5) (b9.frame0 a0) qas oK bu bv aY rfl (.ofSlice _ (e':=5) oK _ 2 2 _ (by rw[qaJ];rfl) (fun q u hq=>?_) (fun u hu=>?_)) rfl (by rw[aZ,qal];decide) (by rw[qal];decide) fun b' a1 ca bx bz bA _=>?_;rw[Addr.add_mk,qai (C.at (i:=0) rfl),xO,aD,<- aV];rw[qaJ] at hq;rw[List.getElem?_toArray];exact hq;rw[qaJ] at hu;obtain⟨x,_,rfl⟩:=mem_map.1 hu;rfl;have cb:=f9.size;have bS:=a0.size;have bB:=b9.lt;have C:=(C.sub (sublist_cons_self _ _)).frame bz (fun b y=>.inr (aI b y)) (fun p I y=>by have h1:=ah p.1 (zY (f:=(·.1)) I);have h2:=aI _ y;omega);have a2:∀b∈a1,w8.heap.size<=b:=fun b y=>by rcases bA b y with h|h;exact aI b h;omega
  refine qag (fun x w'=>∃(q:Nat) (Bq:List Nat),x.2=q/\q<=m/\BufB w' x.1 (be next 4++[wrap .u8 (Int.fdiv chunk.length (2^8)),wrap .u8 chunk.length]++(chunk.take q).flatMap (be · 4)) Bq/\(∀b∈Bq,w8.heap.size<=b)/\
    Own ([l,Dm,V,rl,ro,r1]++[]) w8 w' [(l,Bz),(Dm,.deferred (some [])),(V,.cells #[.i sp.len] 3 (0,0)),(rl,.cells #[U.v] 31 (0,0)),(ro,.cells #[so.v] 161 (0,0)),(r1,.cells #[sp.v] 31 (0,0))]) (fun x _=>((m:Int)-x.2).toNat)
   ⟨0,a1,rfl,oJ,by simpa using bx,a2,C⟩ ?_
  rintro⟨bD,qq⟩ aJ ⟨q,Bq,a3,cc,bq,nq,hq⟩ Y hY;simp only at a3 bq;subst a3;dsimp only;rw[aD];apply qaa<;>intro aK
  ·have ap:q<chunk.length:=(by have:=zC aK;omega);have aL:Rd [] aJ cs chunk:=ax.frame0 (z.backS (T:=[]) oL hq.fr);refine Rd.at aL q rfl (zA ap) ?_;have aM:(be next 4++[wrap .u8 (Int.fdiv chunk.length (2^8)),wrap .u8 chunk.length]++(chunk.take q).flatMap (be · 4)).length<=1000000:=(by rw[zF,zF,qal,qdt,yK,qxp];omega);refine qrW bq aM fun a4 ay az aN aO aP=>?_;rw[wi' _ oJ];refine hY _ _ ⟨q+1,ay,oL,oJ,?_,fun b y=>?_,hq.frame aO (fun b y=>.inr (nq b y)) (fun p I y=>?_)⟩ oN;rw[yF ap,yP,flatMap_singleton,<- zV];exact aN;rcases aP b y with h|h;exact nq b h;exact zL hq.fr.size h;have h1:=ah p.1 (zY (f:=(·.1)) I);have h2:=nq _ y;omega
  ·have bE:q=m:=(by have:=zB aK;omega);subst bE;rw[zS oJ] at bq;refine oA hq 4 rfl so rfl ?_;have a5:RdB (([l,Dm,V,rl,ro,r1]++G)++Bo) aJ bD (bodyV next chunk):=bq.rds qas fun b y A=>by
    have h2:=nq _ y;rcases zD.1 A with A|A;rcases zD.1 A with A|A
    have:=ah b A;omega
    have:=hG b A;have:=z.fr.size;omega
    have:=aX b A;omega
   have aA:Bodies ([l,Dm,V,rl,ro,r1]++G) aJ so (bodiesL numbers pages j) Bo:=ao.frame (hq.fr.mono fun b y _=>by rw[xF] at y;exact zH _ y) af (fun b y=>.inl y);refine Bodies.push aA a5 (by rw[bodiesL,zK,length_range];omega) fun a4 ay az aN aO aP=>?_;have aq:=(z.rejoin (T:=[]) oL hq).frame aO (fun b y=>.inr (ai b y).1) (fun p I y=>(ai _ y).2 (zY (f:=(·.1)) I));refine oD aq 4 rfl _ fun ce aq bF=>⟨aq.at (i:=0) rfl,?_⟩;have ap:=aq.upd (o':=R) 0 rfl;refine cond_false rfl<|oA ap 3 rfl U rfl<|Rds.part aF q (numbers.drop (123*j)).length rfl (by rw[yB];show (U.len:Int)=_;omega) (by rw[yB];omega) (zM _) fun cr bU a6 _=>oD ap 3 rfl _ fun bG bH bI=>?_;rw[wi' _ oJ];have ar:∀b∈ay,w.heap.size<=b/\b∉[l,Dm,V,rl,ro,r1]:=fun b y=>by
    rcases aP b y with h|h;exact ai b h;have h1:=hq.fr.size;refine⟨?_,fun A=>?_⟩
    have:=z.fr.size;omega
    have:=ah b A;omega
   have ff:Fr [l,Dm,V,rl,ro,r1] az bG:=
    (bF.mono fun b y _=>by simp at y;subst y;simp).trans' ((qbo (qac (aq.at (i:=0) rfl)) R).mono (T:=[l,Dm,V,rl,ro,r1]) fun b y _=>by simp at y;subst y;simp) (fun b y=>.inl y) |>.trans' (bI.mono (T:=[l,Dm,V,rl,ro,r1]) fun b y _=>by simp at y;subst y;simp) (fun b y=>.inl y)
   have aB:=aN.frame (ff.mono fun b y _=>zH _ y) (fun b y A=>by
    rcases zD.1 A with A|A;exact (ar b y).2 A
    have:=hG b A;have:=(ar b y).1;omega) (fun b y=>.inl y)
   have a7:((numbers.drop (123*j)).take (numbers.drop (123*j)).length).drop q=numbers.drop (123*(j+1)):=(by rw[xX,xB];by_cases h:123<U.len;rw[show q=123 by rw[O];exact xN oJ,Nat.mul_add];have:q=U.len:=(by rw[O];exact Nat.min_eq_right oJ);rw[xZ oJ,xZ oJ]);rw[a7] at a6;have aM:bodiesL numbers pages (j+1)=bodiesL numbers pages j++[bodyV next chunk]:=(by rw[bodiesL,range_succ,xJ,map_singleton,bt,<- ag];rfl);refine hX _ _ ⟨j+1,cr,a4,ay,oL,oJ,a6,by rw[aM];exact aB,ar,bH⟩ oJ
 have bJ:j=pages.length:=(by have:=zB hc;omega);subst bJ;refine .inl ⟨Q.at (i:=0) rfl,?_⟩;have z:=Q.upd (o':=E0) 0 rfl;refine oA z 4 rfl so rfl<|Own.undefer z.rebase 1 rfl fun az hd=>?_;have bK:Bodies ([l,Dm,V,rl,ro,r1]++G) (Pt.upd w7 l E0) so (bodiesL numbers pages pages.length) Bo:=an.frame ((qbo (qac (Q.at (i:=0) rfl)) E0).mono fun b y _=>by simp at y;subst y;simp) af (fun b y=>.inl y);exact hk so Bo az (bK.frame (S':=G) (hd.fr.mono fun b y _=>zH _ y) af (fun b y=>.inl (zI _ y))) (z.back hd.fr) (fun b y=>(ai b y).1)
def supV (q:Int) (t:List Int):List Value:=.int .u64 q::t.map (Value.int .u32)
def superB (q:Int) (t:List Int):List Int:=be (wrap .u32 (Int.fdiv q (2^32))) 4++be (wrap .u32 q) 4++t.flatMap (be · 4)
theorem qcw(h:t.length=27):(superB q t).length=116:=by rw[superB,zF,zF,qal,qal,qdt,h]
theorem qaH(h:t.length=27):(supV q t).length=28:=by simp[supV,h]
theorem qhy(n:Nat)(h:n<t.length:=by omega):(supV q t).toArray[n+1]?=some (.u (t.getD n 0)):=by simp[supV,yQ,zA h]
theorem qip(q:Int)(t:List Int):((supV q t).all Value.oneCell')=true:=by rw[all_eq_true];intro v h;rcases zG.1 h with rfl|h;rfl;obtain⟨x,_,rfl⟩:=mem_map.1 h;rfl
theorem qpu{α:Type}{enc:α->List Value}{k:Nat}{l:List α}(h:Buf enc k w s l B):Buf enc k w.drew s l B:=h
def Apart (w0:World) (L:List (Nat×Obj)) (B:List Nat):Prop:=∀b∈B,w0.heap.size<=b/\b∉L.map (·.1)
theorem Apart.cons{o:Obj}(h:Apart w0 L B)(z:r∉B):Apart w0 ((r,o)::L) B:=fun b u=>⟨(h b u).1,fun y=>by rcases zG.1 y with rfl|y;exact z u;exact (h b u).2 y⟩
theorem Apart.tail{p:Nat×Obj}(h:Apart w0 (p::L) B):Apart w0 L B:=fun b u=>⟨(h b u).1,fun y=>(h b u).2 (zN _ y)⟩
theorem qsH{j:Nat}(h:j+3<=l.length:=by omega):l.drop j=l.getD j 0::l.getD (j+1) 0::l.getD (j+2) 0::l.drop (j+3):=by rw[zX oJ,zX (i:=j+1) oJ,zX (i:=j+1+1) oJ];simp only[yQ];rw[zA (show j<l.length by omega),zA (show j+1<l.length by omega),zA (show j+2<l.length by omega)];rfl
theorem take3{j:Nat}(h:j+3<=l.length):l.take (j+3)=l.take j++[l.getD j 0,l.getD (j+1) 0,l.getD (j+2) 0]:=by rw[take_add,qsH h];rfl
theorem qyg{j:Nat}(h:j+3<=l.length):(l.map (Value.int .u32)).extract j (j+3)=[.u (l.getD j 0),.u (l.getD (j+1) 0),.u (l.getD (j+2) 0)]:=by rw[extract_eq_take_drop,<- xM,qsH h,show j+3-j=3 by omega];rfl
theorem qdc{K:Sl->WP}(A:Own [] w0 w L)(h:BufB w s l B)(C:Apart w0 L B)(I:l.length<=1000000)(J:∀z B' w',Own [] w0 w' L->BufB w' z (l++be n 4) B'->Apart w0 L B'->K z w'): cW 178 [s.v,.u n] [.one .slice] w K:=by
 refine qqK ?_;unfold qm2;refine qop h I fun z B' w' O Q n'=>J z B' w' (A.frame Q (fun b y=>.inr (C b y).1) (fun p E y=>(C _ y).2 (zY E))) O fun b y=>?_;rcases n' b y with G|G;exact C b G;refine⟨zL A.fr.size G,fun R=>?_⟩;obtain⟨p,E,rfl⟩:=mem_map.1 R
 have:=qac (A.blk p E)
 omega
theorem qtI{K:Sl->WP}(hv:Hv w)(E:t.length=27)(hk:∀b T w',w'.heap[b]?=some (.cells (bytesA (sealV (wrap .u32 (Int.tmod q 2)) 1 (superB q t))) T (0,0))->Fr [] w w'->w.heap.size<=b->K ⟨pW b,512,512⟩ w'): cW 130 [.agg (supV q t).toArray] [.one .slice] w K:=by
 refine qnE ?_;unfold qjK;refine oB (oE [] w) fun r1 w1 e1 f1 y=>?_;have Q:(supV q t).toArray[0]?=some (.int .u64 q):=rfl;have C:=fun n (h:n<27)=>qhy (q:=q) (t:=t) n;refine oA y.drew 0 rfl q Q<|oA y.drew 0 rfl q Q<|qdc (s:=⟨none,0,0⟩) (l:=[]) (B:=[]) y.drew (.nil _ _ _) (fun b z=>by cases z) oL fun s5 B5 w6 y R G=>qaj (y.cell (off:=0) 0 rfl Q)<|qdc y R G (by simp[qal]) fun s8 B8 w9 y b8 n8=>oA y.drew 0 rfl (t.getD 0 0) (C 0 oM)<|oA y.drew 0 rfl (t.getD 1 0) (C 1 oM)<|oA y.drew 0 rfl (t.getD 2 0) (C 2 oM)<|qdc y.drew (qpu b8) n8 (by simp[qal]) fun aw ax ay y U V=>qan (y.cell (off:=3) 0 rfl (C 2 oM)) (y.cell (off:=2) 0 rfl (C 1 oM))<|qdc y U V (by simp[qal]) fun az aA aB y aa ab=>qaj (y.cell (off:=3) 0 rfl (C 2 oM))<|qdc y aa ab (by simp[qal]) fun aC ac aD y I ad=>?_;have hr:((supV q t).toArray.toList.drop 4).take 24=(t.drop 3).map (Value.int .u32):=by show (List.drop 3 (t.map (Value.int .u32))).take 24=_;rw[xM,zS (by rw[yB,zK,E];decide)]
 refine qa0 (y.at (i:=0) rfl) ((t.drop 3).map (Value.int .u32)) (by rw[zK,yB,E]) hr ?_;have ae:(t.drop 3).length=24:=(by rw[yB,E]);have af:t=[t.getD 0 0,t.getD 1 0,t.getD 2 0]++t.drop 3:=by
  have:=qsH (l:=t) (j:=0) oJ
  rw[xD] at this;exact this
 have base:[]++be (wrap .u32 (Int.fdiv q (2^32))) 4++be (wrap .u32 q) 4++be (t.getD 0 0) 4++be (t.getD 1 0) 4++be (t.getD 2 0) 4=be (wrap .u32 (Int.fdiv q (2^32))) 4++be (wrap .u32 q) 4++[t.getD 0 0,t.getD 1 0,t.getD 2 0].flatMap (be · 4):=oL;rw[base] at I;refine qag (fun x w'=>∃(i:Nat) (B:List Nat),x.2=i/\i<=8/\BufB w' x.1 (be (wrap .u32 (Int.fdiv q (2^32))) 4++be (wrap .u32 q) 4++[t.getD 0 0,t.getD 1 0,t.getD 2 0].flatMap (be · 4)++((t.drop 3).take (3*i)).flatMap (be · 4)) B/\Own [] w w' [(r1,.cells (supV q t).toArray 92 (0,0))]/\Apart w [(r1,.cells (supV q t).toArray 92 (0,0))] B) (fun x _=>(8-x.2).toNat)
  ⟨0,ac,rfl,oJ,by simpa using I,y,ad⟩ ?_
 rintro⟨s,ii⟩ w2 ⟨i,B,J,aF,A,y,nb⟩ X hX;simp only at J A;subst J;dsimp only;have ai:(be (wrap .u32 (Int.fdiv q (2^32))) 4++be (wrap .u32 q) 4++[t.getD 0 0,t.getD 1 0,t.getD 2 0].flatMap (be · 4)++((t.drop 3).take (3*i)).flatMap (be · 4)).length<=200:=by rw[zF,zF,zF,qal,qal,qdt,qdt,yK,ae];show 4+4+3*4+_<=200;omega
 apply qaa<;>intro hc;have hi:i<8:=(by have:=zC hc;omega);refine qaP ⟨oJ,oJ⟩ ?_;have h3:3*i+3<=(t.drop 3).length:=oJ;refine qwN ((t.drop 3).getD (3*i) 0,(t.drop 3).getD (3*i+1) 0,(t.drop 3).getD (3*i+2) 0) ?_ ?_
 have:=qyg h3
 rw[show Int.toNat (i:Int)*3=3*i by simp;omega];exact this;refine oB y fun r2 w3 e3 f3 u=>oD u 0 rfl _ fun w4 u f4=>?_;have ah:=A.lt;have O:r2∉B:=fun z=>by have:=ah _ z;omega
 have A:=(A.frame0 f3).frame f4 (fun b z hm=>by simp only[zE] at hm;subst hm;exact O z);refine oA u.drew 0 rfl ((t.drop 3).getD (3*i) 0) rfl<|oA u.drew 0 rfl ((t.drop 3).getD (3*i+1) 0) rfl<|oA u.drew 0 rfl ((t.drop 3).getD (3*i+2) 0) rfl<|qdc u.drew (qpu A) (nb.cons O) oJ fun s5 B5 w5 u R G=>qan (u.cell (off:=2) 0 rfl rfl) (u.cell (off:=1) 0 rfl rfl)<|qdc u R G (by rw[zF,qal];omega) fun s6 B6 w6 u b6 n6=>qaj (u.cell (off:=2) 0 rfl rfl)<|qdc u b6 n6 (by rw[zF,zF,qal,qal];omega) fun s7 B7 w7 u b7 n7=>?_;rw[wi' _ oJ];refine hX _ _ ⟨i+1,B7,oL,oJ,?_,u.sub (sublist_cons_self _ _),n7.tail⟩ oN;rw[show 3*(i+1)=3*i+3 by omega,take3 h3,yP];have e:([(t.drop 3).getD (3*i) 0,(t.drop 3).getD (3*i+1) 0,(t.drop 3).getD (3*i+2) 0]:List Int).flatMap (be · 4)=be ((t.drop 3).getD (3*i) 0) 4++be ((t.drop 3).getD (3*i+1) 0) 4++be ((t.drop 3).getD (3*i+2) 0) 4:=oL;rw[e];simpa only[zV] using b7;obtain rfl:i=8:=by have:=zB hc;omega
 rw[zS oJ,zV,<- yP,<- af] at A;refine oA y 0 rfl q Q ?_;have z:=A.rds (S:=[]) qas oL;refine qnz z (hv.frame0 y.fr) (by show (superB q t).length<=_;rw[qcw E];decide) (fun h=>?_) fun _ b T w5 h5 f5 G=>?_;have h':500<(superB q t).length:=h;rw[qcw E] at h';exact absurd h' oM;exact hk b T w5 h5 (y.fr.trans' f5 oL) (zL y.fr.size G)
theorem qc2(E:Own [] w0 w L)(i:Nat)(hi:L[i]?=some (r,.cells #[s.v] 27 (0,0)))(h:RdB [] w0 s l)(G:4<=l.length)(I:∀z w',RdB [] w0 z (l.drop 4)->Own [] w0 w' (L.set i (r,.cells #[z.v] 27 (0,0)))->K (first4 l) w'): callV prog (.func (.func 221) #[] #[.pointer (pW r)]) [] [.one .u] w K:=by refine qbc (lb:=[.pointer (pW r)]) rfl oK<|qks ?_;unfold qgy;have y:=E.drew;have A:RdB [] w.drew s l:=h.frame0 y.fr;exact oA y i hi s rfl<|RdB.at A 0 rfl (getD_some oJ)<|oA y i hi s rfl<|RdB.at A 1 rfl (getD_some oJ)<|oA y i hi s rfl<|RdB.at A 2 rfl (getD_some oJ)<|oA y i hi s rfl<|RdB.at A 3 rfl (getD_some oJ)<|oA y i hi s rfl<|Rds.drop h 4 rfl G oJ fun z J=>oH y i hi _ rfl rfl rfl fun w' C _=>I z w' J C
def parseQ (l:List Int):Int:=bits .or .u64 (wrap .u64 (wrap .u64 (first4 l)*2^32)) (wrap .u64 (first4 (l.drop 4)))
def parseT (l:List Int):List Int:=(List.range 27).map fun i=>first4 (l.drop (8+4*i))
theorem qaT(l:List Int):(parseT l).length=27:=by simp[parseT]
def supN (q:Int) (f:Nat->Int) (n:Nat):Array Value:=(supV q ((List.range n).map f++zs (27-n))).toArray
theorem qmZ{x y:Int}{A Z:List Int}:splice (supV q (A++x::Z)).toArray (A.length+1) [.u y]=(supV q (A++y::Z)).toArray:=by
 apply Array.ext'
 have:=qfC (.int .u64 q::A.map (Value.int .u32)) [Value.int .u32 x] [Value.int .u32 y] (Z.map (Value.int .u32)) rfl
 rw[qar _ _ _ (by simp[supV])];simpa[supV] using this
theorem qde{f:Nat->Int}{n:Nat}(h:n<27:=by decide):splice (supN q f n) (n+1) [.u (f n)]=supN q f (n+1):=by
 have z:zs (27-n)=0::zs (27-(n+1)):=by rw[show 27-n=(27-(n+1))+1 by omega];rfl
 have:=qmZ (q:=q) (x:=0) (y:=f n) (A:=(List.range n).map f) (Z:=zs (27-(n+1)))
 rw[zK,length_range] at this;rw[supN,z,this,supN,range_succ,xJ,zV];rfl
theorem quZ{q':Int}{f:Nat->Int}{n:Nat}:splice (supN q f n) 0 [.int .u64 q']=supN q' f n:=by apply Array.ext';rw[qar _ _ _ (by simp[supN,supV])];simp[supN,supV]
theorem qdd{f:Nat->Int}{n:Nat}(h:n<=27:=by decide):(supN q f n).size=28:=by simp[supN,supV,qaK];omega
theorem quY{f:Nat->Int}:supN q f 27=(supV q ((List.range 27).map f)).toArray:=by show (supV q ((List.range 27).map f++[])).toArray=_;rw[xF]
theorem qtF{K:List Value->WP}(h:RdB S w s l)(hl:l.length=116)(hk:∀w',Fr [] w w'->K (supV (parseQ l) (parseT l)) w'): cW 191 [s.v] [.raw] w K:=by
 refine qnF ?_;unfold qjL;have h0:RdB [] w s l:=h.weak oL;have I:((prog.info? 92).bind (·.zero)).map (fun z=>z.cells.toList)=some (supV 0 (zs 27)):=oK;refine oB (oE [] w) fun r1 w1 e1 f1 u=>oI u I fun r3 w2 e3 u=>oI u I fun A w3 e5 u=>qc2 u 2 rfl h0 oJ fun s1 w4 h1 u=>?_;have C:∀(q:Int),(supV q (zs 27)).toArray=supN q (fun i=>first4 (l.drop (8+4*i))) 0:=fun q=>rfl;refine oG u 0 rfl (supN (wrap .u64 (wrap .u64 (first4 l)*2^32)) (fun i=>first4 (l.drop (8+4*i))) 0) ?_ rfl ?_ fun w5 u _=>?_;rw[C 0];exact quZ;exact zO rfl;refine oA u.drew 0 rfl (wrap .u64 (wrap .u64 (first4 l)*2^32)) rfl<|qc2 u.drew 2 rfl h1 (by rw[yB];omega) fun s2 w6 J u=>qaj (u.cell (off:=0) 0 rfl rfl)<|oG u 0 rfl (supN (parseQ l) (fun i=>first4 (l.drop (8+4*i))) 0) quZ rfl (zO rfl) fun w7 u _=>?_;rw[xB] at J;refine qc2 u 2 rfl J (by rw[yB];omega) fun s3 w8 O u=>oG u 0 rfl (supN (parseQ l) (fun i=>first4 (l.drop (8+4*i))) 1) (qde oM) rfl (by show 1+1<=_;rw[qdd oM];decide) fun w9 u _=>?_;rw[xB] at O;refine qc2 u 2 rfl O (by rw[yB];omega) fun s4 af Q u=>oG u 0 rfl (supN (parseQ l) (fun i=>first4 (l.drop (8+4*i))) 2) (qde oM) rfl (by show 2+1<=_;rw[qdd oM];decide) fun ag u _=>?_;rw[xB] at Q;refine qc2 u 2 rfl Q (by rw[yB];omega) fun s5 ai R u=>oG u 0 rfl (supN (parseQ l) (fun i=>first4 (l.drop (8+4*i))) 3) (qde oM) rfl (by show 3+1<=_;rw[qdd oM];decide) fun aj u _=>?_;rw[xB] at R;refine qag (fun x w'=>∃(i:Nat) (E:Sl),x=i/\i<=8/\RdB [] w E (l.drop (20+12*i))/\
   Own [] w w' [(A,.cells (supN (parseQ l) (fun i=>first4 (l.drop (8+4*i))) (3+3*i)) 92 (0,0)),(r3,.cells (supV 0 (zs 27)).toArray 92 (0,0)),(r1,.cells #[E.v] 27 (0,0))]) (fun x _=>(8-x).toNat)
  ⟨0,s5,rfl,oJ,R,u⟩ ?_
 rintro x ak ⟨i,E,rfl,al,hx,u⟩ X hX;apply qaa<;>intro G;have hi:i<8:=(by have:=zC G;omega);refine qaP ⟨oJ,oJ⟩ ?_;simp only[Addr.add_mk];have ao:Int.toNat (i:Int)=i:=oJ;refine qc2 u 2 rfl hx (by rw[yB];omega) fun s6 y U u=>?_;show Pt.st ⟨A,4+Int.toNat (i:Int)*3+0,none⟩ _ _ _;refine oG u 0 rfl (supN (parseQ l) (fun i=>first4 (l.drop (8+4*i))) (3+3*i+1)) ?_ rfl ?_ fun ap u _=>?_;rw[show 20+12*i=8+4*(3+3*i) by omega,show 4+Int.toNat (i:Int)*3+0=(3+3*i)+1 by omega];exact qde (f:=fun i=>first4 (l.drop (8+4*i))) oJ;rw[qdd oJ];show _+1<=28;omega;rw[xB] at U;refine qc2 u 2 rfl U (by rw[yB];omega) fun s7 aq V u=>?_;show Pt.st ⟨A,0+4+Int.toNat (i:Int)*3+1,none⟩ _ _ _;refine oG u 0 rfl (supN (parseQ l) (fun i=>first4 (l.drop (8+4*i))) (3+3*i+2)) ?_ rfl ?_ fun ar u _=>?_;rw[show 20+12*i+4=8+4*(3+3*i+1) by omega];show splice _ (0+4+Int.toNat (i:Int)*3+1) _=_;rw[show 0+4+Int.toNat (i:Int)*3+1=(3+3*i+1)+1 by omega];exact qde (f:=fun i=>first4 (l.drop (8+4*i))) oJ;rw[qdd oJ];show 0+4+Int.toNat (i:Int)*3+1+1<=28;omega;rw[xB] at V;refine qc2 u 2 rfl V (by rw[yB];omega) fun s8 av h8 u=>?_;show Pt.st ⟨A,0+4+Int.toNat (i:Int)*3+2,none⟩ _ _ _;refine oG u 0 rfl (supN (parseQ l) (fun i=>first4 (l.drop (8+4*i))) (3+3*i+3)) ?_ rfl ?_ fun aw u _=>?_;rw[show 20+12*i+4+4=8+4*(3+3*i+2) by omega];show splice _ (0+4+Int.toNat (i:Int)*3+2) _=_;rw[show 0+4+Int.toNat (i:Int)*3+2=(3+3*i+2)+1 by omega];exact qde (f:=fun i=>first4 (l.drop (8+4*i))) oJ;rw[qdd oJ];show 0+4+Int.toNat (i:Int)*3+2+1<=28;omega;rw[xB] at h8;rw[wi' _ oJ];refine hX _ _ ⟨i+1,s8,oL,oJ,?_,?_⟩ oJ;rw[show 20+12*(i+1)=20+12*i+4+4+4 by omega];exact h8;rw[show 3+3*(i+1)=3+3*i+3 by omega];exact u;obtain rfl:i=8:=by have:=zB G;omega
 rw[show 3+3*8=27 from rfl,quY] at u;refine qa0 (u.at (i:=0) rfl) (supV (parseQ l) (parseT l)) (qaH (qaT l)) (by rw[xD];exact zS (Nat.le_of_eq (qaH (qaT l))))<|qaP (qaH (qaT l))<|oG u 1 rfl (supV (parseQ l) (parseT l)).toArray ?_ (qip _ _) ?_ fun y u _=>?_;apply Array.ext';rw[qar _ _ _ (by rw[qaH (qaT l)];decide),qaH (qaT l),take_zero,xG,drop_of_length_le oM,xF];rw[qaH (qaT l)];decide;exact qa0 (u.at (i:=1) rfl) (supV (parseQ l) (parseT l)) (qaH (qaT l)) (by rw[xD];exact zS (Nat.le_of_eq (qaH (qaT l))))<|hk y u.fr
theorem qfE:((prog.info? 92).bind (·.zero)).map (fun z=>z.cells.toList)=some (supV 0 (zs 27)):=by kernel_rfl
theorem qtj{P:Program}{t:TypeId}{z:Value}{offs:Array (Nat×Nat)}(u:(P.info? t).bind (·.zero)=some z)(y:P.underlying t=some (.struct (fieldsOf P t)))(h:∀w,((fieldsOf P t).mapM fun f=>do pure (f.offset,<- sizeOf f.type):Sem (Array (Nat×Nat))).run P w=.ok offs w)(w:World): (Instr.build t #[]).run P w=.ok (.agg z.cells) w:=by simp only[Instr.build,Sem.run_bind,qaO u,Result.andThen_ok,run_underlying y,h,Instr.fill,Sem.run_pure]
theorem qfe{K:List Value->Prop}(k:K (supV 0 (zs 27))):runQ [Ty1.raw] (fun w'=>(Instr.build 92 #[]).run prog w') w K:=by
 obtain⟨z,u,h⟩:=yS.1 qfE;refine qaN (ts:=[Ty1.raw]) (supV 0 (zs 27)) ?_ k
 have:=qtj (P:=prog) (t:=92) (offs:=#[(0,1),(1,1),(2,1),(3,1),(4,24)]) u oK (fun w=>oK) w
 rw[this];show Result.ok (Value.agg z.cells) w=.ok (Value.agg (supV 0 (zs 27)).toArray) w;rw[<- h]
theorem qcv{vs:List Value}(h:vs.length=cs.size:=by omega):splice cs 0 vs=vs.toArray:=by apply Array.ext';rw[qar _ _ _ oJ,take_zero,xG,drop_of_length_le (by rw[Array.length_toList];omega),xF]
theorem qgx(h:t.length=27):(supV q t).toArray.size=28:=by rw[size_toArray];exact qaH h
theorem qeX{u:Nat×Nat}{K:List Value->Prop}(y:w.heap[r]?=some (.cells (supV q t).toArray T u))(h:t.length=27)(k:K (supV q t)):ldV 28 ⟨r,0,none⟩ w K:=
 qa0 y (supV q t) (qaH h) (by rw[xD,zS (Nat.le_of_eq (qaH h))]) k
theorem qhp{A:Int}{y:List Int}{K:WP}(C:Own [] w0 w L)(i:Nat)(hi:L[i]?=some (r,.cells (supV A y).toArray T (0,0)))(z:y.length=27)(h:t.length=27)(E:∀w',Own [] w0 w' (L.set i (r,.cells (supV q t).toArray T (0,0)))->K w'):chk ((supV q t).length=28) (st ⟨r,0,none⟩ (supV q t) w K):=by refine qaP (qaH h)<|oG C i hi (supV q t).toArray (qcv (by rw[qgx z,qaH h])) (qip _ _) (by rw[qgx z,qaH h];decide) fun w' u _=>E w' u
theorem qcE{C:Int}{z:List Int}{K:List Value->WP}(E:Own [] w0 w L)(i:Nat)(hi:L[i]?=some (r,.cells (supV C z).toArray T (0,0)))(G:z.length=27)(A:t.length=27)(I:∀w',Fr [] w0 w'->K (supV q t) w'):chk ((supV q t).length=28) (st ⟨r,0,none⟩ (supV q t) w fun w'=>ldV 28 ⟨r,0,none⟩ w' fun vs=>K vs w'):=by
 refine qhp E i hi G A fun w' u=>?_;have y:i<L.length:=by rcases Nat.lt_or_ge i L.length with h|h;exact h;rw[yR h] at hi;cases hi
 exact qeX (u.at (i:=i) (by rw[List.getElem?_set_self y])) A (I w' u.fr)
abbrev Sup:=Int×List Int
def supZero:Sup:=(0,zs 27)
def readSV (place:Int) (l:List Int):Sup×Int:=
 if (openV place l).2.2≠0 then (supZero,(openV place l).2.2)
 else if (openV place l).1≠1\/(openV place l).2.1.length≠116 then (supZero,2)
 else if Int.tmod (parseQ (openV place l).2.1) 2≠place then (supZero,2)
 else ((parseQ (openV place l).2.1,parseT (openV place l).2.1),0)
theorem qbT(place:Int)(l:List Int):(readSV place l).1.2.length=27:=by unfold readSV;split<;>(try rfl);split<;>(try rfl);split<;>rfl
def newestV (a b:List Int):Sup×Int:=
 if (readSV 0 a).2≠0/\(readSV 1 b).2≠0 then (supZero,5)
 else if (readSV 0 a).2≠0\/((readSV 1 b).2=0/\(readSV 1 b).1.1>(readSV 0 a).1.1) then ((readSV 1 b).1,0)
 else ((readSV 0 a).1,0)
theorem qkQ(a b:List Int):(newestV a b).1.2.length=27:=by unfold newestV;split<;>(try rfl);split<;>exact qbT _ _
theorem qpl{place:Int}{K:List Value×Int->WP}(h:RdB S w s l)(hv:Hv w)(hB:IsB l)(hl:l.length<=100000)(I:place=0\/place=1)(hk:∀w',Fr [] w w'->K (supV (readSV place l).1.1 (readSV place l).1.2,(readSV place l).2) w'): cW 148 [.i place,s.v] [.raw,.one .i] w K:=by
 refine qoZ ?_;unfold qk8;refine oI (oE [] w) qfE fun r1 w1 e1 u=>?_;have J:wrap .u32 place=place:=by rcases I with rfl|rfl<;>kernel_rfl
 have O:wrap .u64 place=place:=by rcases I with rfl|rfl<;>kernel_rfl
 rw[J,O];refine qaf (fun b w'=>b=false/\w'=w1) ?_ ?_;rcases I with rfl|rfl;exact cond_false rfl ⟨rfl,rfl⟩;exact cond_true rfl ⟨rfl,rfl⟩;rintro b w2 ⟨rfl,rfl⟩;refine cond_false rfl ?_;have z:∀ {e:Int} {w':World},readSV place l=(supZero,e)->Fr [] w w'->K (supV 0 (zs 27),e) w':=by
  intro e w' A hf
  have:=hk w' hf
  rw[A] at this;exact this
 refine qnu (h.frame0 u.fr) (hv.frame0 u.fr) hB hl fun s3 B3 w3 b3 f3 n3=>?_;have u:=u.frame0 f3;apply qaa<;>intro y;have A:(openV place l).2.2≠0:=(oP y);exact qfe<|qcE u 0 rfl rfl rfl fun w4 f4=>z (by rw[readSV,if_pos A]) f4;have A:¬(openV place l).2.2≠0:=(oP y);refine qaf (fun b w'=>b=decide ((openV place l).1≠1\/(openV place l).2.1.length≠116)/\w'=w3) ?_ ?_;apply qaa<;>intro y;have G:(openV place l).1≠1:=(oP y);exact⟨by simp[G],rfl⟩;have G:(openV place l).1=1:=(oP y);have Q:s3.len=(openV place l).2.1.length:=b3.len;refine⟨?_,rfl⟩;dsimp only;rw[Q];by_cases hx:(openV place l).2.1.length=116;rw[hx];simp[G];have:¬(((openV place l).2.1.length:Int)=116):=oJ;simp[G,hx,this];rintro b w4 ⟨rfl,rfl⟩;apply qaa<;>intro y;exact qfe<|qcE u 0 rfl rfl rfl fun w5 R=>z (by rw[readSV,if_neg A,if_pos (zC y)]) R;have C:=zB y;have E:(openV place l).2.1.length=116:=by rcases Nat.decEq (openV place l).2.1.length 116 with h|h;exact absurd (Or.inr h) C;exact h
 have U:=b3.rds (S:=[]) qas oL;refine qtF U E fun w5 R=>?_;have u:=u.frame0 R;refine oI u qfE fun r6 w6 e6 u=>qhp u 0 rfl rfl (qaT _) fun w7 u=>oA u 0 rfl (parseQ (openV place l).2.1) rfl ?_;apply qaa<;>intro y;have V:Int.tmod (parseQ (openV place l).2.1) 2≠place:=(oP y);exact qfe<|qcE u 1 rfl rfl rfl fun w8 f8=>z (by rw[readSV,if_neg A,if_neg C,if_pos V]) f8;have V:¬Int.tmod (parseQ (openV place l).2.1) 2≠place:=(oP y);refine qeX (u.at (i:=0) rfl) (qaT _)<|qcE u 1 rfl rfl (qaT _) fun w8 f8=>?_
 have:=hk w8 f8
 rw[readSV,if_neg A,if_neg C,if_neg V] at this;exact this
theorem qss{Q sb:Sl}{a b:List Int}{K:List Value×Int->WP}(ha:RdB S w Q a)(hb:RdB S w sb b)(R:Hv w)(E:IsB a)(G:IsB b)(I:a.length<=100000)(J:b.length<=100000)(O:∀w',Fr [] w w'->K (supV (newestV a b).1.1 (newestV a b).1.2,(newestV a b).2) w'): cW 108 [Q.v,sb.v] [.raw,.one .i] w K:=by
 refine qm1 ?_;unfold qiG;refine oI (oE [] w) qfE fun r1 w1 e1 h=>qpl (ha.frame0 h.fr) (R.frame0 h.fr) E I (.inl rfl) fun w2 f2=>?_;have h:=h.frame0 f2;refine oI h qfE fun r3 w3 e3 h=>qhp h 0 rfl rfl (qbT _ _) fun w4 h=>qpl (hb.frame0 h.fr) (R.frame0 h.fr) G J (.inr rfl) fun w5 f5=>?_;have h:=h.frame0 f5;refine oI h qfE fun r6 w6 e6 h=>qhp h 0 rfl rfl (qbT _ _) fun w7 h=>qaf (fun c w'=>c=decide ((readSV 0 a).2≠0/\(readSV 1 b).2≠0)/\w'=w7) ?_ ?_;apply qaa<;>intro u;have y:(readSV 0 a).2≠0:=(oP u);refine⟨?_,rfl⟩;by_cases C:(readSV 1 b).2=0<;>simp[y,C];have y:(readSV 0 a).2=0:=(oP u);exact⟨by simp[y],rfl⟩;rintro c w8 ⟨rfl,rfl⟩;apply qaa<;>intro u;refine qfe<|qcE h 2 rfl rfl rfl fun U f9=>?_
 have:=O U f9
 rw[newestV,if_pos (zC u)] at this;exact this;have V:=zB u;refine qaf (fun c w'=>c=decide ((readSV 0 a).2≠0\/((readSV 1 b).2=0/\(readSV 1 b).1.1>(readSV 0 a).1.1))/\w'=w8) ?_ ?_;apply qaa<;>intro u;have y:(readSV 0 a).2≠0:=(oP u);exact⟨by simp[y],rfl⟩;have y:(readSV 0 a).2=0:=(oP u);apply qaa<;>intro u;have C:(readSV 1 b).2=0:=(oP u);refine oA h 0 rfl (readSV 1 b).1.1 rfl<|oA h 1 rfl (readSV 0 a).1.1 rfl<|⟨?_,rfl⟩;by_cases h3:(readSV 1 b).1.1>(readSV 0 a).1.1<;>simp[y,C,h3];have C:(readSV 1 b).2≠0:=(oP u);exact⟨by simp[y,C],rfl⟩;rintro c U ⟨rfl,rfl⟩;apply qaa<;>intro u;refine qeX (h.at (i:=0) rfl) (qbT _ _)<|qcE h 2 rfl rfl (qbT _ _) fun z A=>?_
 have:=O z A
 rw[newestV,if_neg V,if_pos (zC u)] at this;exact this;refine qeX (h.at (i:=1) rfl) (qbT _ _)<|qcE h 2 rfl rfl (qbT _ _) fun z A=>?_
 have:=O z A
 rw[newestV,if_neg V,if_neg (zB u)] at this;exact this
abbrev PGT:TypeId:=98
abbrev MLT:TypeId:=94
def look {β:Type} (n:Int):List (Int×β)->Option (Nat×β)
 | []=>none
 | p::r=>if n=p.1 then some (0,p.2) else (look n r).map fun q=>(q.1+1,q.2)
def setL {β:Type} (n:Int) (v:β) (l:List (Int×β)):List (Int×β):=match look n l with|some q=>l.set q.1 (n,v)|none=>l++[(n,v)]
def delL {β:Type} (n:Int) (l:List (Int×β)):List (Int×β):=match look n l with|some q=>l.eraseIdx q.1|none=>l
theorem qci{β γ:Type}(g:β->γ)(n:Int):∀l:List (Int×β),look n (l.map fun e=>(e.1,g e.2))=(look n l).map fun q=>(q.1,g q.2)
 | []=>rfl
 | p::r=>by simp only[xK,look];by_cases h:n=p.1;simp[h];rw[if_neg h,if_neg h,qci g n r];cases look n r<;>rfl
theorem qbS(n:Int):∀l:List (Int×Value),posOf n l=look n l
 | []=>rfl
 | p::r=>by simp only[posOf,look,qbS n r]
theorem qa1{β:Type}{n:Int}:∀ {l:List (Int×β)} {q:Nat×β},look n l=some q->l[q.1]?=some (n,q.2)/\(n,q.2)∈l
 | p::r,q,h=>by simp only[look] at h;by_cases hp:n=p.1;rw[if_pos hp] at h;cases h;subst hp;exact⟨rfl,oL⟩;rw[if_neg hp] at h;obtain⟨x,u,rfl⟩:=yS.1 h;obtain⟨y,z⟩:=qa1 u;exact⟨by simpa using y,zN _ z⟩
theorem qbh{β:Type}{n:Int}:∀ {l:List (Int×β)},look n l=none↔n∉l.map (·.1)
 | []=>by simp[look]
 | p::r=>by simp only[look,xK,zG,not_or];by_cases hp:n=p.1;simp[hp];rw[if_neg hp,Option.map_eq_none_iff,qbh (l:=r)];simp[hp]
theorem qik{β γ:Type}(g:β->γ)(n:Int)(v:β)(l:List (Int×β)):(setL n v l).map (fun e=>(e.1,g e.2))=setL n (g v) (l.map fun e=>(e.1,g e.2)):=by
 unfold setL;rw[qci];cases look n l with
 | none=>simp
 | some q=>simp[map_set]
theorem qpz{β γ:Type}(g:β->γ)(n:Int)(l:List (Int×β)):(delL n l).map (fun e=>(e.1,g e.2))=delL n (l.map fun e=>(e.1,g e.2)):=by
 unfold delL;rw[qci];cases look n l with
 | none=>rfl
 | some q=>simp only[Option.map_some];exact qbs _ l q.1
theorem qh3{β:Type}{v:β}{l:List (Int×β)}{e:Int×β}(h:e∈setL n v l):e∈l\/e=(n,v):=by unfold setL at h;split at h;exact mem_or_eq_of_mem_set h;rcases zD.1 h with h|h;exact .inl h;exact .inr (oP h)
theorem qp9{β:Type}{l:List (Int×β)}{e:Int×β}(h:e∈delL n l):e∈l:=by unfold delL at h;split at h;exact mem_of_mem_eraseIdx h;exact h
theorem qij{t et:TypeId}{v:Value}(Q:prog.underlying t=some (.map 32 et)){b:Nat}(h:MapS u32V w b f)(x:Int): ∃o,(Instr.mapUpdate t (.map (some b)) (u32V x) v).run prog w=.ok () (upd w b o)/\MapS u32V (upd w b o) b (setL x v f):=by
 have K:=qcr;cases C:posOf x f with
 | none=>
  obtain⟨o,E,V⟩:=MapS.new Q K h x (v:=v) C;refine⟨o,E,?_⟩;rw[qbS] at C;rw[setL,C];exact V
 | some q=>
  obtain⟨y,c,I,R,hs,U⟩:=h;have J:=C;rw[qbS] at J;obtain⟨E,_⟩:=qa1 J;have A:=R;simp only[Ents] at A;have hi:y[q.1]?.map (·.key)=some (u32V x):=by
   have:=congrArg (·[q.1]?) A
   simp only[zQ,E,Option.map_some] at this;rw[<- Array.getElem?_toList];cases z:y.toList[q.1]? with
   | none=>rw[z] at this;cases this
   | some e=>rw[z] at this;simp at this;simp[this.1]
  refine⟨.map (y.modify q.1 fun e=>{ e with key:=u32V x,val:=v }) c,?_,y.modify q.1 fun e=>{ e with key:=u32V x,val:=v },c,?_,?_,?_,?_⟩;simp[Instr.mapUpdate,run_underlying Q,Go.MapKept.run_getObj_map I,K.check,qaS K R,C,hi,Instr.keyThatStays,Instr.sameBits,Go.MapKept.run_setObj_map _ I];rfl;rw[qaA _ _ _ _ (qac I),if_pos rfl];rw[setL,J];show ((y.modify q.1 _).toList).map _=(f.set q.1 (x,v)).map _;rw[Array.toList_modify];apply ext_getElem?;intro j;have u:=congrArg (·[j]?) A;simp only[zQ] at u;rw[zQ,zQ,List.getElem?_modify,xU];by_cases hqj:q.1=j;subst hqj;have O:=(zP.1 E).1;rw[E] at u;cases z:y.toList[q.1]? with
  | none=>rw[z] at u;cases u
  | some e=>simp[O]
  simp only[hqj,if_false];rw[<- u];cases y.toList[j]?<;>rfl;have e:(y.modify q.1 fun e=>{ e with key:=u32V x,val:=v }).toList.map (·.born)=y.toList.map (·.born):=by rw[Array.toList_modify];apply ext_getElem?;intro j;rw[zQ,zQ,List.getElem?_modify];by_cases hqj:q.1=j;subst hqj;cases y.toList[q.1]?<;>simp;simp[hqj]
  rw[e];exact hs;intro e G;rw[Array.toList_modify] at G;obtain⟨j,u⟩:=mem_iff_getElem?.1 G;rw[List.getElem?_modify] at u;by_cases hqj:q.1=j;subst hqj;cases z:y.toList[q.1]? with
  | none=>rw[z] at u;simp at u
  | some e0=>
   rw[z] at u;simp at u;subst u;exact U e0 (yE z)
  simp[hqj] at u;exact U e (yE (by rw[Array.getElem?_toList];exact u))
section
structure PgM where
 sup:Sup
 lists:List Int
 named:List Int
 turn:Int
 over:Bool
 free:List Int
 deferred:List Int
 fresh:List (Int×Int×List Int)
 roots:List Int
abbrev Leaf:=Int×Sl×List Int
def leafV (x:Leaf):Value:=.agg #[.b x.1,x.2.1.v]
def pgRest (sl sn:Sl) (turn:Int) (over:Bool) (fb defb mb:Nat):List Value:=
 [sl.v,sn.v,.i turn,.bool over,.pointer (pW fb),.pointer (pW defb),.map (some mb)]
def pgCells (db:Option Addr) (sup:Sup) (sl sn:Sl) (turn:Int) (over:Bool) (fb defb mb:Nat) (roots:List Int):Array Value:=
 ((.pointer db::supV sup.1 sup.2)++pgRest sl sn turn over fb defb mb++roots.map (Value.int .u32)).toArray
section
variable {db:Option Addr} {sup:Sup} {sl sn:Sl} {turn:Int} {over:Bool} {fb defb mb:Nat} {roots:List Int}
theorem qa2(h:sup.2.length=27):(Value.pointer db::supV sup.1 sup.2).length=29:=by rw[yH,qaH h]
theorem qnw(h:sup.2.length=27):(pgCells db sup sl sn turn over fb defb mb roots).size=36+roots.length:=by rw[pgCells,size_toArray,zF,zF,qa2 h,zK];rfl
theorem qs4:(pgCells db sup sl sn turn over fb defb mb roots)[0]?=some (.pointer db):=rfl
theorem quB:(pgCells db sup sl sn turn over fb defb mb roots)[1]?=some (.int .u64 sup.1):=rfl
theorem qmM(y:sup.2.length=27)(n:Nat)(h:n<27:=by decide):(pgCells db sup sl sn turn over fb defb mb roots)[n+2]?=some (.u (sup.2.getD n 0)):=by
 rw[pgCells,List.getElem?_toArray,zV,yY (by rw[qa2 y];omega),List.getElem?_cons_succ]
 have:=qhy (q:=sup.1) (t:=sup.2) n
 rw[List.getElem?_toArray] at this;exact this
theorem qif(u:sup.2.length=27)(j:Nat)(h:j<7:=by decide):(pgCells db sup sl sn turn over fb defb mb roots)[29+j]?=(pgRest sl sn turn over fb defb mb)[j]?:=by rw[pgCells,List.getElem?_toArray,zV,yX (by rw[qa2 u];omega),qa2 u,xY,yY (by exact h)]
theorem qig(h:sup.2.length=27):(pgCells db sup sl sn turn over fb defb mb roots)[29]?=some sl.v:=qif h 0
theorem qvY(h:sup.2.length=27):(pgCells db sup sl sn turn over fb defb mb roots)[30]?=some sn.v:=qif h 1
theorem qnx(h:sup.2.length=27):(pgCells db sup sl sn turn over fb defb mb roots)[31]?=some (.i turn):=qif h 2
theorem qc4(h:sup.2.length=27):(pgCells db sup sl sn turn over fb defb mb roots)[32]?=some (.bool over):=qif h 3
theorem qe9(h:sup.2.length=27):(pgCells db sup sl sn turn over fb defb mb roots)[33]?=some (.pointer (pW fb)):=qif h 4
theorem qjt(h:sup.2.length=27):(pgCells db sup sl sn turn over fb defb mb roots)[34]?=some (.pointer (pW defb)):=qif h 5
theorem qbG(h:sup.2.length=27):(pgCells db sup sl sn turn over fb defb mb roots)[35]?=some (.map (some mb)):=qif h 6
end
structure Rows (F:List Nat) (w:World) (sl sn:Sl) (lists named:List Int) (fs:List (Int×Leaf)):Prop where
 lists:Rd F w sl lists
 named:Rd F w sn named
 bodies:∀ e∈fs,RdB F w e.2.2.1 e.2.2.2
theorem Rows.frame{F F':List Nat}{w w':World}{sl sn:Sl}{lists named:List Int}{y:List (Int×Leaf)}(h:Rows F w sl sn lists named y)(f:Fr F w w')(u:∀b∈F',b∈F\/w.heap.size<=b):Rows F' w' sl sn lists named y:=
 ⟨h.lists.frame f u,h.named.frame f u,fun e z=>(h.bodies e z).frame f u⟩
structure PgX (w:World) (X:List Nat) (pb:Nat) (db:Option Addr) (M:PgM) (fb defb mb:Nat) (sl sn:Sl) (F1 F2:List Nat) (fs:List (Int×Leaf)):Prop where
 cell:w.heap[pb]?=some (.cells (pgCells db M.sup sl sn M.turn M.over fb defb mb M.roots) PGT (0,0))
 free:PoolAt w fb F1 M.free
 deferred:PoolAt w defb F2 M.deferred
 map:MapS u32V w mb (fs.map fun e=>(e.1,leafV e.2))
 fresh:M.fresh=fs.map fun e=>(e.1,e.2.1,e.2.2.2)
 rows:Rows (X++pb::mb::(F1++F2)) w sl sn M.lists M.named fs
 xlt:∀ b∈X,b<w.heap.size
 xsep:∀ b∈X,b∉pb::mb::(F1++F2)
 sep:pb≠mb/\(∀ b∈F1,b≠pb/\b≠mb/\b∉F2)/\(∀ b∈F2,b≠pb/\b≠mb)
 suplen:M.sup.2.length=27
 rootlen:M.roots.length=24
def PagerAt (w:World) (X:List Nat) (pb:Nat) (db:Option Addr) (F:List Nat) (M:PgM):Prop:=
 ∃fb defb mb sl sn h u y,F=pb::mb::(h++u)/\PgX w X pb db M fb defb mb sl sn h u y
theorem PgX.lt_mb{M:PgM}{u:List (Int×Leaf)}(h:PgX w X pb db M fb defb mb sl sn F1 F2 u):mb<w.heap.size:=by exact h.map.lt
theorem PgX.lt{w:World}{X:List Nat}{pb:Nat}{db:Option Addr}{M:PgM}{fb defb mb:Nat}{sl sn:Sl}{F1 F2:List Nat}{y:List (Int×Leaf)}(h:PgX w X pb db M fb defb mb sl sn F1 F2 y):∀b∈pb::mb::(F1++F2),b<w.heap.size:=by intro b u;rcases zG.1 u with rfl|u;exact qac h.cell;rcases zG.1 u with rfl|u;exact h.lt_mb;rcases zD.1 u with u|u;exact h.free.lt b u;exact h.deferred.lt b u
theorem PagerAt.lt{w:World}{X:List Nat}{pb:Nat}{db:Option Addr}{F:List Nat}{M:PgM}(h:PagerAt w X pb db F M):∀b∈F,b<w.heap.size:=by obtain⟨fb,defb,mb,sl,sn,y,z,A,rfl,u⟩:=h;exact u.lt
theorem PgX.frame{w w':World}{S X:List Nat}{pb:Nat}{db:Option Addr}{M:PgM}{fb defb mb:Nat}{sl sn:Sl}{F1 F2:List Nat}{z:List (Int×Leaf)}(h:PgX w X pb db M fb defb mb sl sn F1 F2 z)(f:Fr S w w')(y:∀b∈pb::mb::(F1++F2),b∉S)(A:Rows (X++pb::mb::(F1++F2)) w' sl sn M.lists M.named z):PgX w' X pb db M fb defb mb sl sn F1 F2 z where
 cell:=by rw[f.block pb (qac h.cell) (y pb oL)];exact h.cell
 free:=h.free.frame f fun b u=>y b (by simp[u])
 deferred:=h.deferred.frame f fun b u=>y b (by simp[u])
 map:=h.map.frame f (y mb oL)
 fresh:=h.fresh
 rows:=A
 xlt:=fun b u=>yC (h.xlt b u) f.size
 xsep:=h.xsep
 sep:=h.sep
 suplen:=h.suplen
 rootlen:=h.rootlen
theorem PgX.frame0{M:PgM}{y:List (Int×Leaf)}(h:PgX w X pb db M fb defb mb sl sn F1 F2 y)(f:Fr [] w w'):PgX w' X pb db M fb defb mb sl sn F1 F2 y:=
 h.frame f oL (h.rows.frame (f.mono (fun b u=>by cases u)) (fun b u=>.inl u))
theorem PagerAt.frame0{w w':World}{X:List Nat}{pb:Nat}{db:Option Addr}{F:List Nat}{M:PgM}(h:PagerAt w X pb db F M)(f:Fr [] w w'):PagerAt w' X pb db F M:=by obtain⟨fb,defb,mb,sl,sn,u,y,z,rfl,A⟩:=h;exact⟨fb,defb,mb,sl,sn,u,y,z,rfl,A.frame0 f⟩
theorem qo4{u:List Nat}(n1:∀b∈u,b∈F1\/w.heap.size<=b):∀b∈pb::mb::(u++F2),b∈pb::mb::(F1++F2)\/w.heap.size<=b:=fun b h=>by simp only[zG,zD] at h⊢;rcases h with h|h|h|h;exact .inl (.inl h);exact .inl (.inr (.inl h));rcases n1 b h with y|y;exact .inl (.inr (.inr (.inl y)));exact .inr y;exact .inl (.inr (.inr (.inr h)))
theorem qs0{u:List Nat}(n1:∀b∈u,b∈F2\/w.heap.size<=b):∀b∈pb::mb::(F1++u),b∈pb::mb::(F1++F2)\/w.heap.size<=b:=fun b h=>by simp only[zG,zD] at h⊢;rcases h with h|h|h|h;exact .inl (.inl h);exact .inl (.inr (.inl h));exact .inl (.inr (.inr (.inl h)));rcases n1 b h with y|y;exact .inl (.inr (.inr (.inr y)));exact .inr y
theorem qnq{F':List Nat}(n:∀b∈F',b∈F\/w.heap.size<=b):∀b∈X++F',b∈X++F\/w.heap.size<=b:=fun b u=>by rcases zD.1 u with h|h;exact .inl (zH _ h);rcases n b h with h|h;exact .inl (zI _ h);exact .inr h
theorem qv9{F':List Nat}(y:∀b∈X,b<w.heap.size)(z:∀b∈X,b∉F)(n:∀b∈F',b∈F\/w.heap.size<=b):∀b∈X,b∉F':=fun b u h=>by
 rcases n b h with h|h;exact z b u h
 have:=y b u;omega
theorem PgX.setFree{M:PgM}{y:List Nat}{C:List (Int×Leaf)}(h:PgX w X pb db M fb defb mb sl sn F1 F2 C)(f:Fr F1 w w')(G:PoolAt w' fb y l)(z:∀b∈y,b∈F1\/w.heap.size<=b): PgX w' X pb db { M with free:=l } fb defb mb sl sn y F2 C where
 cell:=by rw[f.block pb (qac h.cell) (fun u=>(h.sep.2.1 pb u).1 rfl)];exact h.cell
 free:=G
 deferred:=h.deferred.frame f fun b u A=>(h.sep.2.1 b A).2.2 u
 map:=h.map.frame f (fun u=>(h.sep.2.1 mb u).2.1 rfl)
 fresh:=h.fresh
 rows:=h.rows.frame (f.mono fun b u _=>by simp[u]) (qnq (qo4 z))
 xlt:=fun b u=>yC (h.xlt b u) f.size
 xsep:=qv9 h.xlt h.xsep (qo4 z)
 sep:=⟨h.sep.1,fun b u=>by rcases z b u with E|E;exact h.sep.2.1 b E;have J:=qac h.cell;have K:=h.lt_mb;exact⟨oJ,oJ,fun I=>by have:=h.deferred.lt b I;omega⟩,h.sep.2.2⟩
 suplen:=h.suplen
 rootlen:=h.rootlen
theorem PgX.setDef{M:PgM}{y:List Nat}{E:List (Int×Leaf)}(h:PgX w X pb db M fb defb mb sl sn F1 F2 E)(f:Fr F2 w w')(G:PoolAt w' defb y l)(A:∀b∈y,b∈F2\/w.heap.size<=b): PgX w' X pb db { M with deferred:=l } fb defb mb sl sn F1 y E where
 cell:=by rw[f.block pb (qac h.cell) (fun u=>(h.sep.2.2 pb u).1 rfl)];exact h.cell
 free:=h.free.frame f fun b u C=>(h.sep.2.1 b u).2.2 C
 deferred:=G
 map:=h.map.frame f (fun u=>(h.sep.2.2 mb u).2 rfl)
 fresh:=h.fresh
 rows:=h.rows.frame (f.mono fun b u _=>by simp[u]) (qnq (qs0 A))
 xlt:=fun b u=>yC (h.xlt b u) f.size
 xsep:=qv9 h.xlt h.xsep (qs0 A)
 sep:=⟨h.sep.1,fun b u=>⟨(h.sep.2.1 b u).1,(h.sep.2.1 b u).2.1,fun I=>by
  rcases A b I with z|z;exact (h.sep.2.1 b u).2.2 z
  have:=h.free.lt b u;omega⟩,fun b u=>by
  rcases A b u with z|z;exact h.sep.2.2 b z;have J:=qac h.cell;have K:=h.lt_mb;exact⟨oJ,oJ⟩⟩
 suplen:=h.suplen
 rootlen:=h.rootlen
theorem PgX.setMap{o:Obj}{M:PgM}{C y:List (Int×Leaf)}(h:PgX w X pb db M fb defb mb sl sn F1 F2 C)(G:MapS u32V (upd w mb o) mb (y.map fun e=>(e.1,leafV e.2)))(u:∀e∈y,e∈C\/RdB (X++pb::mb::(F1++F2)) w e.2.2.1 e.2.2.2): PgX (upd w mb o) X pb db { M with fresh:=y.map fun e=>(e.1,e.2.1,e.2.2.2) } fb defb mb sl sn F1 F2 y:=by
 have f:Fr [mb] w (upd w mb o):=qfM h.lt_mb o;have E:Fr (X++pb::mb::(F1++F2)) w (upd w mb o):=f.mono fun b u _=>by simp only[zE] at u;subst u;simp
 have z:=h.rows.frame E (F':=X++pb::mb::(F1++F2)) (fun b u=>.inl u);exact {
  cell:=by rw[f.block pb (qac h.cell) (oP h.sep.1)];exact h.cell
  free:=h.free.frame f fun b u=>by simpa using (h.sep.2.1 b u).2.1
  deferred:=h.deferred.frame f fun b u=>by simpa using (h.sep.2.2 b u).2
  map:=G
  fresh:=rfl
  rows:=⟨z.lists,z.named,fun e I=>by rcases u e I with A|A;exact z.bodies e A;exact A.frame E (fun b u=>.inl u)⟩
  xlt:=fun b u=>yC (h.xlt b u) f.size
  xsep:=h.xsep
  sep:=h.sep
  suplen:=h.suplen
  rootlen:=h.rootlen }
theorem PagerAt.frameX{X':List Nat}{M:PgM}(h:PagerAt w X pb db F M)(f:Fr X w w')(y:∀b∈X',b<w'.heap.size)(A:∀b∈X',b∈X\/w.heap.size<=b):PagerAt w' X' pb db F M:=by
 obtain⟨fb,defb,mb,sl,sn,C,E,I,rfl,h⟩:=h;have J:∀b∈pb::mb::(C++E),b∉X:=fun b u y=>h.xsep b y u;have z:=h.frame (w':=w') f J (h.rows.frame (f.mono fun b u _=>zH _ u) (fun b u=>.inl u));refine⟨fb,defb,mb,sl,sn,C,E,I,rfl,{ z with rows:=h.rows.frame (f.mono fun b u _=>zH _ u) (fun b u=>?_),xlt:=y,xsep:=fun b u G=>?_ }⟩;rcases zD.1 u with u|u;rcases A b u with u|u;exact .inl (zH _ u);exact .inr u;exact .inl (zI _ u);rcases A b u with u|u;exact h.xsep b u G
 have:=h.lt b G;omega
theorem PagerAt.sep{M:PgM}(h:PagerAt w X pb db F M):∀b∈X,b∉F:=by obtain⟨fb,defb,mb,sl,sn,u,y,z,rfl,h⟩:=h;exact h.xsep
end
section
theorem qu7(h:Rd S w s l)(I:l.length<=1000000)(C:∀x:Int,(decide (x>=0)=decide (n∈l))->K x w): cW 158 [s.v,.u n] [.one .i] w K:=by refine qmX ?_;unfold qiF;have E:=h.1;refine qag (fun x w'=>w'=w/\∃i:Nat,x=i/\i<=l.length/\n∉l.take i) (fun x _=>((l.length:Int)-x).toNat) ⟨rfl,0,rfl,oJ,oL⟩ ?_;rintro x w' ⟨rfl,i,rfl,J,y⟩ X G;apply qaa<;>intro z;have A:i<l.length:=(by have:=zC z;omega);refine Rd.at h i rfl (zA A) ?_;apply qaa<;>intro z;have e:n=l[i]:=(oP z);refine C _ ?_;rw[zZ (show (i:Int)>=0 by omega),zZ (by rw[e];exact zW A)];have e:n≠l[i]:=(oP z);rw[wi' _ oJ];refine G _ _ ⟨rfl,i+1,oL,oJ,?_⟩ oJ;rw[yF A];simp only[zD,zE,not_or];exact⟨y,e⟩;have:i=l.length:=(by have:=zB z;omega);subst this;rw[xX] at y;refine C _ ?_;rw[zU oM,zU y]
theorem qqW{K:Bool->WP}(h:Rd S w s l)(y:l.length<=1000000)(z:K (decide (n∈l)) w): cW 118 [s.v,.u n] [.one .bool] w K:=by refine qjE ?_;unfold qfz;refine qu7 h y fun x A=>?_;rw[A];exact z
theorem qxN:∀w,(zeroValue 171).run prog w=.ok (.agg #[.b 0,.slice none 0 0]) w:=fun w=>by kernel_rfl
theorem qno:prog.underlying MLT=some (.map 32 171):=by kernel_rfl
theorem qj6{y:List (Int×Leaf)}{K:((Int×Sl)×Bool)->Prop}(h:MapAt u32V w mb (y.map fun e=>(e.1,leafV e.2)))(A:∀q,look n y=some q->K ((q.2.1,q.2.2.1),true))(C:look n y=none->K ((0,⟨none,0,0⟩),false)): runQ [Ty1.agg [Cell.int .u8,Cell.slice],Ty1.one Cell.bool] (fun w'=>(Instr.lookup MLT (.map (some mb)) (.u n) true).run prog w') w K:=by
 have:=qqA (P:=prog) qno qxN qcr h n
 rw[qbS,qci] at this;cases z:look n y with
 | none=>
  rw[z] at this;exact qaN (ts:=[Ty1.agg [Cell.int .u8,Cell.slice],Ty1.one Cell.bool]) ((0,⟨none,0,0⟩),false) this (C z)
 | some q=>
  rw[z] at this;exact qaN (ts:=[Ty1.agg [Cell.int .u8,Cell.slice],Ty1.one Cell.bool]) ((q.2.1,q.2.2.1),true) this (A q z)
section
variable {w:World} {X:List Nat} {pb:Nat} {db:Option Addr} {F:List Nat} {M:PgM}
theorem qvf(h:PagerAt w X pb db F M)(y:K M.free.length w):cW 13 [.pointer (pW pb)] [.one .i] w K:=by obtain⟨fb,defb,mb,sl,sn,z,A,C,rfl,u⟩:=h;refine qiP ?_;unfold qeM;refine qae (qah u.cell (pW fb) (qe9 u.suplen) ?_);exact qrE u.free y
theorem qph{K:Sl->WP}(h:PagerAt w X pb db F M)(y:M.deferred.length<=1000000)(z:∀s w',Told w w' s M.deferred->Fr [] w w'->K s w'):cW 14 [.pointer (pW pb)] [.one .slice] w K:=by obtain⟨fb,defb,mb,sl,sn,A,C,E,rfl,u⟩:=h;refine qfR ?_;unfold qc3;refine qae ?_;simp only[Addr.add_mk];exact qah u.cell (pW defb) (qjt u.suplen)<|qnb u.deferred y z
def usedV (M:PgM) (n:Int):Bool:=!(decide (n<2)||decide (n>=M.sup.2.getD 0 0)||decide (n∈M.lists)||decide (n∈M.free)||decide (n∈M.deferred))&&(look n M.fresh).isNone
theorem qpj{K:Bool->WP}(h:PagerAt w X pb db F M)(U:M.lists.length<=1000000)(J:∀w',Fr [] w w'->K (usedV M n) w'):cW 77 [.pointer (pW pb),.u n] [.one .bool] w K:=by
 obtain⟨fb,defb,mb,sl,sn,F1,F2,R,rfl,y⟩:=h;refine qiU ?_;unfold qeR;refine qaf (fun b w'=>b=(decide (n<2)||decide (n>=M.sup.2.getD 0 0)||decide (n∈M.lists)||decide (n∈M.free)||decide (n∈M.deferred))/\w'=w) ?_ ?_;refine qaa (fun z=>⟨by rw[z];rfl,rfl⟩) fun z=>qae ?_;simp only[Addr.add_mk];refine qah y.cell (M.sup.2.getD 0 0) (qmM y.suplen 0)<|qaa (fun A=>⟨by rw[z,A];rfl,by trivial⟩) fun A=>qae (qah y.cell sl (qig y.suplen) ?_);refine qqW y.rows.lists U<|qaa (fun C=>⟨by rw[z,A,C];rfl,by trivial⟩) fun C=>qae (qah y.cell (pW fb) (qe9 y.suplen) ?_);refine qpe y.free<|qaa (fun E=>⟨by rw[z,A,C,E];rfl,by trivial⟩) fun E=>qae<|qah y.cell (pW defb) (qjt y.suplen)<|qpe y.deferred ⟨by rw[z,A,C,E];rfl,by trivial⟩;rintro b w' ⟨rfl,rfl⟩;have I:(look n M.fresh).isNone=(look n R).isNone:=by rw[y.fresh,qci (fun x:Leaf=>(x.1,x.2.2))];cases look n R<;>rfl
 apply qaa<;>intro z
 have:=J w' (.refl _ _)
 rw[usedV,z] at this;exact this;refine qae ?_;simp only[Addr.add_mk];refine qah y.cell (some mb) (qbG y.suplen)<|qj6 y.map.at (fun q O=>?_) (fun O=>?_);refine oB (oE [] w') fun r V e1 f1 G=>oH G 0 rfl _ rfl rfl rfl fun Q G _=>?_
 have:=J Q G.fr
 rw[usedV,z,I,O] at this;exact this;refine oB (oE [] w') fun r V e1 f1 G=>oH G 0 rfl _ rfl rfl rfl fun Q G _=>?_
 have:=J Q G.fr
 rw[usedV,z,I,O] at this;exact this
def makeV (M:PgM) (kind:Int) (body:List Int):(Int×Int)×PgM:=
 if M.over then ((0,7),M) else if body.length>500 then ((0,3),M) else
 match M.free with
 | []=>((0,6),M)
 | n::r=>((n,0),{ M with free:=r,fresh:=setL n (kind,body) M.fresh })
theorem qvd{kind:Int}{K:Int×Int->WP}(h:PagerAt w X pb db F M)(hb:RdB (X++F) w s body)(hl:body.length<=100000)(hf:M.free.length<=1000000)(hk:∀F' w',PagerAt w' X pb db F' (makeV M kind body).2->Fr F w w'->(∀b∈F',b∈F\/w.heap.size<=b)->K (makeV M kind body).1 w'): cW 144 [.pointer (pW pb),.b kind,s.v] [.one .u,.one .i] w K:=by
 have h0:=h;obtain⟨fb,defb,mb,sl,sn,F1,F2,fs,rfl,hx⟩:=h;have hlen:=hb.1;refine qiN (p:=pW pb) (body:=s) ?_;unfold qeK;have same:∀ {e:Int},makeV M kind body=((0,e),M)->K (0,e) w:=by
  intro e he
  have:=hk _ w (by rw[he];exact h0) (.refl _ _) (fun b hb=>.inl hb)
  rw[he] at this;exact this
 refine qae (qah (c:=.bool) hx.cell M.over (qc4 hx.suplen) ?_);refine qaa (fun hc=>same (by rw[makeV,if_pos hc])) (fun hc=>?_);have ho:¬M.over=true:=(by rw[hc];decide);apply qaa<;>intro hc
 have:=zC hc
 exact same (by rw[makeV,if_neg ho,iP]);have hb5:¬body.length>500:=(by have:=zB hc;omega);refine qae (qah (c:=.ptr) hx.cell (pW fb) (qe9 hx.suplen) ?_);refine qwE hx.free hf fun F1' w1 hp1 f1 n1=>?_;have hx1:=hx.setFree f1 hp1 n1;have fF:Fr (pb::mb::(F1++F2)) w w1:=f1.mono fun b hb _=>by simp[hb]
 have nF:=qo4 (w:=w) (pb:=pb) (mb:=mb) (F2:=F2) n1;cases hfr:M.free with
 | nil=>
  have hmv:makeV M kind body=((0,6),M):=(by rw[makeV,if_neg ho,if_neg hb5,hfr]);rw[hfr] at hp1 hx1;refine cond_true rfl ?_;have hM:{ M with free:=(takeV []).2 }=M:=(by show { M with free:=[] }=M;rw[<- hfr]);rw[hM] at hx1
  have:=hk _ w1 (by rw[hmv];exact⟨fb,defb,mb,sl,sn,F1',F2,fs,rfl,hx1⟩) fF nF
  rw[hmv] at this;exact this
 | cons n r=>
  have hmv:makeV M kind body=((n,0),{ M with free:=r,fresh:=setL n (kind,body) M.fresh }):=(by rw[makeV,if_neg ho,if_neg hb5,hfr]);rw[hfr] at hp1 hx1;refine cond_false rfl<|qae ?_;simp only[Addr.add_mk];have c1:w1.heap[pb]?=_:=hx1.cell;refine qah (w:=w1.drew) (c:=.map) c1 (some mb) (qbG hx.suplen) ?_;have hb1:RdB (X++pb::mb::(F1'++F2)) w1.drew s body:=hb.frame (fF.drew.mono fun b hb _=>zI _ hb) (qnq nF);refine qa3 hb1 oJ fun s2 B2 w2 b2 f2 n2 _ _=>?_;have f12:Fr [] w1 w2:=((Fr.refl [] w1).drew).trans f2;have hx2:=hx1.frame0 f12;refine qaj (by show _=_;rw[qai hx2.cell];exact qbG hx.suplen) ?_;obtain⟨o,hr,hm⟩:=qij (v:=leafV (kind,s2,body)) qno hx2.map n;refine qj9 _ hr ?_;have hm':MapS u32V (upd w2 mb o) mb ((setL n (kind,s2,body) fs).map fun e=>(e.1,leafV e.2)):=(by rw[qik leafV];exact hm);have hx3:=hx2.setMap hm' fun e he=>by
   rcases qh3 he with h1|h1;exact .inl h1;subst h1;refine .inr (b2.rds qas fun b hb hb2=>?_);have l2:w1.heap.size<=b:=n2 b hb;rcases zD.1 hb2 with hb2|hb2
   have:=hx1.xlt b hb2;omega
   have:=hx1.lt b hb2;omega
  have hM:(setL n (kind,s2,body) fs).map (fun e=>(e.1,e.2.1,e.2.2.2))=setL n (kind,body) M.fresh:=(by rw[hx.fresh];exact qik (fun x:Leaf=>(x.1,x.2.2)) n (kind,s2,body) fs);rw[hM] at hx3;have f3:Fr (pb::mb::(F1++F2)) w (upd w2 mb o):=(fF.trans' f12 oL).trans' (qfM hx2.lt_mb o) fun b hb=>by simp only[zE] at hb;subst hb;exact .inl oL
  have:=hk _ (upd w2 mb o) (by rw[hmv];exact⟨fb,defb,mb,sl,sn,F1',F2,_,rfl,hx3⟩) f3 nF
  rw[hmv] at this;exact this
end
end
section
theorem PgX.fresh_look{M:PgM}{u:List (Int×Leaf)}(h:PgX w X pb db M fb defb mb sl sn F1 F2 u)(n:Int):look n M.fresh=(look n u).map fun q=>(q.1,q.2.1,q.2.2.2):=by rw[h.fresh,qci (fun x:Leaf=>(x.1,x.2.2))]
section
variable {w:World} {X:List Nat} {pb:Nat} {db:Option Addr} {F:List Nat} {M:PgM}
def putV (M:PgM) (n kind:Int) (body:List Int):Int×PgM:=
 if M.over then (7,M) else match look n M.fresh with
 | none=>(10,M)
 | some _=>if body.length>500 then (3,M) else (0,{ M with fresh:=setL n (kind,body) M.fresh })
theorem qwy{kind:Int}(h:PagerAt w X pb db F M)(z:RdB (X++F) w s body)(hl:body.length<=100000)(hk:∀w',PagerAt w' X pb db F (putV M n kind body).2->Fr F w w'->K (putV M n kind body).1 w'): cW 143 [.pointer (pW pb),.u n,.b kind,s.v] [.one .i] w K:=by
 have h0:=h;obtain⟨fb,defb,mb,sl,sn,F1,F2,fs,rfl,A⟩:=h;have am:=z.1;refine qjs ?_;unfold qfu;have C:∀ {e:Int} {w':World},putV M n kind body=(e,M)->Fr [] w w'->K e w':=by
  intro e w' he hf
  have:=hk w' (by rw[he];exact h0.frame0 hf) (hf.mono (fun b z=>by cases z))
  rw[he] at this;exact this
 have E:=A.fresh_look n;refine qae (qah A.cell M.over (qc4 A.suplen) ?_);refine qaa (fun O=>C (by rw[putV,if_pos O]) (.refl _ _)) (fun O=>?_);have ho:¬M.over=true:=(by rw[O];decide);refine qae ?_;simp only[Addr.add_mk];refine qah A.cell (some mb) (qbG A.suplen)<|qj6 A.map.at (fun q hq=>?_) (fun hq=>?_);rw[hq] at E;refine oB (oE [] w) fun r w1 e1 f1 y=>oH y 0 rfl _ rfl rfl rfl fun I y _=>cond_false rfl ?_;apply qaa<;>intro O
 have:=zC O
 exact C (by rw[putV,if_neg ho,E];dsimp only [Option.map_some];rw[iP]) y.fr;have ai:¬body.length>500:=(by have:=zB O;omega);have R:putV M n kind body=(0,{ M with fresh:=setL n (kind,body) M.fresh }):=(by rw[putV,if_neg ho,E];dsimp only [Option.map_some];rw[if_neg ai]);have Q:=A.frame0 y.drew.fr;refine qae<|qah (w:=I.drew) (c:=.map) Q.cell (some mb) (qbG A.suplen)<|qa3 (z.frame0 y.drew.fr) oJ fun s2 B2 w3 b2 f2 n2 _ _=>?_;have U:Fr [] w w3:=y.drew.fr.trans f2;have J:=A.frame0 U;refine qaj (by show _=_;simp only[Addr.add_mk];rw[qai J.cell];exact qbG A.suplen) ?_;obtain⟨o,hr,hm⟩:=qij (v:=leafV (kind,s2,body)) qno J.map n;refine qj9 _ hr ?_;have aj:MapS u32V (upd w3 mb o) mb ((setL n (kind,s2,body) fs).map fun e=>(e.1,leafV e.2)):=(by rw[qik leafV];exact hm);have V:=J.setMap aj fun e he=>by rcases qh3 he with h1|h1;exact .inl h1;subst h1;refine .inr (b2.rds qas fun b z G=>?_);have l2:I.drew.heap.size<=b:=n2 b z;rcases zD.1 G with G|G;have:b<I.heap.size:=Q.xlt b G;have:I.drew.heap.size=I.heap.size:=rfl;omega;have:b<I.heap.size:=Q.lt b G;have:I.drew.heap.size=I.heap.size:=rfl;omega
 have hM:(setL n (kind,s2,body) fs).map (fun e=>(e.1,e.2.1,e.2.2.2))=setL n (kind,body) M.fresh:=(by rw[A.fresh];exact qik (fun x:Leaf=>(x.1,x.2.2)) n (kind,s2,body) fs);rw[hM] at V;have f4:Fr (pb::mb::(F1++F2)) w (upd w3 mb o):=(U.mono (T:=pb::mb::(F1++F2)) (fun b z=>by cases z)).trans' (qfM J.lt_mb o) fun b z=>by simp only[zE] at z;subst z;exact .inl oL
 have:=hk (upd w3 mb o) (by rw[R];exact⟨fb,defb,mb,sl,sn,F1,F2,_,rfl,V⟩) f4
 rw[R] at this;exact this;rw[hq] at E;exact oB (oE [] w) fun r w1 e1 f1 y=>oH y 0 rfl _ rfl rfl rfl fun I y _=>cond_true rfl<|C (by rw[putV,if_neg ho,E];rfl) y.fr
def dropV (M:PgM) (n:Int):Int×PgM:=
 if M.over then (7,M) else match look n M.fresh with
 | some _=>(0,{ M with fresh:=delL n M.fresh,free:=ins n M.free })
 | none=>if usedV M n then (0,{ M with deferred:=ins n M.deferred }) else (10,M)
theorem qvb(h:PagerAt w X pb db F M)(hl:M.lists.length<=1000000)(hf:M.free.length<=1000000)(hd:M.deferred.length<=1000000)(hk:∀F' w',PagerAt w' X pb db F' (dropV M n).2->Fr F w w'->(∀b∈F',b∈F\/w.heap.size<=b)->K (dropV M n).1 w'): cW 111 [.pointer (pW pb),.u n] [.one .i] w K:=by
 have h0:=h;obtain⟨fb,defb,mb,sl,sn,F1,F2,fs,rfl,C⟩:=h;refine qiM ?_;unfold qeJ;have O:∀ {e:Int} {w':World},dropV M n=(e,M)->Fr [] w w'->K e w':=by
  intro e w' he hf
  have:=hk _ w' (by rw[he];exact h0.frame0 hf) (hf.mono (fun b z=>by cases z)) (fun b z=>.inl z)
  rw[he] at this;exact this
 have E:=C.fresh_look n;refine qae (qah C.cell M.over (qc4 C.suplen) ?_);refine qaa (fun Q=>O (by rw[dropV,if_pos Q]) (.refl _ _)) (fun Q=>?_);have ho:¬M.over=true:=(by rw[Q];decide);refine qae ?_;simp only[Addr.add_mk];refine qah C.cell (some mb) (qbG C.suplen)<|qj6 C.map.at (fun q hq=>?_) (fun hq=>?_);rw[hq] at E;refine oB (oE [] w) fun r w1 e1 f1 y=>oH y 0 rfl _ rfl rfl rfl fun w2 y _=>cond_true rfl ?_;have G:dropV M n=(0,{ M with fresh:=delL n M.fresh,free:=ins n M.free }):=(by rw[dropV,if_neg ho,E];rfl);have I:=C.frame0 y.fr;refine qae<|qah I.cell (some mb) (qbG C.suplen) ?_;obtain⟨o,hr,hm⟩:=MapS.del (ty:=0) qno qcr I.map n;refine qqB (ts:=[]) () _ hr ?_;have an:MapS u32V (upd w2 mb o) mb ((delL n fs).map fun e=>(e.1,leafV e.2)):=by
  rw[qpz leafV];rw[qbS] at hm;unfold delL;cases hl:look n (fs.map fun e=>(e.1,leafV e.2)) with
  | none=>rw[hl] at hm;exact hm
  | some q=>rw[hl] at hm;exact hm
 have A:=I.setMap an fun e he=>.inl (qp9 he);have hM:(delL n fs).map (fun e=>(e.1,e.2.1,e.2.2.2))=delL n M.fresh:=by rw[C.fresh];exact qpz (fun x:Leaf=>(x.1,x.2.2)) n fs
 rw[hM] at A;have f3:Fr (pb::mb::(F1++F2)) w (upd w2 mb o):=(y.fr.mono (T:=pb::mb::(F1++F2)) (fun b z=>by cases z)).trans' (qfM I.lt_mb o) fun b z=>by simp only[zE] at z;subst z;exact .inl oL
 refine qae (qah A.cell (pW fb) (qe9 C.suplen) ?_);refine ql3 A.free hf fun ap w4 R f4 n4=>?_;have U:=A.setFree f4 R n4;have hs:w.heap.size<=(upd w2 mb o).heap.size:=by rw[qbU];exact y.fr.size
 have:=hk _ w4 (by rw[G];exact⟨fb,defb,mb,sl,sn,ap,F2,_,rfl,U⟩) (f3.trans' f4 fun b z=>.inl (by simp[z])) fun b z=>by rcases qo4 n4 b z with V|V;exact .inl V;exact .inr (zL hs V)
 rw[G] at this;exact this;rw[hq] at E;refine oB (oE [] w) fun r w1 e1 f1 y=>oH y 0 rfl _ rfl rfl rfl fun w2 y _=>cond_false rfl<|qpj (h0.frame0 y.fr) hl fun w3 f3=>?_;have J:=y.fr.trans f3;apply qaa<;>intro Q;have hu:usedV M n=false:=(oP Q);exact O (by rw[dropV,if_neg ho,E];show (if usedV M n then _ else _)=_;rw[hu];rfl) J;have hu:usedV M n=true:=(oP Q);have G:dropV M n=(0,{ M with deferred:=ins n M.deferred }):=by rw[dropV,if_neg ho,E];show (if usedV M n then _ else _)=_;rw[hu];rfl
 have A:=C.frame0 J;refine qae (qah A.cell (pW defb) (qjt C.suplen) ?_);refine ql3 A.deferred hd fun au w4 R f4 n4=>?_;have U:=A.setDef f4 R n4
 have:=hk _ w4 (by rw[G];exact⟨fb,defb,mb,sl,sn,F1,au,_,rfl,U⟩) ((J.mono (T:=pb::mb::(F1++F2)) (fun b z=>by cases z)).trans' f4 fun b z=>.inl (by simp[z])) fun b z=>by rcases qs0 n4 b z with V|V;exact .inl V;exact .inr (zL J.size V)
 rw[G] at this;exact this
end
end
def keyI (e:MapEntry):Int:=match e.key with | .int _ n=>n|_=>0
theorem qvN{es:List MapEntry}(h:Ents u32V es f):es.map keyI=f.map (·.1)/\∀e∈es,e.key=u32V (keyI e):=by
 induction es generalizing f with
 | nil=>cases f with
  | nil=>exact⟨rfl,oL⟩
  | cons p f=>simp[Ents] at h
 | cons e es ih=>cases f with
  | nil=>simp[Ents] at h
  | cons p f=>
   simp only[Ents,xK,List.cons.injEq,Prod.mk.injEq] at h;obtain⟨⟨y,I⟩,A⟩:=h;obtain⟨C,E⟩:=ih A;have z:keyI e=p.1:=(by unfold keyI;rw[y]);refine⟨by rw[xK,xK,z,C],fun G u=>?_⟩;rcases zG.1 u with rfl|u;rw[z];exact y;exact E G u
theorem qol{β:Type}{g:β->Nat}:∀ {l:List β} {e:β},(l.map g).Pairwise (· < ·)->e∈l->l.Perm (e::l.filter fun x=>!(g x==g e))
 | x::l,e,u,z=>by
  rw[xK,yI] at u;rcases zG.1 z with rfl|z;have:(e::l).filter (fun x=>!(g x==g e))=l:=by
   rw[filter_cons_of_neg oL];exact filter_eq_self.2 fun y A=>by
    have:=u.1 (g y) (zY A)
    have h:g y≠g e:=oJ;simp[h]
  rw[this];have C:=u.1 (g e) (zY z);have h:g x≠g e:=oJ;rw[filter_cons_of_pos (by simp[h])];exact ((qol u.2 z).cons x).trans (List.Perm.swap e x _)
def left (es:Array MapEntry) (seen:Array Nat):List MapEntry:=es.toList.filter fun e=>!seen.toList.contains e.born
theorem qun{es:Array MapEntry}{seen:Array Nat}{e:MapEntry}(hs:(es.toList.map (·.born)).Pairwise (· < ·))(he:e∈es.toList)(hn:e.born∉seen.toList):(left es seen).Perm (e::left es (seen.push e.born)):=by have h1:left es (seen.push e.born)=(left es seen).filter fun x=>!(x.born==e.born):=(by rw[left,left,filter_filter];congr 1;funext x;rw[Array.toList_push];by_cases h:x.born=e.born<;>simp[h]);rw[h1];refine qol (g:=fun x:MapEntry=>x.born) ?_ (mem_filter.2 ⟨he,by simpa using hn⟩);exact hs.sublist (filter_sublist.map _)
def seenAt (w:World) (u:Nat):Nat:=match w.heap[u]? with|some (.mapIter _ _ h _)=>h.size|_=>0
theorem qox{y:Nat}{a:Option Nat}{b c:Nat}{u:Array Nat}(h:w.heap[y]?=some (.mapIter a b u c)):seenAt w y=u.size:=by unfold seenAt;rw[h]
theorem qoJ{rk:Nat}{K:Sl->WP}(hm:MapS u32V w mb f)(hrk:w.heap[rk]?=some (.cells #[.map (some mb)] T (0,0)))(hf:f.length<=100000)(hk:∀s' B l' w',BufU w' s' l' B->l'.Perm (f.map (·.1))->Fr [] w w'->(∀b∈B,w.heap.size<=b)->K s' w'): cW 214 [.slice none 0 0,.func (.func 175) #[] #[.pointer (pW rk)]] [.one .slice] w K:=by
 refine qiV (s:=⟨none,0,0⟩) ?_;unfold qeS;obtain⟨es,c,hb,he,hs,hc⟩:=hm;obtain⟨hkm,hkey⟩:=qvN he;have hesl:es.toList.length=f.length:=(by have:=congrArg List.length hkm;simpa using this);have hbW:∀ {w':World},Fr [] w w'->w'.heap[mb]?=some (.map es c):=fun f=>by rw[f.block mb (qac hb) oL];exact hb
 have hrW:∀ {w':World},Fr [] w w'->w'.heap[rk]?=some (.cells #[.map (some mb)] T (0,0)):=fun f=>by rw[f.block rk (qac hrk) oL];exact hrk
 refine oB (oE [] w) fun r1 w1 e1 f1 ho=>Own.rng (lb:=[.pointer (pW rk)]) ho rfl oK fun Dm l R Bz J E E0 w6 el eD f56 ho6 hy=>qmy ?_;unfold qiw;refine qah (c:=.map) (hrW ho6.fr) (some mb) rfl<|qqB (ts:=[.one .any]) _ _ (quS qno (hbW ho6.fr)) ?_;have ho7:=ho6.alloc (.mapIter (some mb) c #[] c);generalize hit:w6.heap.size=it at ho7;refine qag (fun _ w'=>∃(seen:Array Nat) (so:Sl) (xs:List Int) (Bo:List Nat),
   Own [] w w' [(it,.mapIter (some mb) c seen c),(l,R),(Dm,.deferred (some [])),(r1,.cells #[so.v] 31 (0,0))]/\(xs++(left es seen).map keyI).Perm (f.map (·.1))/\xs.length=seen.size/\BufU w' so xs Bo/\
   ∀b∈Bo,w.heap.size<=b/\b∉[it,l,Dm,r1]) (fun _ w'=>f.length-seenAt w' it)
  ⟨#[],⟨none,0,0⟩,[],[],ho7,?_,rfl,.nil _ _ _,oL⟩ ?_
 have:left es #[]=es.toList:=(by unfold left;exact filter_eq_self.2 oL);rw[this,hkm];exact .refl _;rintro _ w8 ⟨seen,so,xs,Bo,ho8,hperm,hxl,hbu,hBo⟩ X hX;have hxs:xs.length+(left es seen).length=f.length:=(by have:=hperm.length_eq;simpa using this);refine qxQ (hbW ho8.fr) (ho8.at (i:=0) rfl) hc (fun hall=>?_) (fun e hem hne w9 hsame=>?_);have hl0:left es seen=[]:=filter_eq_nil_iff.2 fun e he=>by simpa using hall e he
 rw[hl0,map_nil,xF] at hperm;refine .inl ⟨ho8.at (i:=1) rfl,?_⟩;have ho9:=ho8.upd (o':=E0) 1 rfl;have hbu9:=hbu.frame (qbo (qac (ho8.at (i:=1) rfl)) E0) (fun b hb hm=>by simp only[zE] at hm;subst hm;exact (hBo _ hb).2 oL);exact oA (c:=.slice) ho9 3 rfl so rfl<|Own.undefer ho9.rebase 2 rfl fun w10 hd=>hk so Bo xs w10 (hbu9.frame hd.fr (fun b hb=>(hBo b hb).2)) hperm (ho9.back hd.fr) (fun b hb=>(hBo b hb).1);have ho9:=(ho8.frame0 (.of_same hsame)).upd (o':=.mapIter (some mb) c (seen.push e.born) c) 0 rfl;have hbu9:BufU (Pt.upd w9 it (.mapIter (some mb) c (seen.push e.born) c)) so xs Bo:=(hbu.frame0 (.of_same hsame)).frame (qbo (qac ((ho8.frame0 (.of_same hsame)).at (i:=0) rfl)) _) (fun b hb hm=>by simp only[zE] at hm;subst hm;exact (hBo _ hb).2 oL);generalize hw10:Pt.upd w9 it (.mapIter (some mb) c (seen.push e.born) c)=w10 at ho9 hbu9;refine qxE (hbW ho9.fr) (ho9.at (i:=0) rfl) hem hs ?_;rw[hkey e hem];refine hy (keyI e) w10 _ (ho9.at (i:=1) rfl) ?_;dsimp only;refine⟨ho9.at (i:=1) rfl,?_⟩;have hoA:=ho9.upd (o':=Bz) 1 rfl;have hbuA:=hbu9.frame (qbo (qac (ho9.at (i:=1) rfl)) Bz) (fun b hb hm=>by simp only[zE] at hm;subst hm;exact (hBo _ hb).2 oL);refine oA (c:=.slice) hoA 3 rfl so rfl<|pushU hbuA oJ fun s11 B11 w11 b11 f11 n11=>?_;have hLlt:∀p∈[it,l,Dm,r1],p<(Pt.upd w10 l Bz).heap.size:=fun p hp=>by have hlt:=fun (k:Nat) (q:Nat×Obj) (hq:_[k]?=some q)=>qac (hoA.at (i:=k) hq);simp only[zG,xV,or_false] at hp;rcases hp with rfl|rfl|rfl|rfl;exact hlt 0 _ rfl;exact hlt 1 _ rfl;exact hlt 2 _ rfl;exact hlt 3 _ rfl
 have hB11:∀b∈B11,w.heap.size<=b/\b∉[it,l,Dm,r1]:=fun b hb=>by rcases n11 b hb with h|h;exact hBo b h;refine⟨zL hoA.fr.size h,fun hm=>?_⟩;exact Nat.lt_irrefl _ (yC (hLlt b hm) h)
 have hoB:=hoA.frame f11 (fun b hb=>.inr (hBo b hb).1) (fun p hp hb=>(hBo _ hb).2 (zY (f:=(·.1)) hp));refine oD hoB 3 rfl _ fun w12 hoC f12=>⟨hoC.at (i:=1) rfl,?_⟩;have hoD:=hoC.upd (o':=R) 1 rfl;have b12:=(b11.frame f12 (fun b hb hm=>by simp only[zE] at hm;subst hm;exact (hB11 _ hb).2 oL)).frame (qbo (qac (hoC.at (i:=1) rfl)) R) (fun b hb hm=>by simp only[zE] at hm;subst hm;exact (hB11 _ hb).2 oL);refine cond_false rfl ?_;have hpk:=qun hs hem hne;refine hX _ _ ⟨seen.push e.born,s11,xs++[keyI e],B11,hoD,?_,by simp[hxl],b12,hB11⟩ ?_;refine List.Perm.trans ?_ hperm;rw[zV];exact (hpk.symm.map keyI).append_left xs;have h1:=qox (ho8.at (i:=0) rfl);have h2:seenAt (Pt.upd w12 l R) it=(seen.push e.born).size:=qox (hoD.at (i:=0) rfl);have h3:=hpk.length_eq;rw[yH] at h3;show f.length-seenAt (Pt.upd w12 l R) it<f.length-seenAt w8 it;rw[h1,h2,Array.size_push];omega
abbrev Blk:={l:List Int // l.length=512}
def encK (b:Blk):List Value:=b.1.map (Value.int .u8)
theorem qaZ(b:Blk):(encK b).length=512:=by rw[encK,zK,b.2]
def encW (x:Int×Blk):List Value:=Value.int .i64 x.1::encK x.2
theorem qbO(x:Int×Blk):(encW x).length=513:=by rw[encW,yH,qaZ]
def Blk.zero:Blk:=⟨zs 512,qaK 512⟩
structure DiskM where
 safe:List Blk
 waits:List (Int×Blk)
 fuse:Int
 down:Bool
 writes:Int
variable {D:DiskM}
structure DiskM.Ok (D:DiskM):Prop where
 at_:∀ x∈D.waits,0<=x.1/\x.1<D.safe.length
 fuse:-1<=D.fuse/\D.fuse<=1000000000
 safe:D.safe.length<=4096
 waits:D.waits.length<=1000000
 writes:0<=D.writes/\D.writes<=1000000000
 bytesS:∀ b∈D.safe,IsB b.1
 bytesW:∀ x∈D.waits,IsB x.2.1
abbrev DT:TypeId:=145
def dCells (D:DiskM) (sb:Nat) (h:Sl):Array Value:=#[.slice (pW sb) D.safe.length D.safe.length,h.v,.i D.fuse,.bool D.down,.i D.writes]
def DiskAt (w:World) (db:Nat) (F:List Nat) (D:DiskM):Prop:=
 ∃(sb:Nat) (T:TypeId) (h:Sl) (B:List Nat),F=db::sb::B/\(db::sb::B).Nodup/\w.heap[db]?=some (.cells (dCells D sb h) DT (0,0))/\w.heap[sb]?=some (.cells (D.safe.flatMap encK).toArray T (0,0))/\Buf encW 513 w h D.waits B
theorem DiskAt.frame{w w':World}{db:Nat}{F S:List Nat}{D:DiskM}(h:DiskAt w db F D)(f:Fr S w w')(u:∀b∈F,b∉S):DiskAt w' db F D:=by obtain⟨sb,T,y,B,rfl,C,z,A,E⟩:=h;exact⟨sb,T,y,B,rfl,C,by rw[f.block db (qac z) (u _ oL)];exact z,by rw[f.block sb (qac A) (u _ oL)];exact A,E.frame f (fun b G=>u b (by simp[G]))⟩
theorem DiskAt.frame0{db:Nat}(h:DiskAt w db F D)(f:Fr [] w w'):DiskAt w' db F D:=h.frame f (fun _ _ h=>by cases h)
theorem DiskAt.lt{w:World}{db:Nat}{F:List Nat}{D:DiskM}(h:DiskAt w db F D):∀b∈F,b<w.heap.size:=by obtain⟨sb,T,y,B,rfl,E,z,A,C⟩:=h;intro b u;simp only[zG] at u;rcases u with rfl|rfl|u;exact qac z;exact qac A;exact C.lt b u
theorem DiskAt.cell{db:Nat}(h:DiskAt w db F D):∃sb u,w.heap[db]?=some (.cells (dCells D sb u) DT (0,0)):=by obtain⟨sb,T,u,B,rfl,z,y,A,C⟩:=h;exact⟨sb,u,y⟩
theorem DiskAt.mem{db:Nat}(h:DiskAt w db F D):db∈F:=by obtain⟨sb,T,u,B,rfl,_⟩:=h;simp
def dCellsC (D:DiskM) (sb c:Nat) (h:Sl):Array Value:=#[.slice (pW sb) D.safe.length c,h.v,.i D.fuse,.bool D.down,.i D.writes]
def DiskZ (w:World) (db:Nat) (F:List Nat) (D:DiskM) (c:Nat) (Z:List Value):Prop:=
 ∃(sb:Nat) (T:TypeId) (h:Sl) (B:List Nat),F=db::sb::B/\(db::sb::B).Nodup/\w.heap[db]?=some (.cells (dCellsC D sb c h) DT (0,0))/\w.heap[sb]?=some (.cells (D.safe.flatMap encK++Z).toArray T (0,0))/\Buf encW 513 w h D.waits B
theorem DiskAt.z{db:Nat}(h:DiskAt w db F D):DiskZ w db F D D.safe.length []:=by obtain⟨sb,T,u,B,rfl,y,A,C,E⟩:=h;exact⟨sb,T,u,B,rfl,y,A,by rw[xF];exact C,E⟩
theorem DiskAt.turn{db:Nat}{D':DiskM}{sb:Nat}{y:Sl}(h:DiskAt w db F D)(O:w.heap[db]?=some (.cells (dCells D sb y) DT (0,0)))(f:Fr [db] w w')(Q:D'.safe=D.safe)(R:D'.waits=D.waits)(E:w'.heap[db]?=some (.cells (dCells D' sb y) DT (0,0))):DiskAt w' db F D':=by
 obtain⟨z,T,u,B,rfl,A,U,J,V⟩:=h;have C:z=sb/\u=y:=by have q:=U.symm.trans O;have q0:=congrArg (fun o=>match o with|some (Obj.cells G _ _)=>(match G[0]? with|some (Value.slice (some a) _ _)=>a.block|_=>0)|_=>0) q;have q1:=congrArg (fun o=>match o with|some (Obj.cells G _ _)=>G[1]? | _=>none) q;refine⟨q0,?_⟩;have K:Value.slice u.a u.len u.cap=Value.slice y.a y.len y.cap:=yN q1;cases y;cases u;simp only[Value.slice.injEq] at K;obtain⟨rfl,rfl,rfl⟩:=K;rfl
 obtain⟨rfl,rfl⟩:=C;have I:z≠db:=fun e=>by rw[e] at A;simp at A
 have hB:∀b∈B,b∉[db]:=fun b hb C=>by simp at C;subst C;simp at A;exact A.1.2 hb
 exact⟨z,T,u,B,rfl,A,E,by rw[Q,f.block z (qac J) (oP I)];exact J,by rw[R];exact V.frame f hB⟩
theorem qiZ{db:Nat}(h:DiskAt w db F D)(u:K D.safe.length w):cW 53 [.pointer (pW db)] [.one .i] w K:=by refine qiJ ?_;unfold qeH;obtain⟨sb,y,z⟩:=h.cell;refine qae (qah z ⟨pW sb,D.safe.length,D.safe.length⟩ rfl ?_);exact u
def newM (blocks:Nat):DiskM:=⟨List.replicate blocks .zero,[],-1,false,0⟩
theorem qxa{n:Nat}(h:n<=4096):(newM n).Ok:=
 ⟨fun _ h=>(by cases h),⟨by show (-1:Int)<=-1;decide,by show (-1:Int)<=1000000000;decide⟩,by rw[newM];simpa using h,by simp[newM],by simp[newM],fun b u=>by rw[eq_of_mem_replicate u];exact IsB.zs 512,fun _ h=>(by cases h)⟩
theorem qrb(n:Nat)(b:Blk):(List.replicate n (encK b)).flatten=(List.replicate n b).flatMap encK:=by rw[flatMap_def,map_replicate]
set_option maxRecDepth 100000 in
theorem qwr{blocks:Int}{K:Option Addr×Int->WP}(y:(blocks<8\/blocks>4096)->K (none,1) w)(C:8<=blocks->blocks<=4096->∀db F w',DiskAt w' db F (newM blocks.toNat)->Fr [] w w'->(∀b∈F,w.heap.size<=b)->K (pW db,0) w'): cW 61 [.i blocks] [.one .ptr,.one .i] w K:=by
 refine qq6 ?_;unfold qnW;refine qaf (fun b w'=>b=decide (blocks<8\/blocks>4096)/\w'=w) ?_ ?_;apply qaa<;>intro u;exact⟨by rw[zZ (Or.inl (zC u))],rfl⟩
 have:=zB u
 exact⟨by simp[this],rfl⟩;rintro b E ⟨rfl,rfl⟩;refine qaa (fun u=>y (zC u)) (fun u=>?_);have O:=zB u;have G:8<=blocks:=oJ;have I:blocks<=4096:=oJ;obtain⟨n,rfl⟩:∃n:Nat,blocks=n:=⟨blocks.toNat,oJ⟩;refine Own.mkN (zero:=encK Blk.zero) (oE [] E) (qaZ _) oJ oJ oJ oJ fun sb Q R h=>Own.new h fun db J U V h=>?_;have z:(List.replicate (n:Int).toNat (encK Blk.zero)).flatten=((newM n).safe).flatMap encK:=(by rw[zJ];exact qrb n _);refine C G I db [db,sb] J ⟨sb,190,⟨none,0,0⟩,[],rfl,?_,?_,?_,.nil _ _ _⟩ h.fr (fun b A=>?_)
 have:=h.nodup;simpa using this
 have:=h.at (i:=0) rfl
 rw[this];simp[dCells,newM]
 have:=h.at (i:=1) rfl
 rw[this,zJ,<- z,zJ];simp at A
 have:=h.own
 rcases A with rfl|rfl
 have:=h.own (b,_) (yE (i:=0) rfl)
 simpa using this
 have:=h.own (b,_) (yE (i:=1) rfl)
 simpa using this
def actM (D:DiskM):DiskM×Bool:=if D.fuse=0 then ({ D with down:=true },true) else if D.fuse>0 then ({ D with fuse:=D.fuse-1 },false) else (D,false)
theorem qtL{db:Nat}{K:Bool->WP}(h:DiskAt w db F D)(R:D.fuse<=1000000000)(J:∀w',DiskAt w' db F (actM D).1->Fr [db] w w'->K (actM D).2 w'): cW 91 [.pointer (pW db)] [.one .bool] w K:=by
 refine qlo ?_;unfold qg5;obtain⟨sb,C,E⟩:=h.cell;have u:Own [db] w w [(db,.cells (dCells D sb C) DT (0,0))]:=⟨by simpa using E,oL,.refl _ _,oL⟩;refine qae (oA u 0 rfl D.fuse rfl ?_);apply qaa<;>intro G;have y:D.fuse=0:=(oP G);refine qae<|oH u 0 rfl _ rfl rfl rfl fun A u _=>?_
 have:=J A (by rw[actM,if_pos y];exact h.turn E u.fr rfl rfl (u.at (i:=0) rfl)) u.fr
 rw[actM,if_pos y] at this;exact this;have y:¬D.fuse=0:=(oP G);refine qaf (fun _ w'=>DiskAt w' db F (actM D).1/\Fr [db] w w') ?_ ?_;refine qae (oA u 0 rfl D.fuse rfl ?_);apply qaa<;>intro I;have z:D.fuse>0:=zC I;refine qae (oA u 0 rfl D.fuse rfl ?_);refine qae ?_;rw[wi' _ oJ];refine oH u 0 rfl _ rfl rfl rfl fun A u _=>⟨?_,u.fr⟩;rw[actM,if_neg y,if_pos z];exact h.turn E u.fr rfl rfl (u.at (i:=0) rfl);have z:¬D.fuse>0:=zB I;refine⟨?_,.refl _ _⟩;rw[actM,if_neg y,if_neg z];exact h;rintro _ A ⟨O,Q⟩
 have:=J A O Q
 have e:(actM D).2=false:=(by rw[actM,if_neg y];split<;>rfl);rw[e] at this;exact this
theorem qwm:∃i,prog.info? 192=some i/\(∃z,i.zero=some z/\z.cells.size=513)/\i.size=513/\i.bytes=520:=by have h:(prog.info? 192).map (fun i=>(i.zero.map (fun z=>z.cells.size),i.size,i.bytes))=some (some 513,513,520):=oK;obtain⟨i,A,u⟩:=yS.1 h;simp only[Prod.mk.injEq] at u;obtain⟨z,C,y⟩:=yS.1 u.1;exact⟨i,A,⟨z,C,y⟩,u.2.1,u.2.2⟩
def addW (D:DiskM) (n:Int) (b:Blk):DiskM:={ D with waits:=D.waits++[(n,b)],writes:=D.writes+1 }
def writeM (D:DiskM) (n:Int) (l:List Int):DiskM×Int:=
 if D.down then (D,7) else if n<0\/n>=D.safe.length then (D,4) else
 if h:l.length=512 then ((actM (addW D n ⟨l,h⟩)).1,if (actM (addW D n ⟨l,h⟩)).2 then 7 else 0) else (D,1)
theorem qq0(n:Int)(b:Blk)(w:World):(Instr.build 192 #[(0,.i n),(1,.agg (encK b).toArray)]).run prog w=.ok (.agg (encW (n,b)).toArray) w:=by
 obtain⟨z,hz,hzs⟩:∃z,(prog.info? 192).bind (·.zero)=some z/\z.cells.size=513:=by obtain⟨i,hi,⟨z,hz,hzs⟩,_⟩:=qwm;exact⟨z,by rw[hi];exact hz,hzs⟩
 have:=qtk (P:=prog) (a:=.i n) (b:=.agg (encK b).toArray) (o1:=1) (s0:=1) (s1:=512) hz oK (fun w=>oK) rfl (by show (encK b).toArray.size=512;rw[size_toArray,qaZ]) rfl hzs w
 exact this
theorem qke(l:List Int):((l.map (Value.int .u8)).all Value.oneCell')=true:=by rw[all_eq_true];intro v h;obtain⟨x,_,rfl⟩:=mem_map.1 h;rfl
theorem qpB(b:Blk):((encK b).all Value.oneCell')=true:=qke _
theorem qlq(x:Int×Blk):((encW x).all Value.oneCell')=true:=by rw[encW,all_cons,qpB];rfl
theorem quJ(h:RdB S w s l)(z:l≠[]):∃b o u T y,s.a=some ⟨b,o,none⟩/\w.heap[b]?=some (.cells u T y)/\b∉S/\(u.toList.drop o).take l.length=l.map (Value.int .u8):=by
 rcases h.2.2 with A|⟨b,o,u,T,y,C,E,G,I⟩;exact absurd A z;refine⟨b,o,u,T,y,C,E,G,?_⟩;apply ext_getElem?;intro i;rw[xA,zQ];by_cases hi:i<l.length;rw[if_pos hi,yZ,zA hi]
 have:=I i l[i] (zA hi)
 rw[xQ] at this
 have:=congrArg (·[0]?) this
 simpa using this;rw[if_neg hi,yR oJ];rfl
theorem qnK{db:Nat}(h:DiskAt w db F D)(hD:D.Ok)(hs:RdB S w s l)(hk:∀F' w',DiskAt w' db F' (writeM D n l).1->Fr F w w'->(∀b∈F',b∈F\/w.heap.size<=b)->K (writeM D n l).2 w'): cW 56 [.pointer (pW db),.i n,s.v] [.one .i] w K:=by
 refine qi7 (d:=pW db) (b:=s) ?_;unfold qfl;have hlen:=hs.1;have hdb:=h.mem;obtain⟨sb,T,wsl,B,hF,hn,hc,hsb,hbuf⟩:=h;have h:DiskAt w db F D:=⟨sb,T,wsl,B,hF,hn,hc,hsb,hbuf⟩;have ho:Own F w w [(db,.cells (dCells D sb wsl) DT (0,0))]:=⟨by simpa using hc,oL,.refl _ _,by simp[hdb]⟩;refine qae (oA (c:=.bool) ho 0 rfl D.down rfl ?_);have same:∀ {e:Int},writeM D n l=(D,e)->∀ {w'},w'=w->K e w':=by
  rintro e he w' rfl
  have:=hk F w' (by rw[he];exact h) (.refl _ _) (fun b hb=>.inl hb)
  rw[he] at this;exact this
 refine qaa (fun hd=>same (by rw[writeM,if_pos hd]) rfl) fun hd=>qaf (fun b w'=>b=decide (n<0\/n>=D.safe.length)/\w'=w) ?_ ?_;apply qaa<;>intro hc;exact⟨by rw[zZ (Or.inl (zC hc))],rfl⟩;refine qae (oA (c:=.slice) ho 0 rfl ⟨pW sb,D.safe.length,D.safe.length⟩ rfl ⟨?_,rfl⟩)
 have:=zB hc
 by_cases h2:n>=D.safe.length<;>simp[this,h2];rintro b w1 ⟨rfl,rfl⟩;refine qaa (fun hr=>same (by rw[writeM,if_neg (oP hd),if_pos (zC hr)]) rfl) (fun hr=>?_);have hr':=zB hr;refine qaa (fun hq=>same ?_ rfl) (fun hq=>?_);have:¬l.length=512:=(by simp at hq;omega);rw[writeM,if_neg (oP hd),if_neg hr',dif_neg this];have h512:l.length=512:=(by simp at hq;omega);obtain⟨blk,hblk⟩:∃blk:Blk,blk.1=l:=⟨⟨l,h512⟩,rfl⟩;have hw:writeM D n l=((actM (addW D n blk)).1,if (actM (addW D n blk)).2 then 7 else 0):=by rw[writeM,if_neg (oP hd),if_neg hr',dif_pos h512];have:blk=⟨l,h512⟩:=Subtype.ext hblk;rw[this]
 rw[hw] at hk;have hd1:=ho.drew;refine qae (oA (c:=.slice) hd1 0 rfl wsl rfl ?_);obtain⟨sbk,so,scs,sT,sfr,hsa,hsbk,hsS,hscs⟩:=quJ hs (by rw[<- length_pos_iff];omega);obtain⟨sa,slen,scap⟩:=s;simp only at hsa hlen;subst hsa;refine qxT oJ<|qa0 (n:=512) (w:=w1.drew) hsbk (encK blk) (qaZ _) (by rw[<- h512,hscs,encK,hblk])<|qaN (ts:=[.raw]) (encW (n,blk)) (qq0 n blk _)<|qaP (qbO _)<|oB hd1 fun r w2 er fr2 ho2=>qaj (ho2.cell (off:=1) 1 rfl rfl) ?_;obtain⟨iW,hi,⟨z,hz,hzs⟩,hsz,hby⟩:=qwm;have hwl:=hD.waits;have hwr:=hD.writes;have hfz:=hD.fuse;have fr2':Fr [] w1 w2:=(Fr.refl [] w1).drew.trans fr2;have hbuf2:Buf encW 513 w2 wsl D.waits B:=hbuf.frame0 fr2';have hsb2:w2.heap[sb]?=some (.cells (D.safe.flatMap encK).toArray T (0,0)):=(by rw[fr2'.block sb (qac hsb) oL];exact hsb);have hBF:∀b∈B,b∈F:=fun b hb=>by rw[hF];simp[hb]
 have hdbB:∀b∈B,b≠db:=fun b hb e=>by subst e;simp at hn;exact hn.1.2 hb
 have hsbB:∀b∈B,b≠sb:=fun b hb e=>by subst e;simp at hn;exact hn.2.1 hb
 have hrB:∀b∈B,b≠r:=fun b hb e=>by have:=hbuf.lt b hb;have e1:w1.drew.heap.size=w1.heap.size:=rfl;omega
 refine Buf.appSrc (ys:=[(n,blk)]) (e:=192) hbuf2 qbO oK hi hz hsz hzs (.ofSlice _ (e':=192) oK _ 1 1 _ ?_ ?_ ?_) rfl (by rw[hby];omega) oJ fun s' B' w3 g1 g2 g3 _=>?_;simp[qbO];intro j u hj;rw[Addr.add_mk,qai (ho2.at (i:=0) rfl),xO];have:(encW (n,blk))[j]?=some u:=(oP hj);simpa using this;intro u hu;have:u∈encW (n,blk):=(oP hu);exact all_eq_true.1 (qlq (n,blk)) u this;have ho3:Own F w1 w3 [(r,.cells (encW (n,blk)).toArray 192 (0,0)),(db,.cells (dCells D sb wsl) DT (0,0))]:=
  ho2.frame g2 (fun b hb=>.inl (hBF b hb)) (fun p hp=>by simp at hp;rcases hp with rfl|rfl;exact fun hb=>hrB _ hb rfl;exact fun hb=>hdbB _ hb rfl)
 have hsb3:w3.heap[sb]?=some (.cells (D.safe.flatMap encK).toArray T (0,0)):=(by rw[g2.block sb (qac hsb2) (fun hb=>hsbB _ hb rfl)];exact hsb2);have hc3:=ho3.at (i:=1) rfl;refine qae<|qd9 hc3 (dCells { D with waits:=D.waits++[(n,blk)] } sb s') rfl rfl (zO rfl) fun w4 hc4 f4=>qae (qah (c:=.i) hc4 D.writes rfl ?_);refine qae ?_;rw[wi' (D.writes+1) oJ];refine qd9 hc4 (dCells (addW D n blk) sb s') rfl rfl (zO rfl) fun w5 hc5 f5=>?_;have hs2:=fr2'.size;have hs3:=g2.size;have hne:sb≠db:=fun e=>by rw[e] at hn;simp at hn
 have f35:Fr [db] w3 w5:=f4.trans f5;have hB'db:∀b∈B',b≠db:=fun b hb e=>by
  rcases g3 b hb with h'|h';exact hdbB b h' e
  have:=qac hc;omega
 have hB'sb:∀b∈B',b≠sb:=fun b hb e=>by
  rcases g3 b hb with h'|h';exact hsbB b h' e
  have:=qac hsb;omega
 have hB'n:B'.Nodup:=by rcases g1 with ⟨_,_,rfl⟩|⟨b',o',cs',T',rfl,_⟩;simp;simp
 have h5:DiskAt w5 db (db::sb::B') (addW D n blk):=(by refine⟨sb,T,s',B',rfl,?_,hc5,?_,?_⟩;simp only[nodup_cons,zG,not_or];exact⟨⟨fun e=>hne e.symm,fun hb=>hB'db _ hb rfl⟩,fun hb=>hB'sb _ hb rfl,hB'n⟩;rw[f35.block sb (qac hsb3) (oP hne)];exact hsb3;exact g1.frame f35 (fun b hb=>by simpa using hB'db b hb));have hF':∀b∈db::sb::B',b∈F\/w1.heap.size<=b:=fun b hb=>by simp only[zG] at hb;rcases hb with rfl|rfl|hb;exact .inl hdb;exact .inl (by rw[hF];simp);rcases g3 b hb with h'|h';exact .inl (hBF b h');exact .inr oJ
 have f15:Fr F w1 w5:=((fr2'.mono (fun i hi _=>by cases hi)).trans' g2 (fun b hb=>.inl (hBF b hb))).trans' f35 (fun b hb=>by simp at hb;subst hb;exact .inl hdb);refine qtL h5 (by show D.fuse<=_;omega) fun w6 h6 f6=>?_
 have:=hk (db::sb::B') w6 h6 (f15.trans' f6 (fun b hb=>by simp at hb;subst hb;exact .inl hdb)) hF'
 apply qaa<;>intro ha;rw[ha] at this;exact this;rw[ha] at this;exact this
def laySafe (s:List Blk) (x:Int×Blk):List Blk:=s.set x.1.toNat x.2
theorem qcC(l:List (Int×Blk)):∀s:List Blk,(l.foldl laySafe s).length=s.length:=by
 induction l with
 | nil=>intro s;rfl
 | cons x l ih=>intro s;rw[foldl_cons,ih,laySafe,xE]
def syncM (D:DiskM):DiskM×Int:=
 if D.down then (D,7) else if (actM D).2 then ((actM D).1,7) else ({ (actM D).1 with safe:=D.waits.foldl laySafe D.safe,waits:=[] },0)
theorem qcP(D:DiskM):(actM D).1.safe=D.safe/\(actM D).1.waits=D.waits:=by unfold actM;split;exact⟨rfl,rfl⟩;split<;>exact⟨rfl,rfl⟩
theorem qpa{db:Nat}(h:DiskAt w db F D)(hD:D.Ok)(hk:∀F' w',DiskAt w' db F' (syncM D).1->Fr F w w'->(∀b∈F',b∈F)->K (syncM D).2 w'): cW 101 [.pointer (pW db)] [.one .i] w K:=by
 refine qkg ?_;unfold qf8;have ac:=h.mem;have aG:=hD.fuse;refine qaf (fun b w'=>(D.down=true/\b=true/\w'=w)\/(D.down=false/\b=(actM D).2/\DiskAt w' db F (actM D).1/\Fr [db] w w')) ?_ ?_;obtain⟨sb,y,hc⟩:=h.cell;refine qae (qah hc D.down rfl ?_);exact qaa (fun I=>.inl ⟨I,rfl,rfl⟩) fun I=>qtL h oJ fun w1 h1 f1=>.inr ⟨I,rfl,h1,f1⟩;rintro b w1 (⟨I,rfl,rfl⟩|⟨I,rfl,h1,f1⟩);refine cond_true rfl ?_
 have:=hk F w1 (by rw[syncM,if_pos I];exact h) (.refl _ _) (fun b R=>R)
 rw[syncM,if_pos I] at this;exact this;have fF:Fr F w w1:=f1.mono (fun i z _=>by simp at z;subst z;exact ac);apply qaa<;>intro ha
 have:=hk F w1 (by rw[syncM,if_neg (by simp[I]),if_pos ha];exact h1) fF (fun b R=>R)
 rw[syncM,if_neg (by simp[I]),if_pos ha] at this;exact this;have au:syncM D=({ (actM D).1 with safe:=D.waits.foldl laySafe D.safe,waits:=[] },0):=(by rw[syncM,if_neg (by simp[I]),if_neg (by simp[ha])]);rw[au] at hk;obtain⟨O,ag⟩:=qcP D;generalize (actM D).1=D1 at h1 O ag hk;obtain⟨sb,T,y,B,hF,hn,hc,ai,A⟩:=h1;rw[O] at ai;rw[ag] at A;have U:sb≠db:=fun e=>by rw[e] at hn;simp at hn
 have hB:∀b∈B,b∉[sb]:=fun b R he=>by simp at he;subst he;simp at hn;exact hn.2.1 R
 have aI:=A.len;have av:=hD.waits;have aw:=hD.safe;refine qae (qah hc y rfl ?_);refine qag (fun x w'=>∃i:Nat,x=i/\i<=D.waits.length/\w'.heap[sb]?=some (.cells (((D.waits.take i).foldl laySafe D.safe).flatMap encK).toArray T (0,0))/\Fr [sb] w1 w') (fun x _=>((D.waits.length:Int)-x).toNat)
  ⟨0,rfl,oJ,ai,.refl _ _⟩ ?_
 rintro x w2 ⟨i,rfl,z,C,f2⟩ X hX;have V:w2.heap[db]?=some (.cells (dCells D1 sb y) DT (0,0)):=(by rw[f2.block db (qac hc) (by simpa using fun e=>U e.symm)];exact hc);apply qaa<;>intro E;have G:i<D.waits.length:=(by have:=zC E;omega);have ax:Rds encW 513 [] w2 y D.waits:=(A.frame f2 hB).rds qbO oL;have aj:=zA G;have aK:=hD.at_ D.waits[i] (zW G);refine ax.getV qbO i rfl aj<|Own.newFill (oE [] w2) oK (qbO _) (qlq _) fun r J er ho=>?_;have ay:J.heap[sb]?=some (.cells (((D.waits.take i).foldl laySafe D.safe).flatMap encK).toArray T (0,0)):=(by rw[ho.fr.block sb (qac C) oL];exact C);have aa:J.heap[db]?=some (.cells (dCells D1 sb y) DT (0,0)):=(by rw[ho.fr.block db (qac V) oL];exact V);refine qae (qah (w:=J.drew) aa ⟨pW sb,D1.safe.length,D1.safe.length⟩ rfl ?_);have ak:=ho.at (i:=0) rfl;refine qah (w:=J.drew) ak D.waits[i].1 rfl<|qa0 (n:=512) (w:=J.drew) ak (encK D.waits[i].2) (qaZ _) (by rw[show (encW D.waits[i]).toArray.toList.drop 1=encK D.waits[i].2 from rfl,zS (by rw[qaZ];exact zM _)]) ?_;have u:=qcC (D.waits.take i) D.safe;refine qdR oJ (by rw[O];omega)<|qaP (qaZ _) ?_;have Q:0+Int.toNat D.waits[i].1*512+(encK D.waits[i].2).length<=(((D.waits.take i).foldl laySafe D.safe).flatMap encK).toArray.size:=by rw[size_toArray,qbZ qaZ,qaZ,u];omega
 refine qd9 (w:=J.drew) ay (((((D.waits.take i).foldl laySafe D.safe).set D.waits[i].1.toNat D.waits[i].2).flatMap encK).toArray) (by rw[xO];exact qrw qaZ ((D.waits.take i).foldl laySafe D.safe) D.waits[i].1.toNat D.waits[i].2 (by rw[u];omega)) (qpB _) Q fun w4 az f4=>?_;rw[wi' _ oJ];refine hX _ _ ⟨i+1,oL,oJ,?_,?_⟩ oJ;rw[yF G,foldl_append];exact az;have aA:Fr [sb] w2 J.drew:=ho.fr.drew.mono (fun i z _=>by cases z);exact f2.trans (aA.trans f4);have G:i=D.waits.length:=(by have:=zB E;omega);subst G;rw[xX] at C;refine qae ?_;have u:=qcC D.waits D.safe;refine qd9 V (dCells { D1 with safe:=D.waits.foldl laySafe D.safe,waits:=[] } sb ⟨none,0,0⟩) (by simp[splice,dCells,u,O]) rfl (zO rfl) fun J aa f3=>?_;have aB:Fr F w J:=(fF.trans (f2.mono (fun i z _=>by simp at z;subst z;rw[hF];simp))).trans (f3.mono (fun i z _=>by simp at z;subst z;exact ac));refine hk [db,sb] J ⟨sb,T,⟨none,0,0⟩,[],rfl,by simpa using fun e=>U e.symm,aa,?_,.nil _ _ _⟩ aB (fun b R=>by rw[hF];simp at R;rcases R with rfl|rfl<;>simp);rw[f3.block sb (qac C) (oP U)];exact C
def lastW (n:Int):List (Int×Blk)->Option Blk
 | []=>none
 | x::r=>match lastW n r with|some b=>some b|none=>if x.1=n then some x.2 else none
theorem qoa{n:Int}:∀(l:List (Int×Blk)) (i:Nat) (h:i<l.length),lastW n (l.drop (i+1))=none->l[i].1=n->lastW n l=some l[i].2
 | x::l,0,h,u,y=>by simp only[xO,drop_succ_cons,xD] at u;simp only[getElem_cons_zero] at y⊢;simp[lastW,u,y]
 | x::l,i+1,h,u,y=>by
  have:=qoa l i (oP h) (oP u) (oP y)
  simp only[lastW,this,getElem_cons_succ]
theorem qsU:∀(l:List (Int×Blk)) (i:Nat) (h:i<l.length),lastW n (l.drop (i+1))=none->l[i].1≠n->lastW n (l.drop i)=none:=by intro l i h y u;rw[zX h,lastW,y];simp[u]
def readV (D:DiskM) (n:Int):List Int×Int:=
 if D.down then ([],7) else if n<0\/n>=D.safe.length then ([],4) else
 match lastW n D.waits with|some b=>(b.1,0)|none=>((D.safe.getD n.toNat .zero).1,0)
theorem qqF{b o n:Nat}{h:Nat}{K:Sl->Prop}(u:0<n)(k:K ⟨some ⟨b,o,none⟩,n,n⟩):slcP ⟨b,o,none⟩ n none none none h K:=by unfold slcP;refine⟨oL,?_⟩;simp only[xT,zJ,Int.toNat_zero,Nat.sub_zero,Nat.zero_mul];rw[iN,qi2];exact k
theorem qpC{b o:Nat}{h:Nat×Nat}{x:Blk}(A:w.heap[b]?=some (.cells cs T h))(C:(cs.toList.drop o).take 512=encK x)(E:b∉S:=by simp):RdB S w ⟨some ⟨b,o,none⟩,512,512⟩ x.1:=by
 refine⟨x.2.symm,zM _,.inr ⟨b,o,cs,T,h,rfl,A,E,fun i v u=>?_⟩⟩;have y:=(zP.1 u).1;rw[x.2] at y;rw[xQ];have z:(encK x)[i]?=some (.b v):=(by rw[encK,zQ,u];rfl);rw[<- C,xA,if_pos y,yZ] at z;apply ext_getElem?;intro j;rw[xA,yZ];match j with
 | 0=>simpa using z
 | j+1=>simp
theorem qqV{K:Value->WP}(u:∀rb w',(∀S w0 L,Own S w0 w L->Own S w0 w' ((rb,.cells #[s.v] 143 (0,0))::L))->K (.func (.func 132) #[] #[.pointer (pW rb)]) w'): cW 88 [s.v] [.one .any] w K:=by refine qjD ?_;unfold qfy;exact Pt.qjk (u _ _ fun S w0 L h=>h.alloc _)
theorem qra(l:List Blk)(i:Nat)(x:Blk)(h:l[i]?=some x):((l.flatMap encK++Z).drop (i*512)).take 512=encK x:=by have y:=(zP.1 h).1;have u:(l.flatMap encK).length=l.length*512:=qbZ qaZ l;rw[drop_append_of_le_length (by rw[u];omega),take_append_of_le_length (by rw[yB,u];omega)];exact qhW qaZ l i x h
theorem qtw{db c:Nat}{K:Sl×Int->WP}(h:DiskZ w db F D c Z)(hD:D.Ok)(hk:∀s' B w',BufB w' s' (readV D n).1 B->Fr [] w w'->(∀b∈B,w.heap.size<=b)->K (s',(readV D n).2) w'): cW 54 [.pointer (pW db),.i n] [.one .slice,.one .i] w K:=by
 refine qkf ?_;unfold qf7;refine oB (oE [] w) fun r1 w1 e1 f1 z=>oB z fun r3 w2 e2 f2 z=>oB z fun r5 w3 e3 f3 z=>?_;obtain⟨sb,T,Q,B,hF,hn,hc,av,ah⟩:=h;have ae:∀ {w':World},Fr [] w w'->w'.heap[db]?=some (.cells (dCellsC D sb c Q) DT (0,0)):=fun f=>by rw[f.block db (qac hc) oL];exact hc
 have aw:∀ {w':World},Fr [] w w'->w'.heap[sb]?=some (.cells (D.safe.flatMap encK++Z).toArray T (0,0)):=fun f=>by rw[f.block sb (qac av) oL];exact av
 have ax:∀ {e:Int} {w':World} {L'},readV D n=([],e)->Own [] w w' L'->L'[1]?=some (r3,.cells #[.slice none 0 0] 27 (0,0))->L'[0]?=some (r5,.cells #[.i e] 55 (0,0))->ld Cell.slice ⟨r3,0,none⟩ w' fun s=>ld .i ⟨r5,0,none⟩ w' fun x=>K (s,x) w':=by
  intro e w' L' he z h1 h0;refine oA z 1 h1 ⟨none,0,0⟩ rfl<|oA z 0 h0 e rfl ?_
  have:=hk ⟨none,0,0⟩ [] w' (by rw[he];exact .nil _ _ _) z.fr oL
  rw[he] at this;exact this
 refine qae (qah (ae z.fr) D.down rfl ?_);apply qaa<;>intro hd;exact oH z 1 rfl _ rfl rfl rfl fun w4 z _=>oH z 0 rfl _ rfl rfl rfl fun w5 z _=>ax (by rw[readV,if_pos hd]) z rfl rfl;refine qaf (fun b w'=>b=decide (n<0\/n>=D.safe.length)/\w'=w3.drew) ?_ ?_;refine oA z.drew 2 rfl n rfl<|qaa (fun hc=>?_) (fun aN=>?_);exact⟨by rw[zZ (Or.inl (zC hc))],rfl⟩;refine oA z.drew 2 rfl n rfl<|qae (qah (ae z.drew.fr) ⟨pW sb,D.safe.length,c⟩ rfl ⟨?_,rfl⟩)
 have:=zB aN
 by_cases h2:n>=D.safe.length<;>simp[this,h2];rintro b w4 ⟨rfl,rfl⟩;apply qaa<;>intro hr;exact oH z.drew 1 rfl _ rfl rfl rfl fun w4 z _=>oH z 0 rfl _ rfl rfl rfl fun w5 z _=>ax (by rw[readV,if_neg (oP hd),if_pos (zC hr)]) z rfl rfl;have aP:=zB hr;have aQ:0<=n:=oJ;have aR:n<D.safe.length:=oJ;have aS:=hD.waits;have aT:=hD.safe;have aU:=ah.len;have aB:readV D n=match lastW n D.waits with|some b=>(b.1,0)|none=>((D.safe.getD n.toNat .zero).1,0):=by rw[readV,if_neg (oP hd),if_neg aP]
 refine qae (qah (ae z.drew.fr) Q rfl ?_);refine qqV fun rb w5 aV=>?_;have aW:=aV _ _ _ z.drew;refine Own.rng (lb:=[.pointer (pW rb)]) aW rfl oK fun Dm l R Bz J E E0 w6 el eD bd aF hy=>qhr ?_;unfold qdP;refine oA aF 2 rfl Q rfl ?_;rw[wi' _ oJ];have aG:∀ {bl:Blk} {s7:Sl} {Bf:List Nat} {U wz:World} {af:List (Nat×Obj)},readV D n=(bl.1,0)->Own [] w U af->BufB U s7 bl.1 Bf->(∀b∈Bf,w.heap.size<=b)->(∀b∈Bf,b∉af.map (·.1))->Fr (af.map (·.1)) U wz->K (s7,0) wz:=by
  intro bl s7 Bf U wz af he aY ab C G fz
  have:=hk s7 Bf wz (by rw[he];exact ab.frame fz G) (aY.back fz) C
  rw[he] at this;exact this
 refine qag (fun x w'=>∃i:Nat,x=(i:Int)-1/\i<=D.waits.length/\lastW n (D.waits.drop i)=none/\Own [] w w' [(l,R),(Dm,.deferred (some [])),(rb,.cells #[Q.v] 143 (0,0)),(r5,.cells #[.i 0] 55 (0,0)),(r3,.cells #[.slice none 0 0] 27 (0,0)),(r1,.cells #[.i n] 3 (0,0))]) (fun x _=>(x+1).toNat)
  ⟨D.waits.length,by rw[aU],zM _,by rw[drop_length];rfl,aF⟩ ?_
 rintro x w7 ⟨i,rfl,hi,ag,V⟩ X hX;apply qaa<;>intro al;have bh:=zC al;obtain⟨i,rfl⟩:∃k,i=k+1:=⟨i-1,oJ⟩;have am:i<D.waits.length:=oJ;refine oA V 2 rfl Q rfl ?_;have aZ:Rds encW 513 [] w7 Q D.waits:=(ah.frame0 V.fr).rds qbO oL;refine aZ.getV qbO i oJ (zA am)<|hy ((((i+1:Nat):Int)-1),encW D.waits[i]) w7 _ (V.at (i:=0) rfl) ?_;dsimp only;refine Own.newFill V oK (qbO _) (qlq _) fun r w8 er A=>⟨A.at (i:=1) rfl,?_⟩;have I:=A.upd (o':=Bz) 1 rfl;refine oA I 0 rfl D.waits[i].1 rfl<|oA I 6 rfl n rfl ?_;apply qaa<;>intro hm;have ao:D.waits[i].1=n:=(oP hm);have ap:=qoa D.waits i am ag ao;have ac:readV D n=(D.waits[i].2.1,0):=(by rw[aB,ap]);refine qqF oM ?_;have aq:RdB [] (Pt.upd w8 l Bz) ⟨some ⟨r,1,none⟩,512,512⟩ D.waits[i].2.1:=
  qpC (x:=D.waits[i].2) (I.at (i:=0) rfl) (by rw[show (encW D.waits[i]).toArray.toList.drop 1=encK D.waits[i].2 from rfl,zS (by rw[qaZ];exact zM _)])
 refine qa3 (s:=⟨some ⟨r,1,none⟩,512,512⟩) aq (by rw[D.waits[i].2.2];decide) fun s7 Bf U ab ar ad _ _=>?_;have O:=I.frame0 ar;have u:=O.rebase;have C:∀b∈Bf,w.heap.size<=b:=fun b hb=>by have h1:(Pt.upd w8 l Bz).heap.size<=b:=ad b hb;have:=I.fr.size;omega
 have G:∀b∈Bf,b∉[r,l,Dm,rb,r5,r3,r1]:=fun b hb hm=>by
  have h1:(Pt.upd w8 l Bz).heap.size<=b:=ad b hb;have h2:∀p∈[r,l,Dm,rb,r5,r3,r1],p<(Pt.upd w8 l Bz).heap.size:=fun p hp=>by have y:=fun (k:Nat) (q:Nat×Obj) (hq:_[k]?=some q)=>qac (I.at (i:=k) hq);simp only[zG,xV,or_false] at hp;rcases hp with rfl|rfl|rfl|rfl|rfl|rfl|rfl;exact y 0 _ rfl;exact y 1 _ rfl;exact y 2 _ rfl;exact y 3 _ rfl;exact y 4 _ rfl;exact y 5 _ rfl;exact y 6 _ rfl
  have:=h2 b hm
  omega
 refine oH u 5 rfl _ rfl rfl rfl fun a1 u _=>oH u 4 rfl _ rfl rfl rfl fun a2 u _=>⟨u.at (i:=1) rfl,?_⟩;have u:=u.upd (o':=J 0) 1 rfl;refine cond_true rfl<|.inr ⟨0,_,rfl,u.at (i:=1) rfl,?_⟩;have u:=u.upd (o':=E 0) 1 rfl;exact Own.undefer u 2 rfl fun a3 u=>oA u 5 rfl s7 rfl<|oA u 4 rfl 0 rfl<|aG ac O ab C G u.fr;have ao:D.waits[i].1≠n:=(oP hm);refine⟨I.at (i:=1) rfl,?_⟩;have a4:=I.upd (o':=R) 1 rfl;refine cond_false rfl ?_;rw[wi' _ oJ];refine hX _ _ ⟨i,oJ,oJ,qsU D.waits i am ag ao,a4.sub (sublist_cons_self _ _)⟩ oJ;have y:=zB al;obtain rfl:i=0:=by omega
 rw[xD] at ag;refine .inl ⟨V.at (i:=0) rfl,?_⟩;have A:=(V.upd (o':=E0) 0 rfl).drew;have ac:readV D n=((D.safe.getD n.toNat .zero).1,0):=(by rw[aB,ag]);have aI:n.toNat<D.safe.length:=oJ;have a5:D.safe[n.toNat]?=some (D.safe.getD n.toNat .zero):=(by rw[yQ,zA aI];rfl);refine qae (qah (ae A.fr) ⟨pW sb,D.safe.length,c⟩ rfl ?_);refine oA A 5 rfl n rfl<|qdR aQ aR<|qqF oM ?_;have aq:RdB [] (Pt.upd w7 l E0).drew ⟨some ⟨sb,0+n.toNat*512,none⟩,512,512⟩ (D.safe.getD n.toNat .zero).1:=
  qpC (aw A.fr) (by rw[xO];exact qra D.safe n.toNat _ a5)
 refine qa3 (s:=⟨some ⟨sb,0+n.toNat*512,none⟩,512,512⟩) aq (by rw[(D.safe.getD n.toNat .zero).2];decide) fun s7 Bf U ab ar ad _ _=>?_;have O:=A.frame0 ar;have u:=O.rebase;have C:∀b∈Bf,w.heap.size<=b:=fun b hb=>by have h1:(Pt.upd w7 l E0).drew.heap.size<=b:=ad b hb;have:=A.fr.size;omega
 have G:∀b∈Bf,b∉[l,Dm,rb,r5,r3,r1]:=fun b hb hm=>by
  have h1:(Pt.upd w7 l E0).drew.heap.size<=b:=ad b hb;have h2:∀p∈[l,Dm,rb,r5,r3,r1],p<(Pt.upd w7 l E0).drew.heap.size:=fun p hp=>by have y:=fun (k:Nat) (q:Nat×Obj) (hq:_[k]?=some q)=>qac (A.at (i:=k) hq);simp only[zG,xV,or_false] at hp;rcases hp with rfl|rfl|rfl|rfl|rfl|rfl;exact y 0 _ rfl;exact y 1 _ rfl;exact y 2 _ rfl;exact y 3 _ rfl;exact y 4 _ rfl;exact y 5 _ rfl
  have:=h2 b hm
  omega
 exact oH u 4 rfl _ rfl rfl rfl fun a1 u _=>oH u 3 rfl _ rfl rfl rfl fun a2 u _=>Own.undefer u 1 rfl fun a3 u=>oA u 4 rfl s7 rfl<|oA u 3 rfl 0 rfl<|aG ac O ab C G u.fr
theorem qhG{db:Nat}{K:Sl×Int->WP}(h:DiskAt w db F D)(y:D.Ok)(A:∀u B w',BufB w' u (readV D n).1 B->Fr [] w w'->(∀b∈B,w.heap.size<=b)->K (u,(readV D n).2) w'): cW 54 [.pointer (pW db),.i n] [.one .slice,.one .i] w K:=qtw h.z y A
abbrev U32 (n:Int):Prop:=0<=n/\n<4294967296
theorem qga(h:U32 n)(r:List Int):first4 (be n 4++r)=n:=by rw[be4 h.1];exact qvr h
theorem qnZ:∀(c:List Int) (i:Nat),(c.flatMap (be · 4)).drop (4*i)=(c.drop i).flatMap (be · 4)
 | [],i=>by simp
 | a::c,0=>by simp
 | a::c,i+1=>by rw[yG,drop_succ_cons,<- qnZ c i,drop_append,qal,xZ (by rw[qal];omega),xG];congr 1
theorem qvD(c:List Int):(c.flatMap (be · 4)).length=4*c.length:=by
 induction c with
 | nil=>rfl
 | cons a c ih=>rw[yG,zF,qal,ih,yH];omega
theorem qkG{i:Nat}(h:i<c.length)(u:∀x∈c,U32 x):first4 ((c.flatMap (be · 4)).drop (4*i))=c[i]:=by rw[qnZ,zX h,yG];exact qga (u _ (zW h)) _
theorem qf0(next:Int)(c:List Int):(bodyV next c).length=6+4*c.length:=by rw[bodyV,zF,zF,qal,qvD];rfl
theorem qpL(c:List Int):IsB (c.flatMap (be · 4)):=by
 induction c with
 | nil=>exact fun x h=>by cases h
 | cons a c ih=>rw[yG];exact (qbb _ _).append ih
theorem qxu(x:Int):0<=wrap .u8 x/\wrap .u8 x<256:=by rw[wu8];omega
theorem qnP(next:Int)(c:List Int):IsB (bodyV next c):=by refine ((qbb _ _).append fun x h=>?_).append (qpL c);simp only[zG,xV,or_false] at h;rcases h with rfl|rfl<;>exact qxu _
theorem qqn{next:Int}(y:U32 next)(C:next≠1)(E:∀x∈c,U32 x)(G:risesB 1 c=true)(R:c.length<=123):parseV (bodyV next c)=(next,c,0):=by
 have z:=qf0 next c
 have e:bodyV next c=be next 4++([wrap .u8 (Int.fdiv c.length (2^8)),wrap .u8 c.length]++c.flatMap (be · 4)):=by rw[bodyV,zV]
 have A:first4 (bodyV next c)=next:=by rw[e];exact qga y _
 have h:cntV (bodyV next c)=c.length:=(by have I:(bodyV next c).getD 4 0=wrap .u8 (Int.fdiv c.length (2^8)):=(by rw[e,be4 y.1];rfl);have J:(bodyV next c).getD 5 0=wrap .u8 c.length:=(by rw[e,be4 y.1];rfl);have K:Int.fdiv (c.length:Int) (2^8)=0:=(by rw[Int.fdiv_eq_ediv_of_nonneg _ oM];omega);rw[cntV,I,J,wu8,wu8,K];omega);have u:numsV (bodyV next c) c.length=c:=by
  apply ext_getElem;simp[numsV];intro i C O;have:(bodyV next c).drop (6+4*i)=(c.flatMap (be · 4)).drop (4*i):=by have Q:(bodyV next c).drop 6=c.flatMap (be · 4):=(by rw[e,be4 y.1];rfl);rw[<- Q,xB]
  simp only[numsV,getElem_map,getElem_range,this];exact qkG O E
 rw[parseV,iN,if_neg (by rw[A,h];omega),h,zJ,u,if_pos G,A]
theorem qqT(x:Int)(h:0<=x/\x<18446744073709551616:=by omega):wrap .u64 x=x:=by unfold wrap;have:(IntKind.u64.signed)=false:=rfl;simp only[this,Bool.false_and,Bool.false_eq_true,if_false];exact Int.emod_eq_of_lt h.1 h.2
theorem quz{A B:Int}(k:Nat)(C:0<=A:=by omega)(y:A%2^k=0:=by omega)(E:0<=B:=by omega)(h:B<2^k:=by omega)(G:A+B<18446744073709551616:=by omega):bits .or .u64 A B=A+B:=by
 obtain⟨a,rfl⟩:∃a:Nat,A=a:=⟨A.toNat,oJ⟩;obtain⟨b,rfl⟩:∃b:Nat,B=b:=⟨B.toNat,oJ⟩;have z:a%2^k=0:=by have:((a:Int)%((2^k:Nat):Int))=0:=(by rw[Int.natCast_pow];exact y);omega
 have u:b<2^k:=(by have:(b:Int)<((2^k:Nat):Int):=(by rw[Int.natCast_pow];exact h);omega);obtain⟨q,rfl⟩:∃q,a=2^k*q:=⟨a / 2^k,by have:=Nat.div_add_mod a (2^k);omega⟩;show wrap .u64 ((BitVec.ofInt 64 ((2^k*q:Nat):Int)||| BitVec.ofInt 64 (b:Int)).toNat:Nat)=_;rw[BitVec.toNat_or,BitVec.ofInt_natCast,BitVec.ofInt_natCast,BitVec.toNat_ofNat,BitVec.toNat_ofNat,Nat.mod_eq_of_lt (show 2^k*q<2^64 by omega),Nat.mod_eq_of_lt (show b<2^64 by omega),<- Nat.two_pow_add_eq_or_of_lt u];rw[qqT _];omega
abbrev U64 (n:Int):Prop:=0<=n/\n<18446744073709551616
theorem qdC:superB q t=be (wrap .u32 (Int.fdiv q (2^32))) 4++(be (wrap .u32 q) 4++t.flatMap (be · 4)):=by rw[superB,zV]
theorem qiC(C:U64 q):parseQ (superB q t)=q:=by have h:Int.fdiv q (2^32)=q / 4294967296:=(by rw[Int.fdiv_eq_ediv_of_nonneg _ oM];rfl);have u:first4 (superB q t)=q / 4294967296:=(by rw[qdC,h,qaQ _];exact qga (by constructor<;>omega) _);have y:(superB q t).drop 4=be (wrap .u32 q) 4++t.flatMap (be · 4):=(by rw[qdC,drop_append,qal,xZ (by rw[qal];exact zM _)];rfl);have z:wrap .u32 q=q%4294967296:=(by unfold wrap;have:(IntKind.u32.signed)=false:=rfl;simp only[this,Bool.false_and,Bool.false_eq_true,if_false];rfl);have A:first4 ((superB q t).drop 4)=q%4294967296:=(by rw[y,z];exact qga (by constructor<;>omega) _);rw[parseQ,u,A,qqT (q / 4294967296),qqT (q%4294967296),qqT (q / 4294967296*2^32)];rw[quz 32];omega
theorem qts(q:Int)(t:List Int):IsB (superB q t):=by rw[qdC];exact (qbb _ _).append ((qbb _ _).append (qpL t))
theorem qoW(h:t.length=27)(u:∀x∈t,U32 x):parseT (superB q t)=t:=by
 apply ext_getElem;rw[qaT,h];intro i A y;have z:(superB q t).drop 8=t.flatMap (be · 4):=by rw[qdC,<- zV,drop_append,zF,qal,qal,xZ (by rw[zF,qal,qal];exact zM _)];rfl
 have:(superB q t).drop (8+4*i)=(t.flatMap (be · 4)).drop (4*i):=(by rw[<- z,xB]);simp only[parseT,getElem_map,getElem_range,this];exact qkG y u
theorem qrs{place:Int}(h:U64 q)(u:t.length=27)(A:∀x∈t,U32 x)(z:Int.tmod q 2=place):readSV place (sealV place 1 (superB q t))=((q,t),0):=by have y:U32 place:=(by rw[<- z,Int.tmod_eq_emod_of_nonneg h.1];constructor<;>omega);have C:=qgQ (kind:=1) (body:=superB q t) y (by rw[qcw u];decide);rw[readSV,C,if_neg oL,if_neg (by simp[qcw u]),if_neg (by rw[qiC h,z];simp),qiC h,qoW u A]
end
section
open Go Go.Pt List
open Go.IntKind (wrap)
open Classical
variable {k v:Nat}
theorem qvs{a b:Int}(h:IsB [a,b]):be (getV [a,b]) 2=[a,b]/\getV [a,b]=a*256+b:=by
 have u:=h a oL;have y:=h b oL;have e:getV [a,b]=a*256+b:=by rw[qh1 h (zO rfl)];show ((0*256+a)*256+b)=_;omega
 refine⟨?_,e⟩;rw[e,be2 oJ];congr 1;omega;congr 1;omega
structure NodeM where
 leaf:Bool
 keys:List Key
 vals:List Key
 kids:List Int
variable {n:NodeM}
def zeroN:NodeM:=⟨false,[],[],[]⟩
def capsV (k v:Nat):Nat×Nat:=if k<1\/k>24\/v>108 then (0,0) else (498 / (k+v),(498+k) / (4+k))
def rightV (n:NodeM) (k v:Nat):Prop:=
 (∀a∈n.keys,a.length=k)/\(∀a∈n.vals,a.length=v)/\Rising n.keys/\
 if n.leaf then n.kids=[]/\1<=n.keys.length/\n.keys.length<=(capsV k v).1/\n.vals.length=n.keys.length
 else (∀x∈n.kids,2<=x)/\n.vals=[]/\2<=n.kids.length/\n.kids.length<=(capsV k v).2/\n.keys.length+1=n.kids.length
def leafB (keys vals:List Key):List Int:=(keys.zip vals).flatMap fun x=>x.1++x.2
def bodyN (n:NodeM):List Int:=if n.leaf then be n.keys.length 2++leafB n.keys n.vals else be n.kids.length 2++n.kids.flatMap (fun x=>be x 4)++n.keys.flatten
def kindN (n:NodeM):Int:=if n.leaf then 3 else 4
noncomputable def writeNV (n:NodeM) (k v:Nat):Int×List Int×Int:=if rightV n k v then (kindN n,bodyN n,0) else (0,[],1)
def leafR (k v:Nat):Nat->List Int->List Key×List Key
 | 0,_=>([],[])
 | c+1,b=>(b.take k::(leafR k v c (b.drop (k+v))).1,(b.drop k).take v::(leafR k v c (b.drop (k+v))).2)
def kidsR:Nat->List Int->List Int
 | 0,_=>[]
 | c+1,b=>getV (b.take 4)::kidsR c (b.drop 4)
def keysR (k:Nat):Nat->List Int->List Key
 | 0,_=>[]
 | c+1,b=>b.take k::keysR k c (b.drop k)
def countV (b:List Int):Nat:=(b.getD 0 0*256+b.getD 1 0).toNat
def leafN (k v:Nat) (b:List Int):NodeM:=⟨true,(leafR k v (countV b) (b.drop 2)).1,(leafR k v (countV b) (b.drop 2)).2,[]⟩
def innerN (k:Nat) (b:List Int):NodeM:=⟨false,keysR k (countV b-1) ((b.drop 2).drop (countV b*4)),[],kidsR (countV b) (b.drop 2)⟩
noncomputable def readNV (kind:Int) (b:List Int) (k v:Nat):NodeM×Int:=
 if (capsV k v).1=0\/b.length<2\/b.length>500 then (zeroN,2)
 else if kind=3/\(b.drop 2).length=countV b*(k+v)/\rightV (leafN k v b) k v then (leafN k v b,0)
 else if kind=4/\1<=countV b/\(b.drop 2).length=countV b*4+(countV b-1)*k/\rightV (innerN k b) k v then (innerN k b,0)
 else (zeroN,2)
theorem qqv{kind:Int}{b:List Int}(h:(readNV kind b k v).2=0):rightV (readNV kind b k v).1 k v:=by unfold readNV at h⊢;split at h;cases h;rename_i z;rw[if_neg z];split at h;rename_i u;rw[if_pos u];exact u.2.2;rename_i u;rw[if_neg u];split at h;rename_i y;rw[if_pos y];exact y.2.2.2;cases h
theorem qgh{k v:Nat}:∀ {keys vals:List Key},(∀a∈keys,a.length=k)->(∀a∈vals,a.length=v)->keys.length=vals.length->(leafB keys vals).length=keys.length*(k+v)
 | [],[],_,_,_=>by simp[leafB]
 | a::r,b::s,y,z,A=>by
  have:=qgh (keys:=r) (vals:=s) (fun x u=>y x (zN _ u)) (fun x u=>z x (zN _ u)) (oP A)
  unfold leafB at this⊢;rw[zip_cons_cons,yG,zF,zF,y a oL,z b oL,this,yH,xR];omega
 | [],_::_,_,_,h=>by simp at h
 | _::_,[],_,_,h=>by simp at h
theorem qr9{k v:Nat}:∀ {keys vals:List Key},(∀a∈keys,a.length=k)->(∀a∈vals,a.length=v)->keys.length=vals.length->leafR k v keys.length (leafB keys vals)=(keys,vals)
 | [],[],_,_,_=>rfl
 | a::r,b::s,y,z,G=>by have ih:=qr9 (k:=k) (v:=v) (keys:=r) (vals:=s) (fun x u=>y x (zN _ u)) (fun x u=>z x (zN _ u)) (oP G);have A:=y a oL;have C:=z b oL;have e:leafB (a::r) (b::s)=a++(b++leafB r s):=(by unfold leafB;rw[zip_cons_cons,yG,zV]);rw[yH,leafR,e];have e1:(a++(b++leafB r s)).take k=a:=(by rw[<- A,take_left'];rfl);have E:(a++(b++leafB r s)).drop k=b++leafB r s:=(by rw[<- A,drop_left'];rfl);have I:(a++(b++leafB r s)).drop (k+v)=leafB r s:=(by rw[<- xB,E,<- C,drop_left'];rfl);have J:(b++leafB r s).take v=b:=(by rw[<- C,take_left'];rfl);rw[I,ih,e1,E,J]
 | [],_::_,_,_,h=>by simp at h
 | _::_,[],_,_,h=>by simp at h
theorem qr5{r:List Int}:∀ {l:List Int},(∀x∈l,0<=x/\x<4294967296)->kidsR l.length (l.flatMap (fun x=>be x 4)++r)=l
 | [],_=>rfl
 | a::l,h=>by have ih:=qr5 (r:=r) (l:=l) fun x y=>h x (zN _ y);have u:=qal a 4;rw[yH,kidsR,yG,zV];generalize l.flatMap (fun x=>be x 4)++r=R at ih⊢;have e1:(be a 4++R).take 4=be a 4:=take_left' u;have z:(be a 4++R).drop 4=R:=drop_left' u;rw[e1,z,ih,qlv (h a oL)]
theorem qr4{k:Nat}:∀ {l:List Key},(∀a∈l,a.length=k)->keysR k l.length l.flatten=l
 | [],_=>rfl
 | a::l,h=>by have ih:=qr4 (k:=k) (l:=l) fun x y=>h x (zN _ y);have u:=h a oL;rw[yH,keysR,flatten_cons];have e1:(a++l.flatten).take k=a:=(by rw[<- u];exact take_left);have z:(a++l.flatten).drop k=l.flatten:=(by rw[<- u];exact drop_left);rw[e1,z,ih]
theorem qgb(l:List Int):(l.flatMap fun x=>be x 4).length=l.length*4:=by
 induction l with
 | nil=>rfl
 | cons a l ih=>rw[yG,zF,ih,qal,yH];omega
theorem qgc{k:Nat}:∀ {l:List Key},(∀a∈l,a.length=k)->l.flatten.length=l.length*k
 | [],_=>by simp
 | a::l,h=>by rw[flatten_cons,zF,qgc fun x u=>h x (zN _ u),h a oL,yH,xR];omega
theorem qnS{n:Nat}(h:n<65536)(r:List Int):countV (be (n:Int) 2++r)=n:=by
 have z:=qal (n:Int) 2;obtain⟨a,b,e⟩:∃a b,be (n:Int) 2=[a,b]:=by
  match be (n:Int) 2,z with
  | [a,b],_=>exact⟨a,b,rfl⟩
 have u:=qbb (n:Int) 2;have y:=qpR (n:=(n:Int)) ⟨oJ,oJ⟩;rw[e] at u y
 have:=(qvs u).2
 rw[y] at this;unfold countV;rw[e];show (a*256+b).toNat=n;omega
theorem qrR{n:Int}{r:List Int}:(be n 2++r).drop 2=r:=by
 have:=drop_left (l₁:=be n 2) (l₂:=r)
 rw[qal] at this;exact this
theorem qkC(a b:Nat):a / b*b<=a:=Nat.div_mul_le_self a b
theorem qtM{c:Nat}(h:c<=(capsV k v).1):c*(k+v)<=498:=by unfold capsV at h;split at h;rw[show c=0 from Nat.le_zero.1 h];omega;exact zL (Nat.mul_le_mul_right _ h) (qkC _ _)
theorem qsB{c:Nat}(h:c<=(capsV k v).2):c*4+(c-1)*k<=498:=by
 unfold capsV at h;split at h;rw[show c=0 from Nat.le_zero.1 h];omega;have u:c*(4+k)<=498+k:=zL (Nat.mul_le_mul_right _ h) (qkC _ _);cases c with
 | zero=>omega
 | succ c=>
  rw[Nat.add_sub_cancel];rw[xR,Nat.mul_add] at u;rw[xR];omega
theorem qbY:(capsV k v).1<=498/\(capsV k v).2<=498:=by unfold capsV;split;exact⟨oM,oM⟩;exact⟨Nat.div_le_self _ _,Nat.div_le_of_le_mul (by have:(498+k)<=(4+k)*498:=(by rw[xR];omega);exact this)⟩
theorem qef(h:rightV n k v):2<=(bodyN n).length/\(bodyN n).length<=500:=by
 obtain⟨y,A,C,u⟩:=h;unfold bodyN;cases z:n.leaf with
 | true=>
  rw[z,if_pos rfl] at u;rw[if_pos rfl,zF,qal,qgh y A u.2.2.2.symm]
  have:=qtM u.2.2.1
  omega
 | false=>
  rw[z,if_neg oM] at u;rw[if_neg oM,zF,zF,qal,qgb,qgc y]
  have:=qsB u.2.2.2.1
  have e:n.keys.length=n.kids.length-1:=oJ;rw[e];omega
theorem qqf:(⟨n.leaf,n.keys,n.vals,n.kids⟩:NodeM)=n:=rfl
theorem qtc(h:rightV n k v)(U:∀x∈n.kids,x<4294967296):readNV (kindN n) (bodyN n) k v=(n,0):=by
 have J:=qef h;have K:=h;obtain⟨G,O,h3,A⟩:=h;have V:=(qbY (k:=k) (v:=v));unfold readNV;cases z:n.leaf with
 | true=>
  rw[z,if_pos rfl] at A;have u:countV (bodyN n)=n.keys.length:=(by unfold bodyN;rw[z,if_pos rfl];exact qnS oJ _);have y:(bodyN n).drop 2=leafB n.keys n.vals:=(by unfold bodyN;rw[z,if_pos rfl];exact qrR);have C:leafN k v (bodyN n)=n:=by unfold leafN;rw[u,y,qr9 G O A.2.2.2.symm];rw[<- qqf (n:=n),z,A.1]
  rw[iN,if_pos ⟨by unfold kindN;rw[z];rfl,by rw[u,y,qgh G O A.2.2.2.symm],by rw[C];exact K⟩,C]
 | false=>
  rw[z,if_neg oM] at A;have Q:bodyN n=be n.kids.length 2++(n.kids.flatMap (fun x=>be x 4)++n.keys.flatten):=(by unfold bodyN;rw[z,if_neg oM,zV]);have u:countV (bodyN n)=n.kids.length:=(by rw[Q];exact qnS oJ _);have y:(bodyN n).drop 2=n.kids.flatMap (fun x=>be x 4)++n.keys.flatten:=(by rw[Q];exact qrR);have E:n.keys.length=n.kids.length-1:=oJ;have C:innerN k (bodyN n)=n:=by unfold innerN;have e:(n.kids.flatMap (fun x=>be x 4)++n.keys.flatten).drop (n.kids.length*4)=n.keys.flatten:=(by rw[<- qgb];exact drop_left);rw[u,y,qr5 fun x R=>⟨by have:=A.1 x R;omega,U x R⟩,e,<- E,qr4 G];rw[<- qqf (n:=n),z,A.2.1]
  have aa:1<=(capsV k v).1:=(by have I:=A.2.2.2.1;have h6:=A.2.2.1;unfold capsV at I⊢;by_cases hc:k<1\/k>24\/v>108;rw[if_pos hc] at I;have h8:n.kids.length<=0:=I;omega;rw[if_neg hc];have h7:k+v<=498:=oJ;exact (Nat.le_div_iff_mul_le (show 0<k+v by omega)).2 (by rw[Nat.one_mul];exact h7));rw[iN,if_neg (fun h=>by unfold kindN at h;rw[z] at h;exact absurd h.1 oM),if_pos ⟨by unfold kindN;rw[z];rfl,by rw[u];omega,by rw[u,y,zF,qgb,qgc G,E],by rw[C];exact K⟩,C]
theorem IsB.flat{l:List Key}(h:∀a∈l,IsB a):IsB l.flatten:=fun x u=>by obtain⟨a,y,u⟩:=mem_flatten.1 u;exact h a y x u
theorem qfZ(u:∀a∈n.keys,IsB a)(A:∀a∈n.vals,IsB a):IsB (bodyN n):=by unfold bodyN;split;refine (qbb _ _).append fun x h=>?_;obtain⟨y,C,h⟩:=yJ.1 h;have z:=of_mem_zip (a:=y.1) (b:=y.2) C;rcases zD.1 h with h|h;exact u _ z.1 x h;exact A _ z.2 x h;refine ((qbb _ _).append fun x h=>?_).append (IsB.flat u);obtain⟨y,_,h⟩:=yJ.1 h;exact qbb _ _ x h
end
section
open Go.ChangeShapes Go.WideShapes Go.ChangeAt Go.RowKit Go.Pt
theorem qya:ownKnob prog.godebug=none:=by kernel_rfl
theorem qum:laidOutB prog=true:=by kernel_rfl
abbrev laidH:List (String×DataW Unit):=[("cashbook/crc.halves",Rows.laid_cashbook_crc_halves)]
theorem qrZ:prog.globalNamed "cashbook/crc.halves"=some HG:=by kernel_rfl
theorem qwP:(prog.globals[HG]?).map (·.type)=some 290:=by kernel_rfl
theorem qwQ:prog.underlying 290=some (.array 16 32):=by kernel_rfl
theorem qvH:prog.underlying 32=some (.int .u32):=by kernel_rfl
set_option maxRecDepth 100000 in
theorem qvA(h:Os)(args:Array Value):laidMetH prog laidH ((World.doorLaid prog 4000 h).forCall (fun _ _=>0) ⟨#[],args,[]⟩).memory:=
 laidMetH_of_parts3 (fuel:=8) (laidMet_of_run' 8 oK oK) oK oK
theorem qsN{W:World}(h:laidMetH prog laidH W):Hv W:=by
 rw[MakeChecks.laidMetH_plain _ _ _ oK] at h;obtain⟨ps,⟨g0,t0,cs0,f0,p0,q0,hg0,ht0,hv0,hd0,_,_⟩,_,_⟩:=h;obtain rfl:=yN (qrZ.symm.trans hg0);obtain rfl:=yN (qwP.symm.trans ht0);obtain⟨xs,m1,rfl,hx1,hlen,hn3,hel⟩:=DataW.trod_array qwQ hd0;simp only[Prod.mk.injEq] at hx1;have hx:=hx1.1;unfold Rows.laid_cashbook_crc_halves at hx;rw[DataW.agg.injEq] at hx;have c31:prog.cellsOf 32=1:=oK;have hcl:prog.cellsOf 290=16:=oK;have hb:∃T fr,W.heap[HG]?=some (.cells cs0 T fr):=by unfold World.var? at hv0;rw[qrZ,Option.bind_some] at hv0;split at hv0;rename_i cs T fr hb;cases hv0;exact⟨T,fr,hb⟩;cases hv0
 obtain⟨T,fr,hb⟩:=hb;have key:∀(i:Nat) (n:Int),(xs.map (·.1))[i]?=some (DataW.lit (.int .u32 n))->cs0.toList[i]?=some (.int .u32 n):=by
  intro i n hi;rw[zQ] at hi;obtain⟨y,hy,hyn⟩:=yS.1 hi;have hil:i<xs.length:=(zP.1 hy).1;have h1:=hel i oJ;rw[c31] at h1;rw[hy] at h1;obtain⟨k,e1,e2,_⟩:=DataW.trod_int qvH h1;rw[e2] at hyn;have hk:k=n:=(oP hyn);subst hk
  have:=congrArg (·[0]?) e1
  simpa using this
 refine⟨T,fr,?_⟩;rw[hb];refine congrArg (fun c=>some (Obj.cells c T fr)) ?_;apply Array.ext';apply List.ext_getElem?;intro i;have hsz:cs0.toList.length=16:=hlen.trans hcl;have hx':xs.map (·.1)=halvesL.map (fun n=>DataW.lit (.int .u32 n)):=hx.symm;by_cases hi:i<halvesL.length;have h1:=key i halvesL[i] (by rw[hx',zQ,zA hi];rfl);rw[h1];show _=(halvesL.map (Value.int .u32))[i]?;rw[zQ,zA hi];rfl;have h16:halvesL.length=16:=rfl;rw[yR oJ];exact (yR (by rw[zK];omega)).symm
theorem qtt{x:Int}(h:IntKind.u8.has x):0<=x/\x<256:=by have u:(0:Int)<=x/\x<=255:=h;omega
end
section
open Go Go.Pt Go.Sort List
attribute [local irreducible] ld ldA ldV fld fldA newZ st new idx idxS idxA slc slcS slcP mkS chk nn call callV inv run runQ runU join loop held ext rng undefer s2a nxt ent IntKind.wrap
theorem qfn(l:List Int):l.flatMap encU=l.map (Value.int .u32):=by
 induction l with
 | nil=>rfl
 | cons a l ih=>rw[yG,ih];rfl
theorem qpm{w:World}{s:Sl}{l:List Int}{B:List Nat}{K:Unit->WP}(h:BufU w s l B)(hl:l.length<=1000000)(R:∀C w',BufU w' s C B->C.Perm l->C.Pairwise (·<=·)->Fr B w w'->K () w'): cW 81 [s.v] [] w K:=by
 rcases h with ⟨rfl,rfl,rfl⟩|⟨b,o,y,T,rfl,rfl,U,hb,V,h2,h3,E⟩;exact qpn (R [] w (.nil _ _ _) (.refl _) .nil (.refl _ _));obtain⟨a,len,cap⟩:=s;simp only at U V h2 h3 E;subst U V;rw[xD,xQ,qfn] at E;rw[xO,xQ] at h3;have G:y=u32s l.toArray++(y.toList.drop l.length).toArray:=by apply Array.ext';rw[Array.toList_append,u32s,Array.toList_map,<- E,xC]
 have z:Arr b ⟨T,some (y.toList.drop l.length).toArray⟩ w w l.toArray:=⟨.refl _ _,by rw[hb];show _=some (Obj.cells (u32s l.toArray++(y.toList.drop l.length).toArray) T (0,0));rw[<- G]⟩;refine qrI (len:=l.length) z ⟨oL,oJ⟩ fun u w' s1 s2 s3=>?_;have A:u.size=l.length:=(by have:=s1.1;simpa using this);have hp:u.toList.Perm l:=by
  have:=qcD s1
  rw[zS (by rw[Array.length_toList];omega)] at this;simpa using this
 have I:u.toList.length=l.length:=(by rw[<- A];rfl);have ah:y.toList.length=y.size:=rfl;refine R u.toList w' (.inr ⟨b,0,_,T,rfl,rfl,rfl,s3.blk,?_,?_,?_,?_⟩) hp ?_ s3.fr;show l.length=u.toList.length;exact I.symm;exact h2;show 0+cap*1<=(u32s u++(y.toList.drop l.length).toArray).size;have e:(y.toList.drop l.length).toArray.size=y.size-l.length:=oL;rw[Array.size_append,qdg,e,A];omega;show ((u32s u++(y.toList.drop l.length).toArray).toList.drop 0).take _=_;rw[xD,xQ,Array.toList_append,u32s,Array.toList_map,take_append_of_le_length (by rw[zK];exact zM _),zS (by rw[zK];exact zM _),qfn];rw[pairwise_iff_getElem];intro i j J O Q;have J:i<u.size:=J;have O:j<u.size:=O
 have:=s2 i j (yW _) Q oJ
 rw[getElem!_pos u i J,getElem!_pos u j O] at this;simp[ltInt] at this;simpa using this
theorem qpc{w:World}{mb:Nat}{f:List (Int×Value)}{K:Sl->WP}(G:MapS u32V w mb f)(I:f.length<=100000)(J:∀u B h w',BufU w' u h B->h.Perm (f.map (·.1))->h.Pairwise (·<=·)->Fr [] w w'->(∀b∈B,w.heap.size<=b)->K u w'): cW 128 [.map (some mb)] [.one .any] w fun v w'=> cW 127 [v] [.one .slice] w' fun s w'=>K s w':=by refine qp8 ?_;unfold qmx;refine oB (oE [] w) fun rk w1 e1 y O=>qlV ?_;unfold qhv;refine qkn ?_;unfold qgs;refine qoJ (G.frame y oL) (O.at (i:=0) rfl) I fun u B h w2 Q A R C=>?_;have hl:h.length=f.length:=(by have:=A.length_eq;simpa using this);refine qpm Q oJ fun U V b3 p3 s3 f3=>?_;have E:=y.size;exact J u B U V b3 (p3.trans A) s3 ((y.trans R).trans' f3 fun b z=>.inr (zL E (C b z))) fun b z=>zL E (C b z)
section
variable {w:World} {X:List Nat} {pb:Nat} {db:Option Addr} {F:List Nat} {M:PgM}
theorem qtB{K:Sl->WP}(h:PagerAt w X pb db F M)(z:M.fresh.length<=100000)(A:∀s B l w',BufU w' s l B->l.Perm (M.fresh.map (·.1))->l.Pairwise (·<=·)->Fr [] w w'->(∀b∈B,w.heap.size<=b)->K s w'): cW 83 [.pointer (pW pb)] [.one .slice] w K:=by obtain⟨fb,defb,mb,sl,sn,E,G,C,rfl,u⟩:=h;refine qh9 ?_;unfold qep;refine qae ?_;simp only[Addr.add_mk];refine qah u.cell (some mb) (qbG u.suplen) ?_;have y:C.length<=100000:=(by rw[u.fresh] at z;simpa using z);refine qpc u.map (oP y) fun s B l w' b p o f n=>A s B l w' b ?_ o f n;rw[u.fresh];simpa[Function.comp_def] using p
end
end
section
open Go Go.Pt List
open Go.IntKind (wrap)
attribute [local irreducible] ld ldA ldV fld fldA newZ st new idx idxS idxA slc slcS slcP mkS chk nn call callV inv run runQ runU join loop held ext rng undefer s2a nxt ent IntKind.wrap
variable {D:DiskM} {FD S X:List Nat} {K:Unit->WP} {db:Option Addr} {dbk n:Nat} {l l' lists numbers pages roots:List Int} {m:Option Nat} {offs:Array (Nat×Nat)} {over:Bool} {parts:List (Nat×Value)} {s sup:Sup} {sl sn:Sl} {w:World} {wk:List Value}
theorem qa5{A X Y Z:List Value}(h:X.length=Y.length):splice (A++X++Z).toArray A.length Y=(A++Y++Z).toArray:=by apply Array.ext';rw[qar _ _ _ (by rw[size_toArray];simp only[zF];omega)];exact qfC A X Y Z h
theorem qaF{u:Array Value}{i o s:Nat}{v:Value}{y:List (Nat×Value)}(h:offs[i]?=some (o,s))(z:v.cells.size=s)(C:o+s<=u.size): Instr.fill (offs[·]?) u ((i,v)::y)=Instr.fill (offs[·]?) (splice u o v.cells.toList) y:=by have A:=qhV o v.cells u;simp only[Instr.fill,h];rw[if_neg (by simp[z];omega),A]
theorem qc5{P:Program}{t:TypeId}{z:Value}{cs:Array Value}(u:(P.info? t).bind (·.zero)=some z)(y:P.underlying t=some (.struct (fieldsOf P t)))(h:∀w,((fieldsOf P t).mapM fun f=>do pure (f.offset,<- sizeOf f.type):Sem (Array (Nat×Nat))).run P w=.ok offs w)(A:Instr.fill (offs[·]?) z.cells parts=some cs)(w:World):(Instr.build t parts.toArray).run P w=.ok (.agg cs) w:=by simp only[Instr.build,Sem.run_bind,qaO u,Result.andThen_ok,run_underlying y,h,A,Sem.run_pure]
abbrev WKT:TypeId:=96
def workV (x y:Option Addr) (m:Option Nat) (roots:List Int):List Value:=[.pointer x,.pointer y,.map m]++roots.map (Value.int .u32)
theorem qaw{x y:Option Addr}(h:roots.length=24:=by rfl):(workV x y m roots).length=27:=by simp[workV,h]
theorem qyc:(prog.info? WKT).bind (·.zero)=some (.agg (workV none none none (zs 24)).toArray):=by kernel_rfl
theorem qsA{x y:Option Addr}(h:roots.length=24)(w:World): (Instr.build WKT #[(0,.pointer x),(1,.pointer y),(2,.map m),(3,.agg (roots.map (Value.int .u32)).toArray)]).run prog w=.ok (.agg (workV x y m roots).toArray) w:=by refine qc5 (parts:=[(0,.pointer x),(1,.pointer y),(2,.map m),(3,.agg (roots.map (Value.int .u32)).toArray)]) (offs:=#[(0,1),(1,1),(2,1),(3,24)]) qyc oK (fun w=>oK) ?_ w;have u:(Value.agg (roots.map (Value.int .u32)).toArray).cells.size=24:=(by show (roots.map (Value.int .u32)).toArray.size=24;simp[h]);rw[qaF (o:=0) (s:=1) rfl rfl (zO rfl),qaF (o:=1) (s:=1) rfl rfl (zO rfl),qaF (o:=2) (s:=1) rfl rfl (zO rfl),qaF (o:=3) (s:=24) rfl u (zO rfl)];show some _=_;congr 1;exact qa5 (A:=[.pointer x,.pointer y,.map m]) (X:=(zs 24).map (Value.int .u32)) (Z:=[]) (Y:=roots.map (Value.int .u32)) (by simp[h,qaK]) |>.trans (by rw[xF];rfl)
def pgRaw (db:Option Addr) (sup:Sup) (sl sn:Sl) (turn:Int) (over:Bool) (wk:List Value):Array Value:=
 ((Value.pointer db::supV sup.1 sup.2)++([sl.v,sn.v,.i turn,.bool over]:List Value)++wk).toArray
theorem qbw{turn:Int}{fb defb mb:Nat}: pgRaw db sup sl sn turn over (workV (pW fb) (pW defb) (some mb) roots)=pgCells db sup sl sn turn over fb defb mb roots:=by simp[pgRaw,pgCells,pgRest,workV]
section
variable {db:Option Addr} {sup:Sup} {sl sn:Sl} {turn:Int} {over:Bool} {wk:List Value}
theorem qbx(h:sup.2.length=27):(pgRaw db sup sl sn turn over wk).size=33+wk.length:=by rw[pgRaw,size_toArray,zF,zF,qa2 h];rfl
theorem qeu(u:sup.2.length=27)(j:Nat)(h:j<4:=by decide):(pgRaw db sup sl sn turn over wk)[29+j]?=([sl.v,sn.v,.i turn,.bool over]:List Value)[j]?:=by rw[pgRaw,List.getElem?_toArray,zV,yX (by rw[qa2 u];omega),qa2 u,xY,yY (by exact h)]
theorem qyb:(pgRaw db sup sl sn turn over wk)[0]?=some (.pointer db):=rfl
theorem qj8(y:sup.2.length=27)(n:Nat)(h:n<27:=by decide):(pgRaw db sup sl sn turn over wk)[n+2]?=some (.u (sup.2.getD n 0)):=by
 rw[pgRaw,List.getElem?_toArray,zV,yY (by rw[qa2 y];omega),List.getElem?_cons_succ]
 have:=qhy (q:=sup.1) (t:=sup.2) n
 rw[List.getElem?_toArray] at this;exact this
theorem qjw(h:sup.2.length=27):((pgRaw db sup sl sn turn over wk).toList.drop 5).take 24=(sup.2.drop 3).map (Value.int .u32):=by have u:((sup.2.drop 3).map (Value.int .u32)).length=24:=(by rw[zK,yB,h]);have e:(pgRaw db sup sl sn turn over wk).toList.drop 5=(sup.2.drop 3).map (Value.int .u32)++([sl.v,sn.v,.i turn,.bool over]++wk):=(by show List.drop 3 ((sup.2.map (Value.int .u32))++[_,_,_,_]++wk)=_;rw[zV,drop_append_of_le_length (by rw[zK,h];decide),xM]);rw[e,take_append_of_le_length (Nat.le_of_eq u.symm),zS (Nat.le_of_eq u)]
theorem qv4(y:sup.2.length=27){u:Int}:splice (pgRaw db sup sl sn turn over wk) 31 [.i u]=pgRaw db sup sl sn u over wk:=by
 have h:((Value.pointer db::supV sup.1 sup.2)++([sl.v,sn.v]:List Value)).length=31:=by rw[zF,qa2 y];rfl
 have:=qa5 (A:=(Value.pointer db::supV sup.1 sup.2)++([sl.v,sn.v]:List Value)) (X:=[.i turn]) (Y:=[.i u]) (Z:=.bool over::wk) rfl
 rw[h] at this;simpa[pgRaw] using this
theorem qqt(y:sup.2.length=27){u:List Value}(z:wk.length=u.length):splice (pgRaw db sup sl sn turn over wk) 33 u=pgRaw db sup sl sn turn over u:=by
 have h:((Value.pointer db::supV sup.1 sup.2)++([sl.v,sn.v,.i turn,.bool over]:List Value)).length=33:=by rw[zF,qa2 y];rfl
 have:=qa5 (A:=(Value.pointer db::supV sup.1 sup.2)++([sl.v,sn.v,.i turn,.bool over]:List Value)) (X:=wk) (Y:=u) (Z:=[]) z
 rw[h,xF,xF] at this;exact this
end
def insAll (l:List Int):List Int:=l.foldl (fun a n=>ins n a) []
theorem qr1(n:Int):∀l:List Int,(ins n l).length<=l.length+1
 | []=>by simp[ins]
 | a::l=>by
  have:=qr1 n l
  simp only[ins];split;simp;split;simp;simp only[yH];omega
theorem qrf{i:Nat}(h:i<l.length):insAll (l.take (i+1))=ins l[i] (insAll (l.take i)):=by rw[insAll,yF h,foldl_append];rfl
theorem qmr(l:List Int):(insAll l).length<=l.length:=by
 unfold insAll;have:∀(l a:List Int),(l.foldl (fun a n=>ins n a) a).length<=a.length+l.length:=by
  intro l;induction l with
  | nil=>intro a;simp
  | cons x l ih=>
   intro a;have h:=ih (ins x a);have u:=qr1 x a;rw[foldl_cons,yH];omega
 simpa using this l []
theorem qnk(l:List Int):∀a:List Int,a.Pairwise (· < ·)->(l.foldl (fun a n=>ins n a) a).Pairwise (· < ·):=by
 induction l with
 | nil=>intro a h;exact h
 | cons x l ih=>intro a h;exact ih _ (qcq h)
theorem qpM(l:List Int):∀a:List Int,(a++l).Nodup->(l.foldl (fun a n=>ins n a) a).Perm (a++l):=by
 induction l with
 | nil=>intro a h;rw[xF];exact .refl _
 | cons x l ih=>
  intro a h;have y:x∉a:=fun z=>by rw[yL] at h;exact h.2.2 x z x oL rfl
  have A:=qcg y;have u:(ins x a++l).Perm (a++x::l):=(A.append_right l).trans (perm_middle.symm);exact (ih (ins x a) (u.nodup_iff.2 h)).trans u
theorem qbV(l:List Int):(insAll l).Pairwise (· < ·):=qnk l [] .nil
theorem qgN(h:l.Nodup):(insAll l).Perm l:=by
 have:=qpM l [] (oP h)
 simpa[insAll] using this
theorem qwo(h:l.Pairwise (· < ·)):l.Pairwise (·<=·):=h.imp Int.le_of_lt
theorem qbP(h:l.Pairwise (· < ·)):l.Nodup:=h.imp (fun h=>Int.ne_of_lt h)
theorem qdT(h:l'.Perm l)(u:l'.Pairwise (·<=·))(y:l.Nodup):l'=insAll l:=
 qct (h.trans (qgN y).symm) u (qwo (qbV l))
theorem qje(h:l.Pairwise (· < ·)):insAll l=l:=(qdT (.refl _) (qwo h) (qbP h)).symm
theorem qdV{x y:Int}:∀ {l:List Int},y∈ins x l↔y=x\/y∈l
 | []=>by simp[ins]
 | a::l=>by
  have:=qdV (x:=x) (y:=y) (l:=l)
  simp only[ins];split;simp;split;rename_i h;subst h;simp;simp only[zG,this];constructor;rintro (h|h|h);exact .inr (.inl h);exact .inl h;exact .inr (.inr h);rintro (h|h|h);exact .inr (.inl h);exact .inl h;exact .inr (.inr h)
theorem qbQ{y:Int}:y∈insAll l↔y∈l:=by
 have:∀(l a:List Int),y∈l.foldl (fun a n=>ins n a) a↔y∈a\/y∈l:=by
  intro l;induction l with
  | nil=>intro a;simp
  | cons x l ih=>
   intro a;rw[foldl_cons,ih,qdV,zG];constructor;rintro ((h|h)|h);exact .inr (.inl h);exact .inl h;exact .inr (.inr h);rintro (h|h|h);exact .inl (.inr h);exact .inl (.inl h);exact .inr h
 rw[insAll,this];simp
def andThen (r:DiskM×Int) (f:DiskM->DiskM×Int):DiskM×Int:=if r.2=0 then f r.1 else r
def writesM:List (Int×List Int)->DiskM->DiskM×Int
 | [],D=>(D,0)
 | x::r,D=>andThen (writeM D x.1 x.2) (writesM r)
def spreadM (D:DiskM) (numbers pages:List Int):DiskM×Int:=
 if (bodiesV numbers pages).2≠0 then (D,(bodiesV numbers pages).2)
 else andThen (writesM ((pages.zip (bodiesV numbers pages).1).map fun x=>(x.1,sealV x.1 2 x.2)) D) syncM
def superP (s:Sup):Int×List Int:=(Int.tmod s.1 2,sealV (wrap .u32 (Int.tmod s.1 2)) 1 (superB s.1 s.2))
def sealM (D:DiskM) (s:Sup):DiskM×Int:=andThen (writeM D (superP s).1 (superP s).2) syncM
def allV (n:Nat):List Int:=(List.range (n-2)).map fun (i:Nat)=>(i:Int)+2
def fmtSup (n:Nat):Sup:=(1,[wrap .u32 n,2,wrap .u32 ((allV n).length-needP (allV n).length:Int)]++zs 24)
def formatM (D:DiskM):DiskM×Int:=
 andThen (writeM D 0 (zs 512)) fun D=>andThen (writeM D 1 (zs 512)) fun D=>andThen (syncM D) fun D=>
 andThen (spreadM D ((allV D.safe.length).drop (needP (allV D.safe.length).length)) ((allV D.safe.length).take (needP (allV D.safe.length).length))) fun D=>sealM D (fmtSup D.safe.length)
def walkM (D:DiskM) (blocks:Int):Nat->Int->List Int->List Int->Option (List Int×List Int)
 | 0,_,_,_=>none
 | f+1,a,h,named=>
  if a=0 then some (h,named) else
  if a<2\/a>=blocks\/a∈h then none else
  if (readV D a).2≠0 then none else
  if (openV a (readV D a).1).2.2≠0\/(openV a (readV D a).1).1≠2 then none else
  if (parseV (openV a (readV D a).1).2.1).2.2≠0 then none else
  walkM D blocks f (parseV (openV a (readV D a).1).2.1).1 (h++[a]) (named++(parseV (openV a (readV D a).1).2.1).2.1)
def namedB (blocks:Int) (lists:List Int):Int->List Int->Bool
 | _,[]=>true
 | h,n::r=>!(decide (n<=h)||decide (n>=blocks)||decide (n∈lists))&&namedB blocks lists n r
def loadM (D:DiskM) (s:Sup):Option (List Int×List Int):=
 match walkM D (s.2.getD 0 0) ((s.2.getD 0 0).toNat+1) (s.2.getD 1 0) [] [] with
 | none=>none
 | some x=>if namedB (s.2.getD 0 0) x.1 0 x.2=true/\(x.2.length:Int)=s.2.getD 2 0 then some x else none
def begunM (sup:Sup) (lists named:List Int) (turn:Int) (over:Bool) (h:List Int):PgM:=⟨sup,lists,named,turn,over,h,[],[],sup.2.drop 3⟩
def openM (D:DiskM):Option PgM×Int:=
 if (readV D 0).2≠0 then (none,(readV D 0).2) else
 if (readV D 1).2≠0 then (none,(readV D 1).2) else
 if (newestV (readV D 0).1 (readV D 1).1).2≠0 then (none,(newestV (readV D 0).1 (readV D 1).1).2) else
 if (newestV (readV D 0).1 (readV D 1).1).1.2.getD 0 0≠D.safe.length then (none,2) else
 match loadM D (newestV (readV D 0).1 (readV D 1).1).1 with
 | none=>(none,2)
 | some x=>(some (begunM (newestV (readV D 0).1 (readV D 1).1).1 x.1 x.2 1 false x.2),0)
def planM (M:PgM):Option (List Int×List Int):=
 if needP (M.free.length+(M.deferred++M.lists).length)>M.free.length then none
 else some (M.free.take (needP (M.free.length+(M.deferred++M.lists).length)),insAll ((M.deferred++M.lists)++M.free.drop (needP (M.free.length+(M.deferred++M.lists).length))))
def leafOf (fresh:List (Int×Int×List Int)) (n:Int):Int×List Int:=match look n fresh with|some q=>q.2|none=>(0,[])
def freshW (fresh:List (Int×Int×List Int)):List (Int×List Int):=(insAll (fresh.map (·.1))).map fun n=>(n,sealV n (leafOf fresh n).1 (leafOf fresh n).2)
def flushM (D:DiskM) (fresh:List (Int×Int×List Int)) (pages named:List Int) (next:Sup):DiskM×Int:=
 andThen (writesM (freshW fresh) D) fun D=>andThen (spreadM D named pages) fun D=>sealM D next
def nextS (M:PgM) (pages named:List Int):Sup:=(wrap .u64 (M.sup.1+1),[M.sup.2.getD 0 0,pages.headD 0,wrap .u32 named.length]++M.roots)
def overM:PgM:=begunM supZero [] [] 1 true []
def commitM (D:DiskM) (M:PgM):(DiskM×PgM)×Int:=
 if M.over then ((D,M),7) else
 if M.fresh=[]/\M.deferred=[]/\M.roots=M.sup.2.drop 3 then ((D,M),0) else
 match planM M with
 | none=>((D,M),6)
 | some x=>
  if (flushM D M.fresh x.1 x.2 (nextS M x.1 x.2)).2≠0 then (((flushM D M.fresh x.1 x.2 (nextS M x.1 x.2)).1,overM),(flushM D M.fresh x.1 x.2 (nextS M x.1 x.2)).2)
  else (((flushM D M.fresh x.1 x.2 (nextS M x.1 x.2)).1,begunM (nextS M x.1 x.2) x.1 x.2 (M.turn+1) false x.2),0)
def beginTail (pb:Nat) (x y:Option Addr) (mb:Nat) (vs:List Value) (K:Unit->WP) (w:World):Prop:=
 runQ [Ty1.raw] (fun (w':Go.World)=>(Instr.build WKT (#[(0,Value.pointer x),(1,Value.pointer y),(2,Value.map (some mb)),(3,Value.agg (List.toArray vs))])).run prog w') w<|
 fun (u:List Value)=>
 nn (pW pb)<|
 fun (A:Addr)=>
 chk (List.length u=27)<|
 st ({ block:=A.block,off:=A.off+33 }) u w<|
 fun (C:World)=>
 nn (pW pb)<|
 fun (E:Addr)=>
 ld Cell.slice ({ block:=E.block,off:=E.off+30 }) C<|
 fun (G:Sl)=>
 loop (Int) (fun (J:Int->WP) (z:Int) (h:World)=>
  cond (decide (z<(↑G.len:Int)))
   (idx G z 1<|
   fun (O:Addr)=>
   ld (Cell.int IntKind.u32) O h<|
   fun (Q:Int)=>
   nn (pW pb)<|
   fun (I:Addr)=>
   ld Cell.ptr ({ block:=I.block,off:=I.off+33 }) h<|
   fun (R:Option Addr)=>
   cW 87 ([Value.pointer R,Value.int IntKind.u32 Q]) ([Ty1.one Cell.bool]) h<|
   fun (V:Bool) (U:World)=>
   J (wrap IntKind.i64 (z+1)) U)
   (K () h)) 0 C
theorem qsv{w3:World}{pb fb defb mb:Nat}{turn:Int}{named:List Int}{F1 F2:List Nat}(O:sup.2.length=27)(hw:wk.length=27)(V:∀b∈X,b<w.heap.size/\b≠pb)(C:Rd (X++[pb]) w sl lists)(z:Rd (X++[pb]) w sn named)(hn:named.length<=100000)(ho:Own [pb] w w3 [(pb,.cells (pgRaw db sup sl sn turn over wk) PGT (0,0))])(h1:PoolAt w3 fb F1 [])(h2:PoolAt w3 defb F2 [])(h3:MapS u32V w3 mb [])(n1:∀b∈F1,w.heap.size<=b)(n2:∀b∈F2,w.heap.size<=b)(n3:w.heap.size<=mb)(ay:pb<w.heap.size)(aa:mb∉F1)(ab:mb∉F2)(ac:∀b∈F1,b∉F2)(hk:∀F' w',PagerAt w' X pb db F' (begunM sup lists named turn over (insAll named))->Fr [pb] w w'->(∀b∈F',b=pb\/w.heap.size<=b)->K () w'): beginTail pb (pW fb) (pW defb) mb ((sup.2.drop 3).map (Value.int .u32)) K w3:=by
 have y:(sup.2.drop 3).length=24:=(by rw[yB,O]);unfold beginTail;refine qaN (ts:=[Ty1.raw]) (workV (pW fb) (pW defb) (some mb) (sup.2.drop 3)) (qsA y w3)<|qae<|qaP (qaw y) ?_;have Q:(workV (pW fb) (pW defb) (some mb) (sup.2.drop 3)).all Value.oneCell'=true:=by rw[all_eq_true];intro v hv;simp only[workV,zD,zG,mem_map,xV,or_false] at hv;rcases hv with (rfl|rfl|rfl)|⟨x,_,rfl⟩<;>rfl
 refine oG ho 0 rfl (pgCells db sup sl sn turn over fb defb mb (sup.2.drop 3)) (by rw[<- qbw];exact qqt O (by rw[hw,qaw y])) Q (by rw[qbx O,qaw y,hw];exact zO rfl) fun w4 E f4=>?_;have I:∀b∈F1,b≠pb:=fun b u e=>by have:=n1 b u;omega
 have J:∀b∈F2,b≠pb:=fun b u e=>by have:=n2 b u;omega
 have hS:∀b∈pb::mb::(F1++F2),b∈[pb]\/w.heap.size<=b:=fun b u=>by simp only[zG,zD] at u;rcases u with rfl|rfl|u|u;exact .inl oL;exact .inr n3;exact .inr (n1 b u);exact .inr (n2 b u)
 have hx:PgX w4 X pb db (begunM sup lists named turn over []) fb defb mb sl sn F1 F2 []:={
  cell:=E.at (i:=0) rfl
  free:=h1.frame f4 fun b u=>by simpa using I b u
  deferred:=h2.frame f4 fun b u=>by simpa using J b u
  map:=h3.frame f4 oO
  fresh:=rfl
  rows:=by have hf:Fr (X++[pb]) w w4:=E.fr.mono fun b u _=>zI _ u;exact⟨C.frame hf (qnq hS),z.frame hf (qnq hS),fun e he=>by cases he⟩
  xlt:=fun b u=>yC (V b u).1 E.fr.size
  xsep:=qv9 (fun b u=>(V b u).1) (fun b u=>by simpa using (V b u).2) hS
  sep:=⟨oJ,fun b u=>⟨I b u,fun e=>aa (e▸u),ac b u⟩,fun b u=>⟨J b u,fun e=>ab (e▸u)⟩⟩
  suplen:=O
  rootlen:=y }
 refine qae (qah hx.cell sn (qvY O) ?_);have aB:=z.1;refine qag (fun x w'=>∃(i:Nat) (G:List Nat),x=i/\i<=named.length/\PgX w' X pb db (begunM sup lists named turn over (insAll (named.take i))) fb defb mb sl sn G F2 []/\Fr [pb] w w'/\∀b∈G,w.heap.size<=b) (fun x _=>((named.length:Int)-x).toNat)
  ⟨0,F1,rfl,oJ,hx,E.fr,n1⟩ ?_
 rintro x w5 ⟨i,G,rfl,hi,A,f5,n5⟩ Z hZ;apply qaa<;>intro hc;have R:i<named.length:=(by have:=zC hc;omega);refine Rd.at A.rows.named i rfl (zA R)<|qae (qah A.cell (pW fb) (qe9 O) ?_);have ai:=qmr (named.take i);rw[yK] at ai;refine ql3 A.free (by show (insAll (named.take i)).length<=_;omega) fun U w6 aj f6 n6=>?_;have ak:=A.setFree f6 aj n6;rw[wi' _ oJ];refine hZ _ _ ⟨i+1,U,oL,oJ,?_,f5.trans' f6 (fun b u=>.inr (n5 b u)),fun b u=>?_⟩ oJ;rw[qrf R];exact ak;rcases n6 b u with h|h;exact n5 b h;exact zL f5.size h;have:i=named.length:=(by have:=zB hc;omega);subst this;rw[xX] at A;refine hk _ w5 ⟨fb,defb,mb,sl,sn,G,F2,[],rfl,A⟩ f5 fun b u=>?_;simp only[zG,zD] at u;rcases u with rfl|rfl|u|u;exact .inl rfl;exact .inr n3;exact .inr (n5 b u);exact .inr (n2 b u)
theorem qfY{pb:Nat}{turn:Int}{named:List Int}(hc:w.heap[pb]?=some (.cells (pgRaw db sup sl sn turn over wk) PGT (0,0)))(hs:sup.2.length=27)(hw:wk.length=27)(ht:0<=turn/\turn<=1000000000)(hX:∀b∈X,b<w.heap.size/\b≠pb)(hlists:Rd (X++[pb]) w sl lists)(hnamed:Rd (X++[pb]) w sn named)(hn:named.length<=100000)(hk:∀F' w',PagerAt w' X pb db F' (begunM sup lists named (turn+1) over (insAll named))->Fr [pb] w w'->(∀b∈F',b=pb\/w.heap.size<=b)->K () w'): cW 52 [.pointer (pW pb)] [] w K:=by
 have hpb:=qac hc;have ho:Own [pb] w w [(pb,.cells (pgRaw db sup sl sn turn over wk) PGT (0,0))]:=⟨by simpa using hc,oL,.refl _ _,oL⟩;refine qib (p:=pW pb) ?_;unfold qer;refine qae (oA (c:=.i) ho 0 rfl turn (qeu hs 2) ?_);rw[wi' _ oJ];refine qae (oG ho 0 rfl (pgRaw db sup sl sn (turn+1) over wk) (qv4 hs) rfl (by rw[qbx hs,hw];exact zO rfl) fun w1 ho f1=>?_);have hrl:((sup.2.drop 3).map (Value.int .u32)).length=24:=(by rw[zK,yB,hs]);have hcA:∀ {w':World},w'.heap[pb]?=some (.cells (pgRaw db sup sl sn (turn+1) over wk) PGT (0,0))->cellsAt w' ⟨pb,5,none⟩ 0 ((sup.2.drop 3).map (Value.int .u32)):=fun h=>qbf h _ 5 0 (by rw[hrl];exact qjw hs);have tail:=fun {w3:World} {fb defb mb:Nat} {F1 F2:List Nat}=>qsv (w:=w) (w3:=w3) (X:=X) (pb:=pb) (fb:=fb) (defb:=defb) (mb:=mb) (F1:=F1) (F2:=F2) hs hw hX hlists hnamed hn (K:=K) (turn:=turn+1) (over:=over) (wk:=wk) (db:=db);have hs1:=f1.size;have ho':=ho.drew;generalize w1.drew=wd at ho';have hld:∀ {K':List Value->Prop},K' ((sup.2.drop 3).map (Value.int .u32))->ldV 24 ⟨pb,5,none⟩ wd K':=fun k=>qa0 (ho'.at (i:=0) rfl) _ hrl (qjw hs) k;have hsd:w.heap.size<=wd.heap.size:=ho'.fr.size;have fin:∀ {w3:World} {fb defb mb:Nat} {F1 F2:List Nat},Fr [] wd w3->PoolAt w3 fb F1 []->PoolAt w3 defb F2 []->MapS u32V w3 mb []->(∀b∈F1,wd.heap.size<=b)->(∀b∈F2,wd.heap.size<=b)->wd.heap.size<=mb->mb∉F1->mb∉F2->(∀b∈F1,b∉F2)->
   beginTail pb (pW fb) (pW defb) mb ((sup.2.drop 3).map (Value.int .u32)) K w3:=fun f p1 p2 p3 n1 n2 n3 s1 s2 s3=>
  tail (ho'.frame0 f) p1 p2 p3 (fun b hb=>zL hsd (n1 b hb)) (fun b hb=>zL hsd (n2 b hb)) (zL hsd n3) hpb s1 s2 s3 hk
 refine⟨?_,?_,?_⟩;refine qae ?_;simp only[Addr.add_mk];refine hld<|qfg fun fb F1 w2 p1 f2 n1=>qaj (hcA ((ho'.frame0 f2).at (i:=0) rfl))<|qfg fun defb F2 w3 p2 f3 n2=>qaj (hcA ((ho'.frame0 (f2.trans f3)).at (i:=0) rfl))<|oB (ho'.frame0 (f2.trans f3)) fun mb w4 e4 f4 ho4=>qaj (hcA (ho4.at (i:=1) rfl))<|fin ((f2.trans f3).trans f4) (p1.frame (f3.trans f4) oL) (p2.frame f4 oL) (.empty (ho4.at (i:=0) rfl)) n1 (fun b hb=>zL f2.size (n2 b hb)) (by rw[e4];exact (f2.trans f3).size) (fun hm=>?_) (fun hm=>?_) (fun b hb hb2=>?_)
 have:=(p1.frame f3 oL).lt mb hm;omega
 have:=p2.lt mb hm;omega
 have:=p1.lt b hb;have:=n2 b hb2;omega
 refine qae ?_;simp only[Addr.add_mk];refine hld<|qfg fun fb F1 w2 p1 f2 n1=>qaj (hcA ((ho'.frame0 f2).at (i:=0) rfl))<|oB (ho'.frame0 f2) fun mb w3 e3 f3 ho3=>qaj (hcA (ho3.at (i:=1) rfl))<|qfg fun defb F2 w4 p2 f4 n2=>?_;have ho4:=ho3.frame0 f4;refine qaj (hcA (ho4.at (i:=1) rfl)) ?_;have hmb:=qac (ho3.at (i:=0) rfl);refine fin ((f2.trans f3).trans f4) (p1.frame (f3.trans f4) oL) p2 (.empty (ho4.at (i:=0) rfl)) n1 (fun b hb=>zL (f2.trans f3).size (n2 b hb)) (by rw[e3];exact f2.size) (fun hm=>?_) (fun hm=>?_) (fun b hb hb2=>?_)
 have:=p1.lt mb hm;omega
 have:=n2 mb hm;omega
 have:=(p1.frame f3 oL).lt b hb;have:=n2 b hb2;omega
 refine qae ?_;simp only[Addr.add_mk];refine hld<|oB ho' fun mb w2 e2 f2 ho2=>qaj (hcA (ho2.at (i:=1) rfl)) ?_;have hmb:=qac (ho2.at (i:=0) rfl);refine qfg fun fb F1 w3 p1 f3 n1=>?_;have ho3:=ho2.frame0 f3;refine qaj (hcA (ho3.at (i:=1) rfl))<|qfg fun defb F2 w4 p2 f4 n2=>?_;have ho4:=ho3.frame0 f4;refine qaj (hcA (ho4.at (i:=1) rfl))<|fin ((f2.trans f3).trans f4) (p1.frame f4 oL) p2 (.empty (ho4.at (i:=0) rfl)) (fun b hb=>zL f2.size (n1 b hb)) (fun b hb=>zL (f2.trans f3).size (n2 b hb)) (by rw[e2];exact zM _) (fun hm=>?_) (fun hm=>?_) (fun b hb hb2=>?_)
 have:=n1 mb hm;omega
 have:=n2 mb hm;have:=f3.size;omega
 have:=p1.lt b hb;have:=n2 b hb2;omega
def view (D:DiskM) (n:Int):List Int:=match lastW n D.waits with|some b=>b.1|none=>(D.safe.getD n.toNat .zero).1
def DiskM.size (D:DiskM):Int:=D.safe.length
theorem qe1{n:Int}(h:D.down=false)(u:0<=n/\n<D.size):readV D n=(view D n,0):=by have y:n<(D.safe.length:Int):=u.2;rw[readV,if_neg (by rw[h];decide),iN,view];cases lastW n D.waits<;>rfl
theorem qfr(n:Int):∀(l:List (Int×Blk)) (x:Int×Blk),lastW n (l++[x])=if x.1=n then some x.2 else lastW n l
 | [],x=>rfl
 | y::l,x=>by simp only[xH,lastW];rw[qfr n l x];by_cases h:x.1=n;simp[h];simp[h]
theorem qly(n:Nat):∀(l:List (Int×Blk)) (s:List Blk),(∀x∈l,0<=x.1/\x.1<s.length)->(l.foldl laySafe s).getD n .zero=match lastW n l with|some b=>b|none=>s.getD n .zero
 | [],s,_=>rfl
 | x::l,s,h=>by
  have z:=h x oL;rw[foldl_cons,qly n l (laySafe s x) (fun y u=>by rw[laySafe,xE];exact h y (zN _ u)),lastW];cases lastW (n:Int) l with
  | some b=>rfl
  | none=>
   dsimp only;by_cases he:x.1=n;rw[if_pos he,laySafe,yQ];have:x.1.toNat=n:=oJ;rw[this,List.getElem?_set_self oJ];rfl;rw[if_neg he,laySafe,yQ,List.getElem?_set_ne oJ,yQ]
structure Quiet (D:DiskM):Prop where
 down:D.down=false
 fuse:D.fuse=-1
 at_:∀ x∈D.waits,0<=x.1/\x.1<D.safe.length
theorem Quiet.act(h:Quiet D):actM D=(D,false):=by rw[actM,if_neg (by rw[h.fuse];decide),if_neg (by rw[h.fuse];decide)]
theorem Quiet.write(h:Quiet D){n:Int}(z:0<=n/\n<D.size)(y:l.length=512): ∃D',writeM D n l=(D',0)/\Quiet D'/\D'.size=D.size/\∀m,view D' m=if m=n then l else view D m:=by have C:n<(D.safe.length:Int):=z.2;have A:Quiet (addW D n ⟨l,y⟩):=⟨h.down,h.fuse,fun x u=>by rcases zD.1 u with u|u;exact h.at_ x u;simp at u;subst u;exact⟨z.1,C⟩⟩;refine⟨addW D n ⟨l,y⟩,?_,A,rfl,fun m=>?_⟩;rw[writeM,if_neg (by rw[h.down];decide),iN,dif_pos y,A.act];rfl;rw[view,addW];dsimp only;rw[qfr];by_cases hm:m=n;rw[if_pos hm,if_pos hm.symm];rw[if_neg hm,if_neg (fun e=>hm e.symm),view]
theorem Quiet.sync(h:Quiet D):∃D',syncM D=(D',0)/\Quiet D'/\D'.size=D.size/\D'.waits=[]/\∀m,0<=m->view D' m=view D m:=by refine⟨{ D with safe:=D.waits.foldl laySafe D.safe,waits:=[] },?_,⟨h.down,h.fuse,fun x u=>by cases u⟩,?_,rfl,fun m y=>?_⟩;rw[syncM,if_neg (by rw[h.down];decide),h.act];rfl;show ((D.waits.foldl laySafe D.safe).length:Int)=_;rw[qcC];rfl;obtain⟨k,rfl⟩:∃k:Nat,m=k:=⟨m.toNat,oJ⟩;show ((D.waits.foldl laySafe D.safe).getD (k:Int).toNat .zero).1=_;rw[zJ,qly k _ _ h.at_,view,zJ];cases lastW (k:Int) D.waits<;>rfl
theorem Quiet.writes:∀ {l:List (Int×List Int)} {D:DiskM},Quiet D->(∀x∈l,(0<=x.1/\x.1<D.size)/\x.2.length=512)->(l.map (·.1)).Nodup-> ∃D',writesM l D=(D',0)/\Quiet D'/\D'.size=D.size/\(∀x∈l,view D' x.1=x.2)/\∀m,m∉l.map (·.1)->view D' m=view D m
 | [],D,h,_,_=>⟨D,rfl,h,rfl,(fun x u=>by cases u),fun m _=>rfl⟩
 | y::l,D,h,E,z=>by obtain⟨K,A⟩:=E y oL;obtain⟨D1,e1,O,G,I⟩:=h.write K A;rw[xK,nodup_cons] at z;obtain⟨Q,R,U,V,v2,J⟩:=Quiet.writes (l:=l) O (fun x u=>by rw[G];exact E x (zN _ u)) z.2;refine⟨Q,?_,U,V.trans G,fun x u=>?_,fun m C=>?_⟩;rw[writesM,e1];exact R;rcases zG.1 u with rfl|u;rw[J _ z.1,I,if_pos rfl];exact v2 x u;rw[xK,zG,not_or] at C;rw[J m C.2,I,if_neg C.1]
def chunk (numbers:List Int) (i:Nat):List Int:=(numbers.drop (123*i)).take 123
def Listed (D:DiskM) (numbers pages:List Int):Prop:=∀(i:Nat) p,pages[i]?=some p->view D p=sealV p 2 (bodyV (pages.getD (i+1) 0) (chunk numbers i))
theorem qhP(numbers pages:List Int)(k i:Nat):(bodiesL numbers pages k)[i]?=if i<k then some (bodyV (pages.getD (i+1) 0) (chunk numbers i)) else none:=by rw[bodiesL,zQ];by_cases h:i<k;rw[if_pos h,List.getElem?_range h];rfl;rw[if_neg h,yR (oP h)];rfl
theorem qgG(numbers pages:List Int)(k:Nat):(bodiesL numbers pages k).length=k:=by simp[bodiesL]
theorem qi6(numbers:List Int)(i:Nat):(chunk numbers i).length<=123:=by rw[chunk,yK];omega
structure ListOk (n:Int) (numbers pages:List Int):Prop where
 rises:numbers.Pairwise (· < ·)
 nums:∀ x∈numbers,2<=x/\x<n
 pgs:∀ x∈pages,2<=x/\x<n
 nodup:pages.Nodup
 apart:∀ x∈pages,x∉numbers
 room:numbers.length<=123*pages.length
theorem qii:∀(l:List Int) (a:Int),risesB a l=true↔(∀x∈l,a<x)/\l.Pairwise (· < ·)
 | [],a=>by simp[risesB]
 | x::l,a=>by rw[risesB,yA,yM,qii l x,yI];constructor;rintro⟨h,u,z⟩;refine⟨fun y A=>?_,u,z⟩;rcases zG.1 A with rfl|A;exact h;exact Int.lt_trans h (u y A);rintro⟨h,u,z⟩;exact⟨h x oL,u,z⟩
theorem ListOk.bodies{n:Int}(h:ListOk n numbers pages):bodiesV numbers pages=(bodiesL numbers pages pages.length,0):=by
 have u:risesB 1 numbers=true:=(qii _ _).2 ⟨fun x y=>by have:=h.nums x y;omega,h.rises⟩;rw[bodiesV,if_neg (by rw[u];have:=h.room;simp;omega),if_neg];rintro⟨p,z,A⟩
 have:=h.pgs p z
 omega
theorem qkP{α β:Type}{x:α×β}:∀ {l:List α} {r:List β},x∈l.zip r->∃i:Nat,l[i]?=some x.1/\r[i]?=some x.2
 | [],_,h=>by simp at h
 | _::_,[],h=>by simp at h
 | a::l,b::r,h=>by rw[zip_cons_cons,zG] at h;rcases h with rfl|h;exact⟨0,rfl,rfl⟩;obtain⟨i,u,y⟩:=qkP h;exact⟨i+1,by simpa using u,by simpa using y⟩
theorem qnJ{α β:Type}:∀ {l:List α} {r:List β},l.length=r.length->(l.zip r).map (·.1)=l
 | [],[],_=>rfl
 | a::l,b::r,h=>by rw[zip_cons_cons,xK,qnJ (oP h)]
theorem Quiet.spread(h:Quiet D)(C:ListOk D.size numbers pages): ∃D',spreadM D numbers pages=(D',0)/\Quiet D'/\D'.size=D.size/\D'.waits=[]/\Listed D' numbers pages/\∀m,0<=m->m∉pages->view D' m=view D m:=by
 have I:((pages.zip (bodiesL numbers pages pages.length)).map fun x=>(x.1,sealV x.1 2 x.2)).map (·.1)=pages:=(by rw[map_map];exact qnJ (by rw[qgG]));obtain⟨D1,e1,O,Q,R,J⟩:=h.writes (l:=(pages.zip (bodiesL numbers pages pages.length)).map fun x=>(x.1,sealV x.1 2 x.2)) (fun x U=>by
  obtain⟨y,V,rfl⟩:=mem_map.1 U;obtain⟨i,h1,u⟩:=qkP V;rw[qhP] at u;have z:=C.pgs _ (yE h1);refine⟨⟨by show 0<=y.1;omega,z.2⟩,qck ?_⟩;by_cases E:i<pages.length;rw[if_pos E] at u;have u:=yN u;rw[<- u,qf0]
  have:=qi6 numbers i
  omega;rw[if_neg E] at u;cases u) (by rw[I];exact C.nodup)
 rw[I] at J;obtain⟨D2,e2,q2,s2,w2,K⟩:=O.sync;refine⟨D2,?_,q2,s2.trans Q,w2,fun i p z=>?_,fun m hm G=>by rw[K m hm,J m G]⟩;rw[spreadM,C.bodies,if_neg oL];show andThen _ _=_;rw[e1];exact e2;have E:=(zP.1 z).1;have A:(p,sealV p 2 (bodyV (pages.getD (i+1) 0) (chunk numbers i)))∈(pages.zip (bodiesL numbers pages pages.length)).map fun x=>(x.1,sealV x.1 2 x.2):=by refine mem_map.2 ⟨(p,bodyV (pages.getD (i+1) 0) (chunk numbers i)),?_,rfl⟩;refine yE (i:=i) ?_;rw[List.getElem?_zip_eq_some];exact⟨z,by rw[qhP,if_pos E]⟩
 have ah:=C.pgs _ (yE z);rw[K p oJ];exact R _ A
theorem qkH(numbers:List Int):∀k,(List.range k).flatMap (chunk numbers)=numbers.take (123*k)
 | 0=>by simp
 | k+1=>by rw[range_succ,yP,qkH numbers k,flatMap_singleton,chunk,Nat.mul_succ,<- xC (123*k) (numbers.take (123*k+123))];congr 1;rw[take_take,xN oJ];rw[drop_take,xY]
theorem qsh{D:DiskM}{numbers pages:List Int}{n:Int}(Q:D.down=false)(R:D.size=n)(hn:n<=4096)(C:ListOk n numbers pages)(U:Listed D numbers pages): ∀(k i f:Nat),i+k=pages.length->k<f->walkM D n f (pages.getD i 0) (pages.take i) ((List.range i).flatMap (chunk numbers))=some (pages,numbers)
 | 0,i,f+1,hi,hf=>by have:pages.getD i 0=0:=(by rw[yQ,yR oJ];rfl);have V:=C.room;have K:i=pages.length:=oJ;subst K;rw[this,walkM,if_pos rfl,qkH,xX,zS V]
 | k+1,i,f+1,hi,hf=>by
  have u:i<pages.length:=oJ;have hp:pages.getD i 0=pages[i]:=(by rw[yQ,zA u];rfl);have V:=C.pgs _ (zW u);have G:pages[i]∉pages.take i:=fun hm=>by
   obtain⟨j,hj,he⟩:=getElem_of_mem hm;rw[getElem_take] at he;rw[yK] at hj
   have:=pairwise_iff_getElem.1 C.nodup j i oJ u oJ
   exact this he
  have hv:=U i _ (zA u);have y:=qe1 Q (n:=pages[i]) (by rw[R];omega);rw[hv] at y;have O:=qi6 numbers i;have E:=qgQ (number:=pages[i]) (kind:=2) (body:=bodyV (pages.getD (i+1) 0) (chunk numbers i)) oJ (by rw[qf0];omega);have I:∀x∈chunk numbers i,x∈numbers:=fun x J=>yT (yU J);have z:U32 (pages.getD (i+1) 0)/\pages.getD (i+1) 0≠1:=by
   rw[yQ];cases h:pages[i+1]? with
   | none=>exact⟨⟨oM,oM⟩,oM⟩
   | some p=>
    have:=C.pgs p (yE h)
    constructor;constructor<;>(simp;omega);simp;omega
  have A:=qqn z.1 z.2 (c:=chunk numbers i) (fun x J=>by have:=C.nums x (I x J);constructor<;>omega)
   ((qii _ _).2 ⟨fun x J=>by have:=C.nums x (I x J);omega,C.rises.sublist ((take_sublist _ _).trans (drop_sublist _ _))⟩) O
  rw[hp,walkM,iN,if_neg (by intro h;rcases h with h|h|h;omega;omega;exact G h),y,E,if_neg oL,if_neg oL,A,if_neg oL]
  have:=qsh Q R hn C U k (i+1) f oJ oJ
  rw[yF u,range_succ,yP,flatMap_singleton] at this;exact this
theorem qh4(n:Int)(lists:List Int):∀(l:List Int) (a:Int),namedB n lists a l=true↔(∀x∈l,a<x/\x<n/\x∉lists)/\l.Pairwise (· < ·)
 | [],a=>by simp[namedB]
 | x::l,a=>by
  rw[namedB,yA,qh4 n lists l x,yI];simp only[zT,Bool.or_eq_false_iff,decide_eq_false_iff_not,Int.not_le,Int.not_lt,ge_iff_le];constructor;rintro⟨⟨⟨u,z⟩,A⟩,C,E⟩;refine⟨fun y h=>?_,fun y h=>(C y h).1,E⟩;rcases zG.1 h with rfl|h;exact⟨u,z,A⟩
  have:=C y h;exact⟨oJ,this.2⟩
  rintro⟨u,z,A⟩
  have:=u x oL
  exact⟨⟨⟨this.1,this.2.1⟩,this.2.2⟩,fun y h=>⟨z y h,(u y (zN _ h)).2⟩,A⟩
theorem qjn:∀(n:Nat) (l:List Nat),l.Nodup->(∀x∈l,x<n)->l.length<=n
 | 0,l,_,h=>by cases l with
  | nil=>simp
  | cons a l=>exact absurd (h a oL) oJ
 | n+1,l,y,h=>by
  by_cases hm:n∈l;have A:=qjn n (l.erase n) (y.erase n) (fun x u=>by
   have z:=(y.mem_erase_iff).1 u
   have:=h x z.2
   have:=z.1
   omega)
  have:=length_erase_of_mem hm
  have:=length_pos_of_mem hm
  omega
  have:=qjn n l y (fun x u=>by
   have:=h x u
   have:x≠n:=fun e=>hm (e▸u);omega)
  omega
theorem qbR{n:Int}(A:l.Nodup)(h:∀x∈l,2<=x/\x<n):(l.length:Int)<=n-2\/l=[]:=by
 by_cases h0:l=[];exact .inr h0;left;obtain⟨a,C⟩:=exists_mem_of_ne_nil l h0;have G:=h a C
 have:=qjn (n-2).toNat (l.map fun x=>(x-2).toNat) (by
  refine pairwise_map.2 (A.imp_of_mem fun {x y} u z E=>?_)
  have:=h x u
  have:=h y z
  omega) (fun x u=>by
  obtain⟨y,z,rfl⟩:=mem_map.1 u
  have:=h y z
  omega)
 rw[zK] at this;omega
structure Opens (D:DiskM) (s:Sup) (pages numbers:List Int):Prop where
 down:D.down=false
 size:8<=D.size/\D.size<=4096
 newest:newestV (view D 0) (view D 1)=(s,0)
 blocks:s.2.getD 0 0=D.size
 list:s.2.getD 1 0=pages.headD 0
 free:s.2.getD 2 0=numbers.length
 ok:ListOk D.size numbers pages
 listed:Listed D numbers pages
theorem Opens.load(h:Opens D s pages numbers):loadM D s=some (pages,numbers):=by
 have z:walkM D D.size (D.size.toNat+1) (pages.headD 0) [] []=some (pages,numbers):=by
  have:=qsh h.down rfl h.size.2 h.ok h.listed pages.length 0 (D.size.toNat+1) oJ (by
   have:=qbR h.ok.nodup h.ok.pgs
   have C:=h.size;rcases this with y|y;omega;rw[y];simp)
  have e:pages.headD 0=pages.getD 0 0:=(by cases pages<;>rfl);rw[e];exact this
 rw[loadM,h.blocks,h.list,z];dsimp only;rw[if_pos];exact⟨(qh4 _ _ _ _).2 ⟨fun x u=>⟨by have:=h.ok.nums x u;omega,(h.ok.nums x u).2,fun A=>h.ok.apart x A u⟩,h.ok.rises⟩,h.free.symm⟩
theorem Opens.open(h:Opens D s pages numbers):openM D=(some (begunM s pages numbers 1 false numbers),0):=by have u:=qe1 h.down (n:=0) ⟨oM,by have:=h.size;omega⟩;have r1:=qe1 h.down (n:=1) ⟨oM,by have:=h.size;omega⟩;have y:s.2.getD 0 0=(D.safe.length:Int):=h.blocks;rw[openM,u,r1,h.newest,if_neg oL,if_neg oL,if_neg oL,if_neg (by rw[y];simp),h.load]
theorem qfc{α:Type}{enc:α->List Value}{k:Nat}{P:Program}{s:Sl}{l:List α}{tx e':TypeId}(h:Rds enc k S w s l)(y:∀x,(enc x).length=k)(z:∀x,∀u∈enc x,u.oneCell'=true)(C:P.underlying tx=some (.slice e'):=by kernel_rfl): Src P k tx s.v s.len (l.flatMap enc) w:=by
 obtain⟨a,len,cap⟩:=s;have A:=h.1;simp only at A;cases a with
 | none=>
  have:l=[]:=by rcases h.2.2 with h|⟨b,o,J,T,K,E,_⟩;exact h;cases E
  subst this;simp at A;subst A;exact .ofNil w C cap
 | some a=>
  refine .ofSlice w C a len cap _ (by rw[qbZ y,A]) (h.cells y rfl) fun u G=>?_;obtain⟨x,_,I⟩:=yJ.1 G;exact z x u I
theorem qpq{s src:Sl}{ys:List Int}{B:List Nat}{K:Sl->WP}(h:BufU w s l B)(E:Rd S w src ys)(U:l.length+ys.length<=1000000)(I:∀z B' w',BufU w' z (l++ys) B'->Fr B w w'->(∀b∈B',b∈B\/w.heap.size<=b)->K z w'): Pt.run [Ty1.one Cell.slice] ((Builtin.append_ #[31,31] 31 #[s.v,src.v]).run prog w) K:=by obtain⟨i,J,O,A,C⟩:=qdu;have y:=E.1;refine Buf.appSrc (e:=32) h qaE oK J O A rfl (qfc (e':=32) E qaE (fun x u G=>by simp at G;subst G;rfl)) y (by rw[C];omega) oJ fun z B' w' Q R n' _=>I z B' w' Q R n'
theorem qbL(h:D.Ok)(n:Int):IsB (readV D n).1/\(readV D n).1.length<=512:=by
 have E:IsB (zs 512):=IsB.zs 512;unfold readV;split;exact⟨(fun x z=>by cases z),oL⟩;split;exact⟨(fun x z=>by cases z),oL⟩;split;rename_i b G;refine⟨?_,Nat.le_of_eq b.2⟩;have:∀l:List (Int×Blk),(∀x∈l,IsB x.2.1)->lastW n l=some b->IsB b.1:=by
  intro l;induction l with
  | nil=>intro _ h;cases h
  | cons x l ih=>
   intro C u;rw[lastW] at u;cases A:lastW n l with
   | some c=>rw[A] at u;exact ih (fun y I=>C y (zN _ I)) (by rw[A];exact u)
   | none=>
    rw[A] at u;dsimp only at u;split at u;cases u;exact C x oL;cases u
 exact this _ h.bytesW G;refine⟨?_,Nat.le_of_eq (D.safe.getD n.toNat .zero).2⟩;rw[yQ];cases J:D.safe[n.toNat]? with
 | none=>exact E
 | some b=>exact h.bytesS b (yE J)
theorem qoh(h:IsB l)(n:Int):IsB (openV n l).2.1/\(openV n l).2.1.length<=l.length:=by
 have u:IsB ([]:List Int):=fun x y=>by cases y
 unfold openV;split;exact⟨u,oL⟩;split;exact⟨u,oL⟩;split;exact⟨u,oL⟩;split;exact⟨u,oL⟩;split;exact⟨u,oL⟩;refine⟨(h.take _).drop _,?_⟩;rw[yB,yK];omega
abbrev MIT:TypeId:=125
theorem qxO:prog.underlying MIT=some (.map 32 3):=by kernel_rfl
theorem qyi:∀w,(zeroValue 3).run prog w=.ok (.i 0) w:=fun w=>by kernel_rfl
def onesM (l:List Int):List (Int×Value):=l.map fun n=>(n,.i 1)
theorem qh6(n:Int):∀l:List Int,(n∈l->∃i,look n (onesM l)=some (i,.i 1))/\(n∉l->look n (onesM l)=none)
 | []=>⟨(fun h=>by cases h),fun _=>rfl⟩
 | a::l=>by
  obtain⟨A,C⟩:=qh6 n l;simp only[onesM,xK,look];by_cases h:n=a;rw[if_pos h];exact⟨fun _=>⟨0,rfl⟩,fun E=>absurd (by rw[h];simp) E⟩;rw[if_neg h];refine⟨fun u=>?_,fun u=>?_⟩;rcases zG.1 u with e|u;exact absurd e h;obtain⟨i,z⟩:=A u;unfold onesM at z;exact⟨i+1,by rw[z];rfl⟩
  have:=C (fun y=>u (zN _ y))
  unfold onesM at this;rw[this];rfl
theorem qpW{r:Nat}{n:Int}{K:Int->Prop}(h:MapS u32V w r (onesM lists))(k:∀x:Int,decide (x>0)=decide (n∈lists)->K x): runQ [Ty1.one .i] (fun w'=>(Instr.lookup MIT (.map (some r)) (.u n) false).run prog w') w K:=by
 have:=qe3 (P:=prog) qxO qyi qcr h.at n
 rw[qbS] at this;obtain⟨y,z⟩:=qh6 n lists;by_cases hn:n∈lists;obtain⟨i,A⟩:=y hn;rw[A] at this;exact qaN (ts:=[Ty1.one .i]) (1:Int) this (k 1 (by simp[hn]));rw[z hn] at this;exact qaN (ts:=[Ty1.one .i]) (0:Int) this (k 0 (by simp[hn]))
theorem qor{u:Sl}{turn:Int}(y:sup.2.length=27):splice (pgRaw db sup sl sn turn over wk) 29 [u.v]=pgRaw db sup u sn turn over wk:=by
 have h:=qa2 (db:=db) y
 have:=qa5 (A:=(Value.pointer db::supV sup.1 sup.2)) (X:=[sl.v]) (Y:=[u.v]) (Z:=sn.v::.i turn::.bool over::wk) rfl
 rw[h] at this;simpa[pgRaw] using this
theorem qos{u:Sl}{turn:Int}(y:sup.2.length=27):splice (pgRaw db sup sl sn turn over wk) 30 [u.v]=pgRaw db sup sl u turn over wk:=by
 have h:((Value.pointer db::supV sup.1 sup.2)++([sl.v]:List Value)).length=30:=by rw[zF,qa2 y];rfl
 have:=qa5 (A:=(Value.pointer db::supV sup.1 sup.2)++([sl.v]:List Value)) (X:=[sn.v]) (Y:=[u.v]) (Z:=.i turn::.bool over::wk) rfl
 rw[h] at this;simpa[pgRaw] using this
theorem qja:U32 (first4 l):=by unfold first4 get4V;exact qco _ _ _
theorem qs2(l:List Int):U32 (parseV l).1:=by unfold parseV;split;constructor<;>decide;split;constructor<;>decide;split;exact qja;constructor<;>decide
theorem qs3(l:List Int):(parseV l).2.1.length<=123:=by unfold parseV;split;simp;split;simp;rename_i h;split;simp only[numsV,zK,length_range];omega;simp
structure Walk (w:World) (FD:List Nat) (pb r:Nat) (db:Option Addr) (sup:Sup) (turn:Int) (over:Bool) (wk:List Value) (a:Int) (lists named:List Int) (w':World) (sl sn:Sl) (B1 B2:List Nat):Prop where
 own:Own [pb] w w' [(pb,.cells (pgRaw db sup sl sn turn over wk) PGT (0,0))]
 b1:BufU w' sl lists B1
 b2:BufU w' sn named B2
 map:MapS u32V w' r (onesM lists)
 n1:∀ b∈B1,w.heap.size<=b/\b≠r/\b∉B2
 n2:∀ b∈B2,w.heap.size<=b/\b≠r
 nr:w.heap.size<=r
 at_:U32 a
 nodup:lists.Nodup
 range:∀ x∈lists,2<=x/\x<sup.2.getD 0 0
 len:named.length<=123*lists.length
theorem qvc{pb:Nat}{turn:Int}{K:Bool->WP}(hc:w.heap[pb]?=some (.cells (pgRaw (pW dbk) sup ⟨none,0,0⟩ ⟨none,0,0⟩ turn over wk) PGT (0,0)))(I:sup.2.length=27)(hw:wk.length=27)(hd:DiskAt w dbk FD D)(hD:D.Ok)(hv:Hv w)(a5:pb∉FD)(a6:pb≠HG)(bK:sup.2.getD 0 0<=4096)(a7:U32 (sup.2.getD 1 0))(bL:U32 (sup.2.getD 2 0))(O:loadM D sup=none->∀w',Fr [pb] w w'->K false w')(hk:∀sl sn u named w',loadM D sup=some (u,named)->Own [pb] w w' [(pb,.cells (pgRaw (pW dbk) sup sl sn turn over wk) PGT (0,0))]->(∀G:List Nat,(∀b∈G,b<w.heap.size)->Rd G w' sl u/\Rd G w' sn named)->K true w'): cW 68 [.pointer (pW pb)] [.one .bool] w K:=by
 have bA:=qac hc;have ho:Own [pb] w w [(pb,.cells (pgRaw (pW dbk) sup ⟨none,0,0⟩ ⟨none,0,0⟩ turn over wk) PGT (0,0))]:=⟨by simpa using hc,oL,.refl _ _,oL⟩;refine qiS ?_;unfold qeP;refine oB ho fun r w1 e1 f1 U=>?_;have ak:MapS u32V w1 r (onesM []):=.empty (U.at (i:=0) rfl);have U:=U.sub (L':=[(pb,_)]) (List.Sublist.cons _ (List.Sublist.refl _));refine qae (oA U 0 rfl (sup.2.getD 1 0) (qj8 I 1) ?_);have aB:∀ {w':World},Fr [pb] w w'->DiskAt w' dbk FD D:=fun f=>hd.frame f fun b A=>by simp only[zE];rintro rfl;exact a5 A
 have half:∀ {w':World},Fr [pb] w w'->Hv w':=fun f=>hv.frame f (by simpa using fun e=>a6 e.symm);generalize a8:(sup.2.getD 0 0).toNat+1=F0;have C:loadM D sup=match walkM D (sup.2.getD 0 0) F0 (sup.2.getD 1 0) [] [] with|none=>none|some x=>if namedB (sup.2.getD 0 0) x.1 0 x.2=true/\(x.2.length:Int)=sup.2.getD 2 0 then some x else none:=by rw[<- a8];rfl
 refine qag (fun a w'=>∃u named sl sn B1 B2 f,Walk w FD pb r (pW dbk) sup turn over wk a u named w' sl sn B1 B2/\f+u.length=F0/\walkM D (sup.2.getD 0 0) f a u named=walkM D (sup.2.getD 0 0) F0 (sup.2.getD 1 0) [] [])
  (fun a w'=>match w'.heap[r]? with|some (.map es _)=>F0-es.size|_=>0) ⟨[],[],⟨none,0,0⟩,⟨none,0,0⟩,[],[],F0,⟨U,.nil _ _ _,.nil _ _ _,ak,oL,oL,by rw[e1];exact zM _,a7,.nil,oL,oL⟩,rfl,rfl⟩ ?_
 rintro a w2 ⟨u,named,sl,sn,B1,B2,f,H,hf,z⟩ X hX;have bB:u.length<F0:=by rcases qbR H.nodup H.range with h|h;omega;rw[h];simp;omega
 obtain⟨f,rfl⟩:∃g,f=g+1:=⟨f-1,oJ⟩;have aC:=H.own.fr;apply qaa<;>intro al;have am:a≠0:=(oP al);rw[walkM,if_neg am] at z;refine qaf (fun b w'=>b=decide (a<2\/a>=sup.2.getD 0 0\/a∈u)/\w'=w2) ?_ ?_;refine qaa (fun h=>⟨by rw[zZ (Or.inl (zC h))],rfl⟩) (fun h=>?_);have h1:=zB h;refine qae (oA H.own 0 rfl (sup.2.getD 0 0) (qj8 I 0) ?_);refine qaa (fun h=>⟨by rw[zZ (Or.inr (Or.inl (zC h)))],rfl⟩) (fun h=>?_);have Q:=zB h;refine qpW H.map fun x V=>⟨?_,rfl⟩;rw[V];refine decide_eq_decide.2 ⟨fun h=>.inr (.inr h),fun h=>?_⟩;rcases h with h|h|h;exact absurd h h1;exact absurd h Q;exact h;rintro b w3 ⟨rfl,rfl⟩;apply qaa<;>intro h;have h:=zC h;rw[if_pos h] at z;exact O (by rw[C,<- z]) w3 aC;have ae:=zB h;rw[if_neg ae] at z;have ba:2<=a:=oJ;have bb:a<sup.2.getD 0 0:=oJ;have aD:a∉u:=fun h=>ae (.inr (.inr h));obtain⟨o,hr,hm⟩:=qij (v:=.i 1) qxO H.map a;refine qj9 _ hr ?_;have an:setL a (.i 1) (onesM u)=onesM (u++[a]):=by rw[setL,(qh6 a u).2 aD];simp[onesM]
 rw[an] at hm;have aE:=H.map.lt;have fm:Fr [r] w3 (upd w3 r o):=qfM aE o;have aF:r≠pb:=(by have:=H.nr;omega);have aa:=H.own.frame fm (fun b A=>by simp only[zE] at A;subst A;exact .inr H.nr) (fun p hp=>by simp at hp;subst hp;simpa using fun e=>aF e.symm);have ao:=H.b1.frame fm (fun b A=>by simpa using (H.n1 b A).2.1);have aG:=H.b2.frame fm (fun b A=>by simpa using (H.n2 b A).2);generalize upd w3 r o=w4 at hm fm aa ao aG;refine qae (oA aa 0 rfl (pW dbk) qyb ?_);rw[wi' a oJ];refine qhG (aB aa.fr) hD fun s5 B5 w5 b5 f5 n5=>?_;have ap:=aa.frame0 f5;apply qaa<;>intro h;have h:(readV D a).2≠0:=(oP h);rw[if_pos h] at z;exact O (by rw[C,<- z]) w5 ap.fr;have h:¬(readV D a).2≠0:=(oP h);rw[if_neg h] at z;refine qnu (b5.rds qas (S:=[]) oL) (half ap.fr) (qbL hD a).1 (by have:=(qbL hD a).2;omega) fun s6 B6 w6 b6 f6 n6=>?_;have aI:=ap.frame0 f6;refine qaf (fun b w'=>b=decide ((openV a (readV D a).1).2.2≠0\/(openV a (readV D a).1).1≠2)/\w'=w6) ?_ ?_;apply qaa<;>intro h;have h:(openV a (readV D a).1).2.2≠0:=(oP h);exact⟨by rw[zZ (Or.inl h)],rfl⟩;have h:(openV a (readV D a).1).2.2=0:=(oP h);refine⟨?_,rfl⟩;by_cases Q:(openV a (readV D a).1).1=2<;>simp[h,Q];rintro b bf ⟨rfl,rfl⟩;apply qaa<;>intro h;have h:=zC h;rw[if_pos h] at z;exact O (by rw[C,<- z]) bf aI.fr;have h:=zB h;rw[if_neg h] at z;have aJ:=qoh (qbL hD a).1 a;refine qtx (b6.rds qas (S:=[]) oL) aJ.1 (by have:=aJ.2;have:=(qbL hD a).2;omega) fun s7 B7 w7 b7 f7 n7=>?_;have aK:=aI.frame0 f7;apply qaa<;>intro h;have h:(parseV (openV a (readV D a).1).2.1).2.2≠0:=(oP h);rw[if_pos h] at z;exact O (by rw[C,<- z]) w7 aK.fr;have h:¬(parseV (openV a (readV D a).1).2.1).2.2≠0:=(oP h);rw[if_neg h] at z;have bg:=qs3 (openV a (readV D a).1).2.1;have aL:=qs2 (openV a (readV D a).1).2.1;generalize parseV (openV a (readV D a).1).2.1=pv at z b7 bg aL;have bh:=(f5.trans f6).trans f7;have bi:=H.len;have bj:u.length<=4096:=oJ;have E:=aK.drew;have ab:Fr [] w4 w7.drew:=bh.drew;have aq:=ao.frame0 ab;have ar:=aG.frame0 ab;have aM:=hm.frame ab oL;have aN:=b7.frame0 ((Fr.refl [] w7).drew);have l7:∀b∈B7,w4.heap.size<=b:=fun b A=>zL (f5.trans f6).size (n7 b A);have bZ:r<w4.heap.size:=hm.lt;generalize w7.drew=wd at E ab aq ar aM aN;refine qae (oA E 0 rfl sl (qeu I 0) ?_);refine qae (oA E 0 rfl sn (qeu I 1) ?_);refine oB E fun rn w8 e8 f8 ac=>qan (ac.cell 1 rfl (qeu I 1)) (ac.cell 1 rfl (qeu I 0)) ?_;have aQ:Rd [] w8 ⟨pW rn,1,1⟩ [a]:=by
  refine⟨rfl,zM _,.inr ⟨rn,0,_,_,_,rfl,ac.at (i:=0) rfl,oL,fun i x V=>?_⟩⟩;match i with
  | 0=>simp at V;subst V;rfl
  | i+1=>simp at V
 refine qpq (s:=sl) (src:=⟨pW rn,1,1⟩) (aq.frame0 f8) aQ oO fun s9 B9 w9 b9 f9 n9=>?_;have b0:∀b∈B1,b<wd.heap.size:=fun b A=>aq.lt b A;have bo:∀b∈B2,b<wd.heap.size:=fun b A=>ar.lt b A;have bp:wd.heap.size<=w8.heap.size:=f8.size;have b3:w4.heap.size<=wd.heap.size:=ab.size;have b4:w.heap.size<=w4.heap.size:=aa.fr.size;have aS:=(ac.sub (L':=[(pb,_)]) (List.Sublist.cons _ (List.Sublist.refl _))).frame f9 (fun b A=>.inr (H.n1 b A).1) (fun p hp A=>by simp at hp;subst hp;have:=(H.n1 _ A).1;dsimp only at this;omega);refine qaj (aS.cell 0 rfl (qeu I 1)) ?_;have bq:=(ar.frame0 f8).frame f9 (fun b A au=>(H.n1 b au).2.2 A);have br:Rd [] w9 s7 pv.2.1:=((aN.frame0 f8).frame f9 (fun b A au=>by have:=l7 b A;have:=ao.lt b au;omega)).rds qaE oL;refine qpq bq br oJ fun aT av b8 bs aw aU=>?_;have bG:wd.heap.size<=w9.heap.size:=zL bp f9.size;have aV:=aS.frame aw (fun b A=>.inr (H.n2 b A).1) (fun p hp A=>by simp at hp;subst hp;have:=(H.n2 _ A).1;dsimp only at this;omega);have R:∀b∈B9,w.heap.size<=b/\b≠r/\b∉B2/\b<w9.heap.size:=fun b A=>by refine⟨?_,?_,?_,b9.lt b A⟩;rcases n9 b A with h|h;exact (H.n1 b h).1;omega;rcases n9 b A with h|h;exact (H.n1 b h).2.1;omega;rcases n9 b A with h|h;exact (H.n1 b h).2.2;intro Q;have:=bo b Q;omega
 have ag:∀b∈av,w.heap.size<=b/\b≠r:=fun b A=>by rcases aU b A with h|h;exact H.n2 b h;constructor<;>omega
 have aW:=b9.frame aw (fun b A Q=>(R b A).2.2.1 Q);have bt:∀b∈B9,b∉av:=fun b A bu=>by
  rcases aU b bu with h|h;exact (R b A).2.2.1 h
  have:=(R b A).2.2.2;omega
 refine qae (oG aV 0 rfl (pgRaw (pW dbk) sup s9 sn turn over wk) (qor I) rfl (by rw[qbx I,hw];exact zO rfl) fun b' aX bv=>?_);refine qae (oG aX 0 rfl (pgRaw (pW dbk) sup s9 aT turn over wk) (qos I) rfl (by rw[qbx I,hw];exact zO rfl) fun ca aY bw=>?_);have J:=bv.trans bw;have ax:∀b,w.heap.size<=b->b∉[pb]:=fun b A=>by simp;omega
 have ah:=(((aM.frame f8 oL).frame f9 (fun h=>(H.n1 r h).2.1 rfl)).frame aw (fun h=>(H.n2 r h).2 rfl)).frame J (ax r H.nr);refine hX _ _ ⟨u++[a],named++pv.2.1,s9,aT,B9,av,f,⟨aY,aW.frame J (fun b A=>ax b (R b A).1),bs.frame J (fun b A=>ax b (ag b A).1),ah,fun b A=>⟨(R b A).1,(R b A).2.1,bt b A⟩,ag,H.nr,aL,?_,?_,?_⟩,?_,z⟩ ?_;rw[yL];exact⟨H.nodup,oL,fun x V y hy=>by simp at hy;subst hy;exact fun e=>aD (e▸V)⟩;intro x V;rcases zD.1 V with h|h;exact H.range x h;simp at h;subst h;exact⟨ba,bb⟩;rw[zF,zF];have:[a].length=1:=rfl;omega;rw[zF];have:[a].length=1:=rfl;omega;have key:∀ {w':World} {l:List Int},MapS u32V w' r (onesM l)->(match w'.heap[r]? with|some (.map es _)=>F0-es.size|_=>0)=F0-l.length:=by
  rintro w' l ⟨es,c,h1,Q,_⟩;rw[h1]
  have:=congrArg List.length Q
  simp[onesM] at this;simp[this]
 rw[key ah,key H.map,zF];have:[a].length=1:=rfl;omega;have am:a=0:=(oP al);subst am;rw[walkM,if_pos rfl] at z;rw[<- z] at C;dsimp only at C;refine qae (oA H.own 0 rfl sn (qeu I 1) ?_);have rn:Rd [] w2 sn named:=H.b2.rds qaE oL;have cb:=rn.1;have bi:=H.len;have bj:u.length<=4096:=oJ;refine qag (fun x w'=>w'=w2/\∃i:Nat,x.2=i/\i<=named.length/\namedB (sup.2.getD 0 0) u x.1 (named.drop i)=namedB (sup.2.getD 0 0) u 0 named) (fun x _=>((named.length:Int)-x.2).toNat) ⟨rfl,0,rfl,oJ,rfl⟩ ?_;rintro⟨aZ,ii⟩ w' ⟨rfl,i,a0,hi,hn⟩ Z hZ;simp only at a0 hn;subst a0;apply qaa<;>intro hc;have a1:i<named.length:=(by have:=zC hc;dsimp only at this;omega);refine Rd.at rn i rfl (zA a1) ?_;rw[zX a1,namedB] at hn;refine qaf (fun b w3=>b=(decide (named[i]<=aZ)||decide (named[i]>=sup.2.getD 0 0)||decide (named[i]∈u))/\w3=w') ?_ ?_;refine qaa (fun h=>⟨by rw[h];rfl,rfl⟩) fun h=>qae (oA H.own 0 rfl (sup.2.getD 0 0) (qj8 I 0) ?_);refine qaa (fun Q=>⟨by rw[h,Q];rfl,rfl⟩) fun Q=>qpW H.map fun x V=>⟨?_,rfl⟩;rw[V,h,Q];rfl;rintro b w3 ⟨rfl,rfl⟩;apply qaa<;>intro h;rw[h] at hn;refine O ?_ w3 aC;rw[C,if_neg];rw[<- hn];simp;rw[h] at hn;rw[wi' _ oN];exact hZ _ _ ⟨rfl,i+1,oL,oJ,by simpa using hn⟩ oN;have:i=named.length:=(by have:=zB hc;dsimp only at this;omega);subst this;rw[drop_length] at hn;have bx:namedB (sup.2.getD 0 0) u 0 named=true:=hn.symm;have E:=H.own.drew;refine qae (oA E 0 rfl sn (qeu I 1) ?_);refine qae (oA E 0 rfl (sup.2.getD 2 0) (qj8 I 2) ?_);rw[wi' _ oJ];by_cases hfree:(named.length:Int)=sup.2.getD 2 0;rw[if_pos ⟨bx,hfree⟩] at C;have e:((sn.len:Int)==sup.2.getD 2 0)=true:=(by rw[yO];omega);rw[e];refine hk sl sn u named _ C E fun G hG=>?_;have aj:∀b,w.heap.size<=b->b∉G:=fun b A h=>by have:=hG b h;omega
 exact⟨(H.b1.frame0 ((Fr.refl [] w').drew)).rds qaE fun b A=>aj b (H.n1 b A).1,(H.b2.frame0 ((Fr.refl [] w').drew)).rds qaE fun b A=>aj b (H.n2 b A).1⟩;have e:((sn.len:Int)==sup.2.getD 2 0)=false:=(by rw[zR];omega);rw[e];exact O (by rw[C,if_neg (fun h=>hfree h.2)]) _ E.fr
theorem qkz{s:Sl}(h:RdB S w s l):(Extern.Bytes.bytesOf (.slice s.a s.len s.cap)).run prog w=.ok ⟨(Lib.bytesOf l).toArray⟩ w:=by
 have hlen:=h.1;cases ha:s.a with
 | none=>
  have hl0:l=[]:=by rcases h.2.2 with h3|⟨b,o,cs,T,fr,ha',_⟩;exact h3;rw[ha] at ha';cases ha'
  subst hl0;rfl
 | some a=>
  have hc:=h.cells qas ha
  have:=Lib.run_loadBytesX (P:=prog) w l a .empty (fun j x hj=>hc j (.int .u8 x) (by rw[qaJ,zQ,hj];rfl))
  rw[hlen];show (Extern.Bytes.loadBytes a l.length .empty).run prog w=_;rw[this];have e:(#[]:Array UInt8)++(Lib.bytesOf l).toArray=(Lib.bytesOf l).toArray:=oL;exact congrArg (fun d=>Result.ok (ByteArray.mk d) w) e
theorem qf4:∀ {a b:List Int},IsB a->IsB b->Lib.compareBytes (Lib.bytesOf a) (Lib.bytesOf b)=cmpL a b
 | [],[],_,_=>rfl
 | [],y::b,_,_=>rfl
 | x::a,[],_,_=>rfl
 | x::a,y::b,G,I=>by
  have A:=G x oL;have C:=I y oL;have ih:=qf4 (a:=a) (b:=b) (fun z E=>G z (zN _ E)) (fun z E=>I z (zN _ E));have e:∀ {u v:Int},(0<=u/\u<256)->(0<=v/\v<256)->(u.toNat.toUInt8<v.toNat.toUInt8↔u<v):=fun {u v} J K=>by rw[UInt8.lt_iff_toNat_lt];simp;omega
  show (if x.toNat.toUInt8<y.toNat.toUInt8 then (-1:Int) else if y.toNat.toUInt8<x.toNat.toUInt8 then 1 else Lib.compareBytes (Lib.bytesOf a) (Lib.bytesOf b))=cmpL (x::a) (y::b);rw[cmpL,ih];by_cases h1:x<y;rw[if_pos ((e A C).2 h1),if_pos h1];rw[if_neg (fun h=>h1 ((e A C).1 h)),if_neg h1];by_cases h2:y<x;rw[if_pos ((e C A).2 h2),if_pos h2];rw[if_neg (fun h=>h2 ((e C A).1 h)),if_neg h2]
theorem qq3{S':List Nat}{s u:Sl}(h:RdB S w s l)(z:RdB S' w u l')(A:IsB l)(y:IsB l'): (Extern.BytealgCompare.compare #[s.v,u.v]).run prog w=.ok (.i (cmpL l l')) w:=by show Sem.run prog (do pure (goInt (Extern.BytealgCompare.cmp (<- Extern.Bytes.bytesOf s.v) (<- Extern.Bytes.bytesOf u.v)))) w=_;have e:=qf4 A y;simp only[Sem.run_bind,qkz h,Result.andThen_ok,qkz z,Lib.cmp_eq];rw[e];rfl
theorem qo6{S':List Nat}{s y:Sl}{K:Int->WP}(h:RdB S w s l)(z:RdB S' w y l')(A:IsB l)(u:IsB l')(C:K (cmpL l l') w): cW 115 [s.v,y.v] [.one .i] w K:=by refine qsS ?_;unfold qpZ;refine qlm ?_;unfold qgW;exact qi9 (e:=Extern.BytealgCompare.compare) Tryz.func201 oK oK oK oK (cmpL l l') w (qq3 h z A u) C
def encSl (s:Sl):List Value:=[s.v]
theorem qcV(s:Sl):(encSl s).length=1:=rfl
theorem qt2(s:Sl):∀u∈encSl s,u.oneCell'=true:=fun u h=>by rw[zE.1 h];rfl
abbrev Kps:=List (Sl×Key)
abbrev slsP (ps:Kps):List Sl:=ps.map (·.1)
abbrev keyP (ps:Kps):List Key:=ps.map (·.2)
def RdK (S:List Nat) (w:World) (s:Sl) (ps:Kps):Prop:=Rds encSl 1 S w s (slsP ps)/\∀p∈ps,RdB S w p.1 p.2
theorem RdK.frame{S S':List Nat}{w w':World}{s:Sl}{ps:Kps}(h:RdK S w s ps)(f:Fr S w w')(u:∀b∈S',b∈S\/w.heap.size<=b):RdK S' w' s ps:=⟨h.1.frame f u,fun p y=>(h.2 p y).frame f u⟩
theorem RdK.frame0{S:List Nat}{w w':World}{s:Sl}{ps:Kps}(h:RdK S w s ps)(f:Fr [] w w'):RdK S w' s ps:=⟨h.1.frame0 f,fun p u=>(h.2 p u).frame0 f⟩
theorem RdK.len{S:List Nat}{w:World}{s:Sl}{ps:Kps}(h:RdK S w s ps):s.len=ps.length:=by rw[h.1.1,zK]
theorem RdK.nil(S:List Nat)(w:World):RdK S w ⟨none,0,0⟩ []:=⟨.nil _ _ _ _,fun p h=>nomatch h⟩
theorem RdK.get{S:List Nat}{w:World}{s:Sl}{ps:Kps}(h:RdK S w s ps)(n:Nat){i:Int}{K:Sl->Prop}(hi:i=n)(u:n<ps.length)(z:K ps[n].1):idx s i 1 fun a=>ld .slice a w K:=
 Rds.get h.1 n hi (x:=ps[n].1) (by rw[zQ,zA u];rfl) (y:=ps[n].1) rfl z
theorem andThen_ok{f:DiskM->DiskM×Int}:andThen (D,0) f=f D:=if_pos rfl
structure SupOk (s:Sup):Prop where
 seq:0<=s.1/\s.1<4611686018427387904
 len:s.2.length=27
 u32:∀ x∈s.2,U32 x
theorem SupOk.place(h:SupOk s):Int.tmod s.1 2=s.1%2:=Int.tmod_eq_emod_of_nonneg h.seq.1
theorem SupOk.superP{s:Sup}(h:SupOk s):superP s=(s.1%2,sealV (s.1%2) 1 (superB s.1 s.2)):=by rw[Go.Proofs.YtgjidjnaigkdfaaGreatDoor.superP,h.place,qaQ _]
theorem SupOk.read(h:SupOk s):readSV (s.1%2) (sealV (s.1%2) 1 (superB s.1 s.2))=(s,0):=by
 have:=h.seq
 exact qrs (by constructor<;>omega) h.len h.u32 h.place
theorem SupOk.sealLen(h:SupOk s)(p:Int):(sealV p 1 (superB s.1 s.2)).length=512:=qck (by rw[qcw h.len];decide)
theorem Quiet.sealOk(h:Quiet D)(y:SupOk s)(R:8<=D.size): ∃D',sealM D s=(D',0)/\Quiet D'/\D'.size=D.size/\D'.waits=[]/\view D' (s.1%2)=sealV (s.1%2) 1 (superB s.1 s.2)/\∀m,0<=m->m≠s.1%2->view D' m=view D m:=by obtain⟨U,e1,C,E,z⟩:=h.write (n:=s.1%2) (l:=sealV (s.1%2) 1 (superB s.1 s.2)) oJ (y.sealLen _);obtain⟨G,I,J,K,O,A⟩:=C.sync;refine⟨G,?_,J,K.trans E,O,by rw[A _ oJ,z,if_pos rfl],fun m Q u=>by rw[A m Q,z,if_neg u]⟩;rw[sealM,y.superP];show andThen (writeM D (s.1%2) _) syncM=_;rw[e1];exact I
theorem qrt{p:Int}:(readSV p (zs 512)).2≠0:=by have u:(openV p (zs 512)).1=0:=(by unfold openV;split<;>(try rfl);split<;>(try rfl);split<;>(try rfl);split<;>(try rfl);split<;>rfl);unfold readSV;generalize openV p (zs 512)=o at u⊢;by_cases h:o.2.2≠0;rw[if_pos h];exact h;have y:o.1≠1\/o.2.1.length≠116:=.inl (by rw[u];decide);rw[if_neg h,if_pos y];exact (by decide:(2:Int)≠0)
theorem qrK{i:Nat}(h:i<n-2:=by omega):(allV n)[i]?=some ((i:Int)+2):=by rw[allV,zQ,List.getElem?_range h];rfl
theorem qhJ(n:Nat):(allV n).length=n-2:=by simp[allV]
theorem qhK{x:Int}:x∈allV n↔2<=x/\x<n:=by rw[allV,mem_map];constructor;rintro⟨i,h,rfl⟩;rw[mem_range] at h;omega;rintro⟨u,y⟩;exact⟨(x-2).toNat,by rw[mem_range];omega,oJ⟩
theorem qhL(n:Nat):(allV n).Pairwise (· < ·):=by rw[allV,pairwise_map];exact pairwise_lt_range.imp (fun h=>oJ)
theorem qh5:n<=124*needP n:=by
 unfold needP;split;omega
 have:=Nat.div_add_mod (n-1) 124
 have:=Nat.mod_lt (n-1) (show 0<124 by decide)
 omega
theorem qlA:needP n<=n:=by
 unfold needP;split;omega
 have:=Nat.div_le_self (n-1) 124
 omega
theorem qmj:ListOk n ((allV n).drop (needP (allV n).length)) ((allV n).take (needP (allV n).length)) where
 rises:=(qhL n).sublist (drop_sublist _ _)
 nums:=fun x u=>qhK.1 (yT u)
 pgs:=fun x u=>qhK.1 (yU u)
 nodup:=(qbP (qhL n)).sublist (take_sublist _ _)
 apart:=fun x u y=>by have h:=qbP (qhL n);rw[<- xC (needP (allV n).length) (allV n),yL] at h;exact h.2.2 x u x y rfl
 room:=by have A:=qh5 (n:=(allV n).length);have z:=qlA (n:=(allV n).length);rw[yB,yK,xN z];omega
theorem qjc(u:8<=n)(y:n<=4096):SupOk (fmtSup n) where
 seq:=⟨(by decide:(0:Int)<=1),(by decide:(1:Int)<4611686018427387904)⟩
 len:=rfl
 u32:=fun x h=>by
  simp only[fmtSup,zD,zG,xV,or_false] at h;rcases h with (rfl|rfl|rfl)|h;exact qaW _;exact⟨oM,oM⟩;exact qaW _
  have:=eq_of_mem_replicate h
  subst this;exact⟨oM,oM⟩
theorem qpO(h:Quiet D)(hn:D.size=n)(R:8<=n)(U:n<=4096): ∃D',formatM D=(D',0)/\Quiet D'/\D'.size=n/\D'.waits=[]/\Opens D' (fmtSup n) ((allV n).take (needP (allV n).length)) ((allV n).drop (needP (allV n).length))/\view D' 0=zs 512:=by
 have ag:D.safe.length=n:=(by have:(D.safe.length:Int)=n:=hn;omega);obtain⟨D1,e1,q1,s1,v1⟩:=h.write (n:=0) (l:=zs 512) oJ (qaK _);obtain⟨D2,e2,q2,s2,v2⟩:=q1.write (n:=1) (l:=zs 512) oJ (qaK _);obtain⟨E,e3,q3,s3,w3,v3⟩:=q2.sync;have y:E.size=n:=oJ;have G:E.safe.length=n:=(by have:(E.safe.length:Int)=n:=y;omega);have u:=qmj (n:=n);rw[<- y] at u;obtain⟨I,e4,q4,s4,w4,l4,v4⟩:=q3.spread u;have J:I.size=n:=oJ;have K:I.safe.length=n:=(by have:(I.safe.length:Int)=n:=J;omega);obtain⟨O,e5,V,s5,w5,p5,Q⟩:=q4.sealOk (qjc R U) oJ;have z:(fmtSup n).1%2=1:=rfl;rw[z] at p5 Q;have A:=u.pgs;have z0:view O 0=zs 512:=(by rw[Q 0 oM oM,v4 0 oM (fun hm=>by have:=A 0 hm;omega),v3 0 oM,v2,if_neg oM,v1,if_pos rfl]);refine⟨O,?_,V,oJ,w5,?_,z0⟩;rw[formatM,e1,andThen_ok,e2,andThen_ok,e3,andThen_ok,G,e4,andThen_ok,K,e5];have ay:1<=needP (allV n).length:=by
  have:=qh5 (n:=(allV n).length)
  rw[qhJ] at this⊢;omega
 refine { down:=V.down,size:=by omega,newest:=?_,blocks:=?_,list:=?_,free:=?_,ok:=by rw[show O.size=E.size by omega];exact u,listed:=fun i p hp=>?_ };have hr:=(qjc R U).read;rw[z] at hr;rw[z0,p5,newestV,hr,if_neg oL,if_pos (.inl qrt)];show wrap .u32 (n:Int)=_;rw[qaQ _];omega;have:(allV n).take (needP (allV n).length)=2::((allV n).take (needP (allV n).length)).drop 1:=by
  have C:(allV n)[0]?=some 2:=(by rw[qrK oJ];rfl);obtain⟨k,hk⟩:∃k,needP (allV n).length=k+1:=⟨needP (allV n).length-1,oJ⟩;rw[hk];cases hA:allV n with
  | nil=>rw[hA] at C;cases C
  | cons a r=>rw[hA] at C;simp at C;subst C;rfl
 rw[this];rfl;show wrap .u32 _=_
 have:=qlA (n:=(allV n).length)
 rw[yB,qaQ _ (by rw[qhJ] at *;omega)];omega
 have:=A p (yE hp)
 rw[Q p oJ oJ];exact l4 i p hp
theorem qs1(n:Nat):Quiet (newM n):=⟨rfl,rfl,fun x h=>by cases h⟩
theorem qux(n:Nat):(newM n).size=n:=by show ((List.replicate n Blk.zero).length:Int)=n;simp
theorem qqa{a b:List Int}(h:newestV a b=(s,0)):(readSV 0 a=(s,0)/\Int.tmod s.1 2=0/\((readSV 1 b).2=0->(readSV 1 b).1.1<=s.1))\/(readSV 1 b=(s,0)/\Int.tmod s.1 2=1/\((readSV 0 a).2=0->(readSV 0 a).1.1<s.1)):=by
 have A:∀(p:Int) (l:List Int),(readSV p l).2=0->Int.tmod (readSV p l).1.1 2=p:=(by intro p l y;unfold readSV at y⊢;split;rename_i h;rw[if_pos h] at y;exact absurd y h;rename_i h;rw[if_neg h] at y;split;rename_i h;rw[if_pos h] at y;cases y;rename_i h;rw[if_neg h] at y;split;rename_i h;rw[if_pos h] at y;cases y;rename_i h;exact Classical.byContradiction h);unfold newestV at h;split at h;cases h;rename_i J;split at h;rename_i u;right;have C:(readSV 1 b).2=0:=by rcases u with u|u;exact Classical.byContradiction fun E=>J ⟨u,E⟩;exact u.1
 have z:(readSV 1 b).1=s:=congrArg Prod.fst h;have G:=A 1 b C;rw[z] at G;refine⟨Prod.ext z C,G,fun I=>?_⟩;rcases u with u|u;exact absurd I u;rw[<- z];exact u.2;rename_i u;left;have C:(readSV 0 a).2=0:=Classical.byContradiction fun E=>u (.inl E);have z:(readSV 0 a).1=s:=congrArg Prod.fst h;have G:=A 0 a C;rw[z] at G;refine⟨Prod.ext z C,G,fun I=>?_⟩;have:¬(readSV 1 b).1.1>(readSV 0 a).1.1:=fun E=>u (.inr ⟨I,E⟩);rw[z] at this;omega
theorem qlW{w':World}{s:Sl}(h:Told w w' s l):∃B,BufU w' s l B/\∀b∈B,w.heap.size<=b:=by rcases h with ⟨rfl,rfl⟩|⟨b,d,T,cap,rfl,z,E,A,C,u,y⟩;exact⟨[],.nil _ _ _,oL⟩;refine⟨[b],.inr ⟨b,0,u32s d,T,rfl,rfl,rfl,z,rfl,A,by rw[qdg];dsimp only;omega,?_⟩,by simpa using u⟩;rw[xD,xQ,u32s,Array.toList_map,<- xL,C,qfn]
def newestM (D:DiskM):Sup×Int:=
 if (readV D 0).2≠0 then (supZero,(readV D 0).2) else if (readV D 1).2≠0 then (supZero,(readV D 1).2) else newestV (readV D 0).1 (readV D 1).1
theorem qrl(D:DiskM):(newestM D).1.2.length=27:=by unfold newestM;split;rfl;split;rfl;exact qkQ _ _
theorem qsp{K:List Value×Int->WP}(h:DiskAt w dbk FD D)(C:D.Ok)(J:Hv w)(G:∀w',Fr [] w w'->K (supV (newestM D).1.1 (newestM D).1.2,(newestM D).2) w'): cW 67 [.pointer (pW dbk)] [.raw,.one .i] w K:=by
 refine qmK ?_;unfold qiA;refine oI (oE [] w) qfE fun r w1 e1 y=>qhG (h.frame0 y.fr) C fun s2 B2 w2 O Q n2=>?_;have y:=y.frame0 Q;apply qaa<;>intro u;have u:(readV D 0).2≠0:=(oP u);refine qfe<|qcE y 0 rfl rfl rfl fun E z=>?_
 have:=G E z
 rw[newestM,if_pos u] at this;exact this;have A:¬(readV D 0).2≠0:=(oP u);refine qhG (h.frame0 y.fr) C fun s3 B3 E R z n3=>?_;have y:=y.frame0 z;apply qaa<;>intro u;have u:(readV D 1).2≠0:=(oP u);refine qfe<|qcE y 0 rfl rfl rfl fun E z=>?_
 have:=G E z
 rw[newestM,if_neg A,if_pos u] at this;exact this;have I:¬(readV D 1).2≠0:=(oP u);have U:=qbL C 0;have V:=qbL C 1;refine qss ((O.frame0 z).rds qas (S:=[]) oL) (R.rds qas (S:=[]) oL) (J.frame0 y.fr) U.1 V.1 oJ oJ fun w4 f4=>qcE (y.frame0 f4) 0 rfl rfl (qkQ _ _) fun w5 f5=>?_
 have:=G w5 f5
 rw[newestM,if_neg A,if_neg I] at this;exact this
theorem qqj(D:DiskM):openM D=if (newestM D).2≠0 then (none,(newestM D).2) else if (newestM D).1.2.getD 0 0≠D.safe.length then (none,2) else match loadM D (newestM D).1 with|none=>(none,2)|some x=>(some (begunM (newestM D).1 x.1 x.2 1 false x.2),0):=by unfold openM newestM;by_cases h0:(readV D 0).2≠0;rw[if_pos h0,if_pos h0];exact (if_pos h0).symm;rw[if_neg h0,if_neg h0];by_cases h1:(readV D 1).2≠0;rw[if_pos h1,if_pos h1];exact (if_pos h1).symm;rw[if_neg h1,if_neg h1]<;>rfl
theorem pgZ:(prog.info? PGT).bind (·.zero)=some (.agg (pgRaw none supZero ⟨none,0,0⟩ ⟨none,0,0⟩ 0 false (workV none none none (zs 24)))):=by kernel_rfl
theorem qvt{d:Option Addr}{q:Int}{t:List Int}(h:t.length=27)(w:World): (Instr.build PGT #[(0,.pointer d),(1,.agg (supV q t).toArray)]).run prog w=.ok (.agg (pgRaw d (q,t) ⟨none,0,0⟩ ⟨none,0,0⟩ 0 false (workV none none none (zs 24)))) w:=by
 refine qc5 (parts:=[(0,.pointer d),(1,.agg (supV q t).toArray)]) (offs:=#[(0,1),(1,28),(29,1),(30,1),(31,1),(32,1),(33,27)]) pgZ oK (fun w=>oK) ?_ w;have u:(Value.agg (supV q t).toArray).cells.size=28:=qgx h;rw[qaF (o:=0) (s:=1) rfl rfl (zO rfl),qaF (o:=1) (s:=28) rfl u (zO rfl)];show some _=_;congr 1;have y:splice (Value.agg (pgRaw none supZero ⟨none,0,0⟩ ⟨none,0,0⟩ 0 false (workV none none none (zs 24)))).cells 0 (Value.pointer d).cells.toList=pgRaw d supZero ⟨none,0,0⟩ ⟨none,0,0⟩ 0 false (workV none none none (zs 24)):=rfl;rw[y]
 have:=qa5 (A:=[Value.pointer d]) (X:=supV 0 (zs 27)) (Y:=supV q t) (Z:=[.slice none 0 0,.slice none 0 0,.i 0,.bool false]++workV none none none (zs 24)) (by rw[qaH h];rfl)
 refine Eq.trans ?_ (this.trans ?_);show splice (pgRaw d supZero ⟨none,0,0⟩ ⟨none,0,0⟩ 0 false (workV none none none (zs 24))) 1 (supV q t)=_;congr 1;simp[pgRaw]
theorem qmR(place:Int)(l:List Int):∀x∈(readSV place l).1.2,U32 x:=by
 have h:∀x∈supZero.2,U32 x:=fun x u=>by
  have:=eq_of_mem_replicate (show x∈List.replicate 27 (0:Int) from u)
  subst this;exact⟨oM,oM⟩
 unfold readSV;split;exact h;split;exact h;split;exact h;intro x u;obtain⟨i,_,rfl⟩:=mem_map.1 u;exact qja
theorem qrm(D:DiskM):∀x∈(newestM D).1.2,U32 x:=by
 have h:∀x∈supZero.2,U32 x:=fun x u=>by
  have:=eq_of_mem_replicate (show x∈List.replicate 27 (0:Int) from u)
  subst this;exact⟨oM,oM⟩
 unfold newestM;split;exact h;split;exact h;unfold newestV;split;exact h;split;exact qmR _ _;exact qmR _ _
theorem qpQ(h:∀x∈l,U32 x)(n:Nat):U32 (l.getD n 0):=by
 rw[yQ];cases u:l[n]? with
 | none=>exact⟨oM,oM⟩
 | some x=>exact h x (yE u)
theorem qnM{K:Option Addr×Int->WP}(X:List Nat)(ao:∀b∈X,b<w.heap.size)(h:DiskAt w dbk FD D)(hD:D.Ok)(hv:Hv w)(ah:(openM D).1=none->∀w',Fr [] w w'->K (none,(openM D).2) w')(hk:∀pb F M w',openM D=(some M,0)->PagerAt w' X pb (pW dbk) F M->Fr [] w w'->(∀b∈F,w.heap.size<=b)->K (pW pb,0) w'): cW 30 [.pointer (pW dbk)] [.one .ptr,.one .i] w K:=by
 refine qoU ?_;unfold qkY;refine qsp h hD hv fun w1 f1=>?_;have I:=qrl D;have hu:=qpQ (qrm D);have z:=qqj D;generalize hs:newestM D=sm at I hu z;obtain⟨sup,e⟩:=sm;simp only at I hu z;refine oI ((oE [] w).frame0 f1) qfE fun r w2 e2 ho=>qhp ho 0 rfl rfl I fun w3 ho=>?_;apply qaa<;>intro J;have J:e≠0:=(oP J);rw[if_pos J] at z
 have:=ah (by rw[z]) w3 ho.fr
 rw[z] at this;exact this;have ar:¬e≠0:=(oP J);rw[if_neg ar] at z;refine qeX (ho.at (i:=0) rfl) I<|qaN (ts:=[Ty1.raw]) (pgRaw (pW dbk) (sup.1,sup.2) ⟨none,0,0⟩ ⟨none,0,0⟩ 0 false (workV none none none (zs 24))).toList (qvt I w3)<|oB ho fun pb O e4 f4 af=>?_;have G:=af.fr;have ai:=h.frame0 G;have aj:∀b∈FD,b<O.heap.size/\b≠pb:=fun b A=>by
  have h1:=h.lt b A
  have:=G.size
  have:=ho.fr.size
  constructor<;>omega
 have ag:∀b∈X,b<O.heap.size/\b≠pb:=fun b A=>by
  have h1:=ao b A
  have:=G.size
  have:=ho.fr.size
  constructor<;>omega
 have av:=hD.safe;have Q:O.heap[pb]?=some (.cells (pgRaw (pW dbk) sup ⟨none,0,0⟩ ⟨none,0,0⟩ 0 false (workV none none none (zs 24))) PGT (0,0)):=af.at (i:=0) rfl;have ad:O.heap[r]?=some (.cells (supV sup.1 sup.2).toArray 92 (0,0)):=af.at (i:=1) rfl;have V:w.heap.size<=pb:=(by have:=ho.fr.size;omega);have aw:pb≠HG:=(by have:=hv.lt;omega);refine qaf (fun b w'=>(b=true/\(openM D).1=none/\(openM D).2=2/\Fr [] w w')\/(b=false/\∃sl sn C named,openM D=(some (begunM sup C named 1 false named),0)/\Own [pb] O w' [(pb,.cells (pgRaw (pW dbk) sup sl sn 0 false (workV none none none (zs 24))) PGT (0,0))]/\Rd (X++[pb]) w' sl C/\Rd (X++[pb]) w' sn named/\named.Pairwise (· < ·)/\named.length<=100000)) ?_ ?_;refine qah (w:=O.drew) (c:=.u) ad (sup.2.getD 0 0) (qhy 0)<|qiZ (ai.frame0 (Fr.refl [] O).drew)<|qaj (by show _=_;rw[qai (w:=O.drew) ad];exact qhy 0) ?_;rw[qaQ (D.safe.length:Int)];apply qaa<;>intro J;have J:sup.2.getD 0 0≠(D.safe.length:Int):=by intro h;rw[h] at J;simp at J
 rw[if_pos J] at z;exact .inl ⟨rfl,by rw[z],by rw[z],G.drew⟩;have J:sup.2.getD 0 0=(D.safe.length:Int):=by by_cases h:sup.2.getD 0 0=(D.safe.length:Int);exact h;rw[show ((sup.2.getD 0 0==(D.safe.length:Int))=false) by rw[zR];exact h] at J;cases J
 rw[if_neg (by rw[J];simp)] at z;have aa:Fr [] O O.drew:=(Fr.refl [] O).drew;refine qvc (pb:=pb) (D:=D) (sup:=sup) (FD:=FD) (w:=O.drew) Q I (qaw (by rfl)) (ai.frame0 aa) hD ((hv.frame0 G).frame0 aa) (fun A=>(aj pb A).2 rfl) aw oJ (hu 1) (hu 2) (fun hl w5 f5=>?_) (fun sl sn C named w5 hl E ak=>?_);rw[hl] at z;refine .inl ⟨rfl,by rw[z],by rw[z],(G.trans aa).trans' f5 fun b A=>by simp at A;subst A;exact .inr V⟩;rw[hl] at z;have R:namedB (sup.2.getD 0 0) C 0 named=true:=by unfold loadM at hl;split at hl;cases hl;rename_i x hx;split at hl;rename_i hh;cases hl;exact hh.1;cases hl
 have R:=(qh4 _ _ _ _).1 R;have U:named.length<=100000:=by
  have:=qbR (n:=sup.2.getD 0 0+1) (l:=named.map (·+1)) (by
   rw[List.Nodup,pairwise_map];exact R.2.imp (fun h=>oJ)) (fun x hx=>by
   obtain⟨y,hy,rfl⟩:=mem_map.1 hx
   have:=R.1 y hy
   omega)
  rcases this with h|h;rw[zK] at h;omega
  have:=congrArg List.length h;simp at this;simp[this]
 have ae:∀b∈X++[pb],b<O.drew.heap.size:=fun b A=>by rcases zD.1 A with A|A;exact (ag b A).1;rw[zE.1 A];exact qac Q
 refine .inr ⟨rfl,sl,sn,C,named,z,⟨E.blk,E.nodup,(aa.mono (fun b A=>by cases A)).trans E.fr,E.own⟩,(ak _ ae).1,(ak _ ae).2,R.2,U⟩;rintro b w5 (⟨rfl,h1,h2,f5⟩|⟨rfl,sl,sn,C,named,ay,E,r1,r2,hp,U⟩);refine cond_true rfl ?_
 have:=ah h1 w5 f5
 rw[h2] at this;exact this;refine cond_false rfl ?_;have hX:∀b∈X,b<w5.heap.size/\b≠pb:=fun b A=>⟨yC (ag b A).1 E.fr.size,(ag b A).2⟩;refine qfY (X:=X) (E.at (i:=0) rfl) I (qaw (by rfl)) oM hX r1 r2 U fun F w6 al f6 n6=>?_;rw[qje hp] at al;refine hk pb F _ w6 ay al ((G.trans' E.fr fun b A=>by simp at A;subst A;exact .inr V).trans' f6 fun b A=>by simp at A;subst A;exact .inr V) fun b A=>?_;rcases n6 b A with h|h;rw[h];exact V;exact zL (zL G.size E.fr.size) h
end
end Go.Proofs.YtgjidjnaigkdfaaGreatDoor
