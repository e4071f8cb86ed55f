/- Conditions: those that stand in each line. -/
import Derived.Test.YtgjidjnaigkdfaaGreatDoorCAV4
import Derived.Test.YtgjidjnaigkdfaaGreatDoorCAV2
set_option linter.unusedVariables false
set_option linter.unusedSimpArgs false
set_option linter.defProp false
namespace Go.Proofs.YtgjidjnaigkdfaaGreatDoor
open Go.Proofs.Tryz (prog)
section
open Go Go.Pt List
open Go.IntKind (wrap)
open Classical
attribute [local irreducible] ld ldA ldV fld fldA newZ st new idx idxS idxA slc slcS slcP mkS chk nn call callV inv run runQ runU join loop held ext rng undefer s2a nxt ent IntKind.wrap
variable {B Bk R S Z:List Nat} {K:Sl->WP} {L L':List (Nat×Obj)} {T T':TypeId} {b l ys:List Int} {hi kind p:Int} {i k v vb:Nat} {key:Key} {ks s src:Sl} {n:NodeM} {ps:Kps} {w w0:World} {x:NdC}
def qeH(h:BufB w s l B)(E:RdB S w src ys)(R:l.length+ys.length<=1000000)(G:∀z B' w',BufB w' z (l++ys) B'->Fr B w w'->(∀b∈B',b∈B\/w.heap.size<=b)->K z w'): Pt.run [Ty1.one Cell.slice] ((Builtin.append_ #[27,27] 27 #[s.v,src.v]).run prog w) K:=by obtain⟨i,hi,I,A,C⟩:=qlk;have y:=E.1;exact Buf.appSrc (e:=5) h qas oK hi I A rfl (qeC (e':=5) E qas (fun x u J=>by rw[zE.1 J];rfl)) y (by rw[C];omega) oJ fun z B' w' O Q n' _=>G z B' w' O Q n'
def qv1(n:Int):be n 2=[wrap .u8 (Int.fdiv n (2^8)),wrap .u8 n]:=by show [byteAt n 1,byteAt n 0]=_;unfold byteAt;rw[show (min (8*1) 32:Nat)=8 from rfl,show (min (8*0) 32:Nat)=0 from rfl,Int.pow_zero,Int.fdiv_one]
def qwz(n:Int):be n 4=[wrap .u8 (Int.fdiv n (2^24)),wrap .u8 (Int.fdiv n (2^16)),wrap .u8 (Int.fdiv n (2^8)),wrap .u8 n]:=by show [byteAt n 3,byteAt n 2,byteAt n 1,byteAt n 0]=_;unfold byteAt;rw[show (min (8*3) 32:Nat)=24 from rfl,show (min (8*2) 32:Nat)=16 from rfl,show (min (8*1) 32:Nat)=8 from rfl,show (min (8*0) 32:Nat)=0 from rfl,Int.pow_zero,Int.fdiv_one]
def RdK.get'(h:RdK S w s ps)(n:Nat){i:Int}{K:Addr->Sl->Prop}(hi:i=n)(E:n<ps.length)(G:∀a,w.cell? a=some (.slice ps[n].1.a ps[n].1.len ps[n].1.cap)->(∀w',RdK S w' s ps->w'.cell? a=some (.slice ps[n].1.a ps[n].1.len ps[n].1.cap))->K a ps[n].1):idx s i 1 fun a=>ld .slice a w fun x=>K a x:=by
 subst hi;have A:(slsP ps)[n]?=some ps[n].1:=(by rw[zQ,zA E];rfl);obtain⟨Q,b,o,C,_,R,T,U,V,hc⟩:=h.1.at n A;refine qb3 C ⟨oJ,oJ⟩ ?_;rw[zJ];have key:∀w',RdK S w' s ps->w'.cell? ⟨b,o+n*1,none⟩=some (.slice ps[n].1.a ps[n].1.len ps[n].1.cap):=fun w' I=>by
  obtain⟨_,b',o',u,_,J,T',O,y,z⟩:=I.1.at n A;rw[C] at u;cases u;rw[qah y]
  have:=congrArg (·[0]?) z
  simpa[encSl] using this
 exact qg1 ps[n].1 (key w h) (G _ (key w h) key)
def qoV{b n:Nat}(u:w.heap[b]?=some (.cells (l.map (Value.int .u8)).toArray T (0,0)))(h:n=l.length):BufB w ⟨pW b,n,n⟩ l [b]:=
 Buf.one (e:=Value.int .u8) (fun _=>rfl) u h (zM _) (by simp[h]) (by rw[<- zK (f:=Value.int .u8),xV])
def qvA{b:Nat}{n:Int}(u:w.heap[b]?=some (.cells #[.b (wrap .u8 (Int.fdiv n (2^24))),.b (wrap .u8 (Int.fdiv n (2^16))),.b (wrap .u8 (Int.fdiv n (2^8))),.b (wrap .u8 n)] T (0,0))):RdB [] w ⟨pW b,4,4⟩ (be n 4):=by rw[qwz];exact Buf.rds qas (qoV (n:=4) u rfl) fun _ _ h=>nomatch h
section
variable {S:List Nat} {w:World} {s:Sl}
def qu1{n:Nat}(hn:n<=1000000)(I:∀u B w',BufB w' u [] B->Fr [] w w'->(∀b∈B,w.heap.size<=b)->K u w'): cW 217 [.slice none 0 0,.i n] [.one .slice] w K:=by obtain⟨z,hi,J,A,C⟩:=qlk;refine qmv (s:=⟨none,0,0⟩) (n:=n) ?_;unfold qiM;have e0:wrap .i64 (((0:Nat):Int)-((0:Nat):Int))=0:=wi' _ oM;have e1:wrap .i64 ((n:Int)-0)=(n:Int):=(by rw[wi' _ oJ];omega);refine qaf (fun _ w'=>w=w') (cond_false (zU oJ) rfl) ?_;rintro _ _ rfl;refine qaf (fun u w'=>∃B,BufB w' u [] B/\Fr [] w w'/\∀b∈B,w.heap.size<=b) ?_ (fun u w' ⟨B,O,Q,R⟩=>I u B w' O Q R);dsimp only;rw[e0,e1];refine qaa (fun G=>?_) (fun G=>⟨[],.nil _ _ _,.refl _ _,fun _ h=>nomatch h⟩);have y:0<n:=(by have:=zC G;omega);refine qiJ ⟨oJ,by dsimp only;omega⟩ ?_;rw[zJ];dsimp only;refine qkg (e:=5) (i:=z) (kn:=.i64) (olds:=[]) oK oK hi J A rfl rfl (fun _=>rfl) (fun a U=>nomatch U) y oJ (by rw[C];omega) oJ fun b cs c w2 V hb f2 h1 h2 h3=>qiJ ⟨oJ,by dsimp only;omega⟩ ?_;rw[zJ];exact⟨[b],Buf.fresh (cap:=c) qas hb rfl (yW _) oJ rfl,f2,fun b' E=>by rw[zE.1 E,V];exact zM _⟩
def qik(hi:i<ps.length):((keyP ps).take (i+1)).flatten=((keyP ps).take i).flatten++ps[i].2:=by rw[take_add_one,zQ,zA hi,flatten_append];simp
def qgV(i:Nat):((keyP ps).take i).flatten.length<=(keyP ps).flatten.length:=by have:(keyP ps).flatten=((keyP ps).take i).flatten++((keyP ps).drop i).flatten:=(by rw[<- flatten_append,xC]);rw[this,zF];omega
def qsi(I:RdK S w s ps)(hl:ps.length<=1000000)(ht:(keyP ps).flatten.length<=1000000)(kk:∀s' B w',BufB w' s' (keyP ps).flatten B->Fr [] w w'->(∀b∈B,w.heap.size<=b)->K s' w'): cW 183 [s.v] [.one .slice] w K:=by
 refine qkR ?_;unfold qgz;have ab:=I.len;refine qaj (fun t w'=>∃i:Nat,t=((((keyP ps).take i).flatten.length:Int),(i:Int))/\i<=ps.length/\w'=w) (fun t _=>((ps.length:Int)-t.2).toNat) ⟨0,rfl,yW _,rfl⟩ ?_;rintro t w' ⟨i,rfl,hi,rfl⟩ X Q;dsimp only;apply qaa<;>intro z;have u:i<ps.length:=(by have:=zC z;omega);have A:=qgV (ps:=ps) (i+1);have y:=qik u;have R:=(I.2 ps[i] (zW u)).1;have e:wrap .i64 ((((keyP ps).take i).flatten.length:Int)+(ps[i].1.len:Int))=(((keyP ps).take (i+1)).flatten.length:Int):=by rw[y,zF] at A⊢;rw[wi' _ oJ,R];rfl
 refine qaf (fun x C=>x=(((keyP ps).take (i+1)).flatten.length:Int)/\C=w') ?_ ?_;refine RdK.get I i rfl u ?_;rw[e];exact cond_false (zU oJ) ⟨rfl,rfl⟩;rintro x C ⟨rfl,rfl⟩;rw[qbx oJ];exact Q _ _ ⟨i+1,rfl,u,rfl⟩ oN;have E:i=ps.length:=(by have:=zB z;omega);refine qu1 (zL (qgV (ps:=ps) i) ht) fun s1 B1 w1 b1 f1 n1=>qaj (fun t C=>∃(j:Nat) (J:Sl) (B2:List Nat),t=(J,(j:Int))/\j<=ps.length/\BufB C J ((keyP ps).take j).flatten B2/\Fr [] w' C/\∀b∈B2,w'.heap.size<=b) (fun t _=>((ps.length:Int)-t.2).toNat) ⟨0,s1,B1,rfl,yW _,b1,f1,n1⟩ ?_;rintro t C ⟨j,J,B2,rfl,hj,U,O,V⟩ X Q;dsimp only;apply qaa<;>intro z;have u:j<ps.length:=(by have:=zC z;omega);have A:=qgV (ps:=ps) (j+1);have y:=qik u;have G:=I.frame0 O;refine RdK.get G j rfl u<|qeH U (G.2 ps[j] (zW u)) (by rw[y,zF] at A;omega) fun s3 B3 w3 b3 f3 n3=>?_;rw[qbx oJ];refine Q _ _ ⟨j+1,s3,B3,rfl,u,by rw[y];exact b3,O.trans' f3 fun i hi=>.inr (V i hi),fun b hb=>?_⟩ oN;rcases n3 b hb with h|h;exact V b h;exact zL O.size h;have E:j=ps.length:=(by have:=zB z;omega);rw[E,zS (by rw[zK];exact zM _)] at U;exact kk J B2 C U O V
def qt2{K:Int×Sl×Int->WP}(hx:NodeR S w x n)(h1:n.keys.length<=1000000)(h2:n.vals.length<=1000000)(h3:n.kids.length<=1000000)(kk:∀s w',(∀G:List Nat,(∀b∈G,b<w.heap.size)->RdB G w' s (writeNV n k v).2.1)->Fr [] w w'->K ((writeNV n k v).1,s,(writeNV n k v).2.2) w'): cW 142 [.agg (ndV x),.i k,.i v] [.one .b,.one .slice,.one .i] w K:=by
 have aQ:=hx;obtain⟨h0,a8,⟨pk,aj,A⟩,⟨pv,ak,O⟩,ag⟩:=hx;refine qnO ?_;unfold qjX;refine oB (oE [] w) fun r1 w1 e1 f1 h=>oC h 0 rfl x rfl<|qog (x:=x) (aQ.frame0 f1) h1 h2 h3 fun w2 f2=>?_;have h:=h.frame0 f2;apply qaa<;>intro z;have hn:¬rightV n k v:=zB (oP z)
 have:=kk ⟨none,0,0⟩ w2 (fun G _=>by unfold writeNV;rw[if_neg hn];exact .nil _ _ _ _) h.fr
 unfold writeNV at this;rw[if_neg hn] at this;exact this;have hR:rightV n k v:=zC (oP z);have hW:writeNV n k v=(kindN n,bodyN n,0):=(by unfold writeNV;rw[if_pos hR]);rw[hW] at kk;have az:=(qfk hR).2;have l1:pk.length=n.keys.length:=(by rw[<- A,zK]);have l2:pv.length=n.vals.length:=(by rw[<- O,zK]);have n1:x.2.1.len=n.keys.length:=(by rw[aj.len,l1]);have n3:x.2.2.2.len=n.kids.length:=ag.1;have aA:∀ {s' B w'},BufB w' s' (bodyN n) B->(∀b∈B,w.heap.size<=b)->Fr [] w w'->K (kindN n,s',0) w':=fun b hB f=>kk _ _ (fun G hG=>b.rds qas fun c z hm=>by have:=hB c z;have:=hG c hm;omega) f;refine oA h 0 rfl x.1 rfl ?_;apply qaa<;>intro z;rw[h0] at z;have u:bodyN n=be n.keys.length 2++(n.keys.zip n.vals).flatMap (fun x=>x.1++x.2):=(by unfold bodyN;rw[if_pos z];rfl);have E:kindN n=3:=(by unfold kindN;rw[if_pos z]);have aB:=hR.2.2.2;rw[if_pos z] at aB;have aC:(n.keys.zip n.vals).length=n.keys.length:=(by rw[length_zip,aB.2.2.2,Nat.min_self]);refine oA h 0 rfl x.2.1 rfl<|oA h 0 rfl x.2.1 rfl<|oB h fun r9 w3 e3 f3 h=>oA h 1 rfl x.2.1 rfl ?_;have h9:=h.at (i:=0) rfl;have am:=h.sub (L':=[(r1,.cells (ndV x) 163)]) (sublist_cons_self _ _);have an:r1≠r9:=fun e=>by have:=h.nodup;simp[e] at this
 have Q:w.heap.size<=r9:=(h.own (r9,_) (mem_cons_self ..)).elim (fun h=>nomatch h) id;refine qaj (fun t w'=>∃(i:Nat) (s2:Sl) (B2:List Nat),t=(s2,(i:Int))/\i<=n.keys.length/\BufB w' s2 (be n.keys.length 2++((n.keys.zip n.vals).take i).flatMap (fun x=>x.1++x.2)) B2/\Own [] w w' [(r1,.cells (ndV x) 163)]/\r1∉B2/\∀b∈B2,w.heap.size<=b) (fun t _=>((n.keys.length:Int)-t.2).toNat)
  ⟨0,_,[r9],rfl,yW _,?_,am,by simpa using an,fun b R=>by rw[zE.1 R];exact Q⟩ ?_
 rw[qv1,take_zero,flatMap_nil,xF];refine qoV (T:=5) ?_ rfl;rw[n1] at h9;exact h9;rintro t w4 ⟨i,s2,B2,rfl,hi,b2,U,V,C⟩ X hX;dsimp only;apply qaa<;>intro z;have ad:i<n.keys.length:=(by have:=zC z;omega);have bl:i<n.vals.length:=oJ;have aE:=aj.frame0 U.fr;refine RdK.get aE i rfl oJ ?_;have aa:=U.drew;refine oA aa 0 rfl x.2.2.1 rfl ?_;have aT:=ak.frame0 aa.fr;have ab:i<pv.length:=oJ;have ah:i<pk.length:=oJ;refine RdK.get' aT i rfl ab fun a ha hh=>?_;have ae:n.keys[i]?=some pk[i].2:=(by rw[<- A,zQ,zA ah];rfl);have aU:n.vals[i]?=some pv[i].2:=(by rw[<- O,zQ,zA ab];rfl);have hz:(n.keys.zip n.vals)[i]?=some (pk[i].2,pv[i].2):=List.getElem?_zip_eq_some.2 ⟨ae,aU⟩;have I:((n.keys.zip n.vals).take (i+1)).flatMap (fun x=>x.1++x.2)=((n.keys.zip n.vals).take i).flatMap (fun x=>x.1++x.2)++(pk[i].2++pv[i].2):=by rw[take_add_one,hz,yP];simp
 have af:(be n.keys.length 2++((n.keys.zip n.vals).take (i+1)).flatMap (fun x=>x.1++x.2)).length<=500:=(by refine zL ?_ az;rw[u,zF,zF];have e:(n.keys.zip n.vals).flatMap (fun x=>x.1++x.2)=((n.keys.zip n.vals).take (i+1)).flatMap (fun x=>x.1++x.2)++((n.keys.zip n.vals).drop (i+1)).flatMap (fun x=>x.1++x.2):=(by rw[<- yP,xC]);rw[e,zF];omega);rw[I,zF,zF,zF] at af;have bo:=U.drew;refine qeH (w:=w4.drew) (b2.frame0 (Fr.refl [] w4).drew) ((aE.2 pk[i] (zW ah)).frame0 (Fr.refl [] w4).drew) (by rw[zF];omega) fun s3 B3 w5 b3 f5 n5=>?_;have J:=aa.frame f5 (fun i hi=>.inr (C i hi)) (fun p hp=>by rw[zE.1 hp];exact V);have aG:∀b∈B3,w.heap.size<=b:=fun b R=>by rcases n5 b R with h|h;exact C b h;exact zL aa.fr.size h
 refine qaq (hh w5 (ak.frame0 J.fr)) (J.cell 0 rfl rfl) ?_;have aH:r1∉B3:=fun hm=>by
  rcases n5 r1 hm with h|h;exact V h
  have:=qac (aa.at (i:=0) rfl);dsimp only at this;omega
 refine qeH b3 ((ak.frame0 J.fr).2 pv[i] (zW ab)) (by rw[zF,zF];omega) fun s6 B6 w6 b6 f6 n6=>?_;have au:=J.frame f6 (fun i hi=>.inr (aG i hi)) (fun p hp=>by rw[zE.1 hp];exact aH);rw[qbx oJ];refine hX _ _ ⟨i+1,s6,B6,rfl,ad,by rw[I,<- zV,<- zV];exact b6,au,fun hm=>?_,fun b R=>?_⟩ oN;rcases n6 r1 hm with h|h;exact aH h
 have:=qac (J.at (i:=0) rfl);dsimp only at this;omega
 rcases n6 b R with h|h;exact aG b h;exact zL J.fr.size h;have av:i=n.keys.length:=(by have:=zB z;omega);rw[av,<- aC,xV,aC,<- u] at b2
 have:=aA b2 C U.fr
 rw[E] at this;exact this;rw[h0] at z;have aJ:¬n.leaf=true:=(by rw[z];decide);have u:bodyN n=be n.kids.length 2++n.kids.flatMap (fun x=>be x 4)++n.keys.flatten:=(by unfold bodyN;rw[if_neg aJ]);have E:kindN n=4:=(by unfold kindN;rw[if_neg aJ]);refine oA h 0 rfl x.2.2.2 rfl<|oA h 0 rfl x.2.2.2 rfl<|oB h fun r9 w3 e3 f3 h=>oA h 1 rfl x.2.2.2 rfl ?_;have h9:=h.at (i:=0) rfl;have am:=h.sub (L':=[(r1,.cells (ndV x) 163)]) (sublist_cons_self _ _);have an:r1≠r9:=fun e=>by have:=h.nodup;simp[e] at this
 have Q:w.heap.size<=r9:=(h.own (r9,_) (mem_cons_self ..)).elim (fun h=>nomatch h) id;have aW:(be n.kids.length 2++n.kids.flatMap (fun x=>be x 4)).length+n.keys.flatten.length<=500:=(by rw[<- zF,<- u];exact az);refine qaj (fun t w'=>∃(i:Nat) (s2:Sl) (B2:List Nat),t=(s2,(i:Int))/\i<=n.kids.length/\BufB w' s2 (be n.kids.length 2++(n.kids.take i).flatMap (fun x=>be x 4)) B2/\Own [] w w' [(r1,.cells (ndV x) 163)]/\r1∉B2/\∀b∈B2,w.heap.size<=b) (fun t _=>((n.kids.length:Int)-t.2).toNat)
  ⟨0,_,[r9],rfl,yW _,?_,am,by simpa using an,fun b R=>by rw[zE.1 R];exact Q⟩ ?_
 rw[qv1,take_zero,flatMap_nil,xF];refine qoV (T:=5) ?_ rfl;rw[n3] at h9;exact h9;rintro t w4 ⟨i,s2,B2,rfl,hi,b2,U,V,C⟩ X hX;dsimp only;apply qaa<;>intro z;have ad:i<n.kids.length:=(by have:=zC z;omega);have ae:n.kids[i]?=some n.kids[i]:=zA ad;refine Rds.get (ag.frame0 U.fr) i rfl ae (y:=n.kids[i]) rfl<|oB U fun r6 w5 e5 f5 h5=>?_;have aX:=h5.at (i:=0) rfl;have I:(n.kids.take (i+1)).flatMap (fun x=>be x 4)=(n.kids.take i).flatMap (fun x=>be x 4)++be n.kids[i] 4:=by rw[take_add_one,ae,yP];simp
 have af:(be n.kids.length 2++(n.kids.take (i+1)).flatMap (fun x=>be x 4)).length<=500:=(by have e:n.kids.flatMap (fun x=>be x 4)=(n.kids.take (i+1)).flatMap (fun x=>be x 4)++(n.kids.drop (i+1)).flatMap (fun x=>be x 4):=(by rw[<- yP,xC]);rw[e,zF,zF] at aW;rw[zF];omega);rw[I,zF,zF] at af;have ai:RdB [] w5 ⟨pW r6,4,4⟩ (be n.kids[i] 4):=qvA (T:=5) aX;have aw:=qao n.kids[i] 4;generalize be n.kids[i] 4=aK at I af ai aw;refine qeH (src:=⟨pW r6,4,4⟩) (ys:=aK) (b2.frame0 f5) ai (by rw[zF];omega) fun s6 B6 w6 b6 f6 n6=>?_;have ax:=h5.sub (L':=[(r1,.cells (ndV x) 163)]) (sublist_cons_self _ _);have au:=ax.frame f6 (fun i hi=>.inr (C i hi)) (fun p hp=>by rw[zE.1 hp];exact V);rw[qbx oJ];refine hX _ _ ⟨i+1,s6,B6,rfl,ad,by rw[I,<- zV];exact b6,au,fun hm=>?_,fun b R=>?_⟩ oN;rcases n6 r1 hm with h|h;exact V h
 have:=qac (ax.at (i:=0) rfl);dsimp only at this;omega
 rcases n6 b R with h|h;exact C b h;exact zL ax.fr.size h;have av:i=n.kids.length:=(by have:=zB z;omega);rw[av,xV] at b2;refine oA U 0 rfl x.2.1 rfl<|qsi (aj.frame0 U.fr) oJ (by rw[A];omega) fun s5 B5 w5 b5 f5 n5=>?_;rw[A] at b5;refine qeH (b2.frame0 f5) (b5.rds qas (S:=[]) (fun _ _ h=>nomatch h)) oJ fun s6 B6 w6 b6 f6 n6=>?_;rw[<- u] at b6
 have:=aA b6 (fun b R=>by rcases n6 b R with h|h;exact C b h;exact zL (zL U.fr.size f5.size) h) ((U.fr.trans f5).trans' f6 fun i hi=>.inr (C i hi))
 rw[E] at this;exact this
end
abbrev ND:TypeId:=163
def qfw{k v:Nat}:∀(c:Nat) (b:List Int),(leafR k v c b).1.length=c/\(leafR k v c b).2.length=c
 | 0,_=>⟨rfl,rfl⟩
 | c+1,b=>by
  have:=qfw (k:=k) (v:=v) c (b.drop (k+v))
  exact⟨by rw[leafR,yH,this.1],by rw[leafR,yH,this.2]⟩
def qlo{k v:Nat}:∀(c:Nat) (b:List Int),leafR k v (c+1) b=((leafR k v c b).1++[(b.drop (c*(k+v))).take k],(leafR k v c b).2++[((b.drop (c*(k+v))).drop k).take v])
 | 0,b=>by simp[leafR]
 | c+1,b=>by have ih:=qlo (k:=k) (v:=v) c (b.drop (k+v));have e:(k+v)+c*(k+v)=(c+1)*(k+v):=(by rw[xQ];omega);rw[leafR,ih];simp only[xB,e];rfl
def qln:∀(c:Nat) (b:List Int),kidsR (c+1) b=kidsR c b++[getV ((b.drop (c*4)).take 4)]
 | 0,b=>by simp[kidsR]
 | c+1,b=>by have ih:=qln c (b.drop 4);have e:4+c*4=(c+1)*4:=oJ;rw[kidsR,ih,xB,e];rfl
def qlm{k:Nat}:∀(c:Nat) (b:List Int),keysR k (c+1) b=keysR k c b++[(b.drop (c*k)).take k]
 | 0,b=>by simp[keysR]
 | c+1,b=>by have ih:=qlm (k:=k) c (b.drop k);have e:k+c*k=(c+1)*k:=(by rw[xQ];omega);rw[keysR,ih,xB,e];rfl
def qiq:∀(c:Nat) (b:List Int),(kidsR c b).length=c
 | 0,_=>rfl
 | c+1,b=>by rw[kidsR,yH,qiq c]
def qip{k:Nat}:∀(c:Nat) (b:List Int),(keysR k c b).length=c
 | 0,_=>rfl
 | c+1,b=>by rw[keysR,yH,qip c]
def appK{x:Sl}{l:List Sl}(h:Buf encSl 1 w s l B)(V:l.length<=100000)(I:w.heap[vb]?=some (.cells #[elSl x] T' (0,0)))(J:∀y B' w',Buf encSl 1 w' y (l++[x]) B'->Fr B w w'->(∀b∈B',b∈B\/w.heap.size<=b)->K y w'): Pt.run [Ty1.one Cell.slice] ((Builtin.append_ #[161,161] 161 #[s.v,.slice (pW vb) 1 1]).run prog w) K:=by obtain⟨O,z,Q,A,C⟩:=qlj;refine Buf.appSrc (ys:=[x]) (e:=27) h qcA oK z Q A rfl (.ofSlice w (e':=27) oK _ 1 1 _ rfl (fun j u E=>?_) fun u G=>?_) rfl (by rw[C];omega) oJ fun y B' w' R U n' _=>J y B' w' R U n';rw[Addr.add_mk,qah I,xO];rw[yG,flatMap_nil,xF] at E;simpa[encSl] using E;rw[yG,flatMap_nil,xF] at G;rw[zE.1 G];rfl
def qqC{x:Int}(h:Buf encU 1 w s l B)(V:l.length<=100000)(I:w.heap[vb]?=some (.cells #[.u x] T' (0,0)))(J:∀y B' w',Buf encU 1 w' y (l++[x]) B'->Fr B w w'->(∀b∈B',b∈B\/w.heap.size<=b)->K y w'): Pt.run [Ty1.one Cell.slice] ((Builtin.append_ #[31,31] 31 #[s.v,.slice (pW vb) 1 1]).run prog w) K:=by obtain⟨O,z,Q,A,C⟩:=qc2;refine Buf.appSrc (ys:=[x]) (e:=32) h qaI oK z Q A rfl (.ofSlice w (e':=32) oK _ 1 1 _ rfl (fun j u E=>?_) fun u G=>?_) rfl (by rw[C];omega) oJ fun y B' w' R U n' _=>J y B' w' R U n';rw[Addr.add_mk,qah I,xO];rw[yG,flatMap_nil,xF] at E;simpa[encU] using E;rw[yG,flatMap_nil,xF] at G;rw[zE.1 G];rfl
abbrev takerV (h:Nat):Value:=.func (.func 223) #[] #[.pointer (pW h)]
def qpE{u m:Nat}(h:Own [] w0 w L)(hi:L[i]?=some (u,.cells #[elSl s] T (0,0)))(z:RdB [] w0 s b)(y:m<=b.length)(hl:b.length<=1000000)(kk:∀E B' G w',Own [] w0 w' (L.set i (u,.cells #[elSl G] T (0,0)))->BufB w' E (b.take m) B'->(∀c∈B',w.heap.size<=c)->RdB [] w0 G (b.drop m)->Fr [u] w w'->K E w'): callV prog (takerV u) [.i m] [.one .slice] w K:=by
 refine qa2 (lb:=[.pointer (pW u)]) rfl oK<|qkA ?_;unfold qgj;refine oA h i hi s rfl<|Rds.part (S:=[]) z (lo:=none) (hi:=some (m:Int)) 0 m rfl rfl (yW _) y fun s1 _ I _=>?_;rw[xD] at I;refine qa0 (I.frame0 h.fr) (by rw[yK];omega) fun s2 B2 w2 b2 J O _ _=>?_;have Q:=h.frame0 J;refine oA Q i hi s rfl<|Rds.part (S:=[]) z (lo:=some (m:Int)) (hi:=none) m b.length rfl (by rw[xS,z.1]) y (zM _) fun R _ U _=>?_;rw[xV] at U;have A:=qac (h.at hi);refine oG Q i hi #[elSl R] rfl rfl (zM _) fun w3 C V=>kk s2 B2 R w3 C (b2.frame V fun c hc y=>?_) O U ((J.mono fun _ h _=>nomatch h).trans V)
 have:=O c hc
 rw[zE.1 y] at this;dsimp only at A;omega
def getO (x:NdC) (o:Nat):Sl:=if o=1 then x.2.1 else x.2.2.1
def setO (x:NdC) (o:Nat) (s:Sl):NdC:=if o=1 then (x.1,s,x.2.2) else (x.1,x.2.1,s,x.2.2.2)
def qmi{o:Nat}(h:o=1\/o=2):(ndV x)[o]?=some (elSl (getO x o)):=by rcases h with rfl|rfl<;>rfl
def qvD{o:Nat}(h:o=1\/o=2):splice (ndV x) o [elSl s]=ndV (setO x o s):=by rcases h with rfl|rfl<;>rfl
def qrT{z A m o:Nat}{s':Sl}{l:List Sl}{K:WP}(ho:o=1\/o=2)(h:Own [] w0 w ((z,.cells (ndV x) ND (0,0))::(A,.cells #[elSl s'] T (0,0))::L))(hr:RdB [] w0 s' b)(y:m<=b.length)(aC:b.length<=1000000)(U:Buf encSl 1 w (getO x o) l Bk)(Q:∀c∈Bk,w0.heap.size<=c/\c∉z::A::L.map (·.1))(hl:l.length<=100000)(kk:∀sn sN E Bk' w',Own [] w0 w' ((z,.cells (ndV (setO x o E)) ND (0,0))::(A,.cells #[elSl sN] T (0,0))::L)->RdB [] w0 sN (b.drop m)->Buf encSl 1 w' E (l++[sn]) Bk'-> (∀c∈Bk',c∈Bk\/w.heap.size<=c)->(∀c∈Bk',c∉z::A::L.map (·.1))->Fr (z::A::Bk) w w'->(∀G:List Nat,(∀c∈G,c<w.heap.size\/c∈Bk')->RdB G w' sn (b.take m))->K w'): (ld Cell.slice ⟨z,o,none⟩ w.drew<| fun (u:Sl)=> callV prog (takerV A) ([Value.int IntKind.i64 m]) ([Ty1.one Cell.slice]) w.drew<| fun (I:Sl) (V:World)=> held [fun (am:Go.World)=>World.cell? am ⟨z,o,none⟩=some (Value.slice u.a u.len u.cap)] V<| new (.cells #[Value.slice I.a I.len I.cap] 27) V<| fun (an:Nat) (aa:World)=> held [fun (ao:Go.World)=>World.cell? ao ⟨z,o,none⟩=some (Value.slice u.a u.len u.cap)] aa<| run [Ty1.one Cell.slice] ((Builtin.append_ (#[161,161]) 161 (#[Value.slice u.a u.len u.cap,Value.slice (pW an) 1 1])).run prog aa)<| fun (J:Sl) (ap:World)=> st ⟨z,o,none⟩ ([Value.slice J.a J.len J.cap]) ap K):=by
 have hd:=h.drew;refine oA hd 0 rfl (getO x o) (qmi ho)<|qpE hd (i:=1) rfl hr y aC fun aD aE sN ad R aF aG hN ae=>?_;have R:Own [] w0 ad ((z,.cells (ndV x) ND (0,0))::(A,.cells #[elSl sN] T (0,0))::L):=R;refine qai (R.cell 0 rfl (qmi ho))<|oB R fun aS aT aU af ag=>qai (ag.cell 1 rfl (qmi ho)) ?_;have ah:Buf encSl 1 w.drew (getO x o) l Bk:=U;have aq:=ah.frame ae fun c C y=>(Q c C).2 (by rw[zE.1 y];simp);have ar:=aq.frame0 af;refine appK ar hl (ag.at (i:=0) rfl) fun E Bk' aV aH ai au=>?_;have av:=ag.sub (L':=(z,.cells (ndV x) ND (0,0))::(A,.cells #[elSl sN] T (0,0))::L) (sublist_cons_self _ _);have aW:w.heap.size<=ad.heap.size:=ae.size;have aX:=af.size;have aY:=ai.size;have O:∀c∈z::A::L.map (·.1),c<w.heap.size:=fun c C=>by obtain⟨p,hp,rfl⟩:=mem_map.1 (show c∈((z,Obj.cells (ndV x) ND (0,0))::(A,.cells #[elSl s'] T (0,0))::L).map (·.1) from C);exact qac (h.blk p hp)
 have aj:∀p∈((z,Obj.cells (ndV x) ND (0,0))::(A,.cells #[elSl sN] T (0,0))::L),p.1∉Bk:=fun p hp y=>(Q p.1 y).2 (zY (f:=(·.1)) hp);have aJ:=av.frame ai (fun i hi=>.inr (Q i hi).1) aj;have ab:∀c∈Bk',c∈Bk\/w.heap.size<=c:=fun c C=>(au c C).elim .inl fun h=>.inr oJ;have aw:∀c∈Bk',c∉z::A::L.map (·.1):=fun c C y=>by
  rcases ab c C with h|h;exact (Q c h).2 y
  have:=O c y;omega
 refine oG aJ 0 rfl (ndV (setO x o E)) (qvD ho) rfl (by rcases ho with rfl|rfl<;>exact zO rfl) fun ak aK ax=>?_;have h5:∀c∈Bk',c∉[z]:=fun c C y=>aw c C (by rw[zE.1 y];simp);have ay:Fr (z::A::Bk) ad ak:=((af.mono fun _ h _=>nomatch h).trans (ai.mono fun i hi _=>by simp[hi])).trans (ax.mono fun i hi _=>by simp[zE.1 hi]);have aL:Fr (z::A::Bk) w ak:=((Fr.refl _ w).drew.trans (ae.mono fun i hi _=>by simp[zE.1 hi])).trans ay;refine kk aD sN E Bk' ak aK hN (aH.frame ax h5) ab aw aL fun G hG=>?_;have az:∀c∈aE,c∉z::A::Bk++G.filter fun c=>decide (c<w.heap.size):=fun c C y=>by
  have h1:w.heap.size<=c:=aG c C;rcases zD.1 y with y|y;rcases zG.1 y with rfl|y
  have:=O c oL;omega
  rcases zG.1 y with rfl|y
  have:=O c oL;omega
  have:=U.lt c y;omega
  have:=(mem_filter.1 y).2
  simp at this;omega
 refine (aF.rds qas az).frame (ay.mono fun i hi _=>zH _ hi) fun c C=>?_;rcases hG c C with h1|h1;exact .inl (zI _ (mem_filter.2 ⟨C,by simpa using h1⟩));rcases au c h1 with h2|h2;exact .inl (zH _ (by simp[h2]));exact .inr oJ
section
def qg6(h:Own S w0 w L)(p:L.Perm L'):Own S w0 w L':=⟨fun x u=>h.blk x (p.mem_iff.2 u),(p.map _).nodup_iff.1 h.nodup,h.fr,fun x u=>h.own x (p.mem_iff.2 u)⟩
def qcx{α:Type}{enc:α->List Value}{l:List α}(h:Buf enc k w s l B):B.Nodup:=by rcases h with ⟨_,_,rfl⟩|⟨b,_,_,_,rfl,_⟩<;>simp
def Els (w:World) (ps:Kps) (T:List Nat):Prop:=∀p∈ps,RdB T w p.1 p.2
def Els.frame{w w':World}{ps:Kps}{T T' S:List Nat}(h:Els w ps T)(f:Fr S w w')(u:∀b∈S,b∈T)(y:∀b∈T',b∈T\/w.heap.size<=b):Els w' ps T':=fun p z=>(h p z).frame (f.mono fun i hi _=>u i hi) y
def Els.snoc{T:List Nat}{a:Key}(h:Els w ps T)(g:RdB T w s a):Els w (ps++[(s,a)]) T:=fun p u=>by rcases zD.1 u with u|u;exact h p u;rw[zE.1 u];exact g
def qq1{G:List Nat}{pk pv:Kps}{h u T:List Nat}(Q:x.1=n.leaf)(R:NB n)(E:Buf encSl 1 w x.2.1 (slsP pk) Bk)(e1:keyP pk=n.keys)(I:Buf encSl 1 w x.2.2.1 (slsP pv) h)(U:keyP pv=n.vals)(J:Buf encU 1 w x.2.2.2 n.kids u)(K:∀c∈Bk,c∉h/\c∉u)(V:∀c∈h,c∉u)(g1:Els w pk T)(g2:Els w pv T)(O:∀c∈G++(Bk++(h++u)),c∈T):NodeB (G++(Bk++(h++u))) w x n (Bk++(h++u)):=by refine⟨Q,R,Bk,h,u,rfl,?_,⟨pk,E,e1,fun p A=>(g1 p A).weak fun c C=>.inl (O c C)⟩,⟨pv,I,U,fun p A=>(g2 p A).weak fun c C=>.inl (O c C)⟩,J⟩;refine yL.2 ⟨qcx E,yL.2 ⟨qcx I,qcx J,fun a z b y e=>V a z (e▸y)⟩,fun a z b y e=>?_⟩;rcases zD.1 y with y|y;exact (K a z).1 (e▸y);exact (K a z).2 (e▸y)
section
variable {w:World} {s:Sl} {b:List Int}
def qvv{count:Nat}{K:NdC×Bool->WP}(hb:RdB [] w s b)(hB:IsB b)(hl:b.length<=1000)(hc:count<=100000)(hk:1<=k/\k<=1000)(hv:v<=1000)(kk:∀x B n w',(b.length=count*(k+v)->n=⟨true,(leafR k v count b).1,(leafR k v count b).2,[]⟩)->NodeB (List.range w.heap.size++B) w' x n B->Fr [] w w'->(∀c∈B,w.heap.size<=c)->K (x,decide (b.length=count*(k+v))) w'): cW 154 [s.v,.i count,.i k,.i v] [.agg qab,.one .bool] w K:=by
 refine qo9 ?_;unfold qlt;refine oB (oE [] w) fun r1 w1 e1 f1 h=>?_;have aY:count*(k+v)<=100000*2000:=Nat.mul_le_mul hc oJ;have ew:wrap .i64 ((count:Int)*wrap .i64 ((k:Int)+(v:Int)))=((count*(k+v):Nat):Int):=by have e1:wrap .i64 ((k:Int)+(v:Int))=((k+v:Nat):Int):=(by rw[wi' _ oJ];rfl);rw[e1,<- Int.natCast_mul,wi' _ oJ]
 rw[ew];have al:=hb.1;apply qaa<;>intro U;have am:b.length≠count*(k+v):=fun e=>by rw[al,e] at U;simp at U
 refine oD h 0 rfl (ndV zeroX) fun w2 h f2=>oC h 0 rfl zeroX rfl ?_
 have:=kk zeroX [] zeroN w2 (fun e=>absurd e am) (.zero _ _) h.fr (fun _ h=>nomatch h)
 rw[zU am] at this;exact this;have aG:b.length=count*(k+v):=by
  have:((s.len:Int)==((count*(k+v):Nat):Int))=true:=by simpa using U
  have:=yO.1 this
  omega
 have a5:count<=1000:=(by have:count*1<=count*(k+v):=Nat.mul_le_mul_left _ oJ;omega);refine oB h fun y w2 e2 f2 h=>oD h 0 rfl (ndV (true,⟨none,0,0⟩,⟨none,0,0⟩,⟨none,0,0⟩)) fun w3 h f3=>qhx ?_;unfold qfY;refine oB h fun A w4 e4 f4 h=>?_;have h:=qg6 h (List.Perm.swap _ _ _);have a6:=h.nodup;have a7:=fun p hp=>(h.own p hp).elim (fun h=>(nomatch h:False).elim) (id:w.heap.size<=p.1->_);refine qaj (fun i w'=>∃(c:Nat) (sk R sn:Sl) (pk pv:Kps) (Bk C:List Nat),i=(c:Int)/\c<=count/\Own [] w w' [(y,.cells (ndV (true,sk,R,⟨none,0,0⟩)) ND (0,0)),(A,.cells #[elSl sn] 27 (0,0)),(r1,.cells (ndV zeroX) ND (0,0))]/\
   RdB [] w sn (b.drop (c*(k+v)))/\Buf encSl 1 w' sk (slsP pk) Bk/\keyP pk=(leafR k v c b).1/\Buf encSl 1 w' R (slsP pv) C/\keyP pv=(leafR k v c b).2/\(∀c∈Bk,w.heap.size<=c/\c∉[y,A,r1])/\(∀c∈C,w.heap.size<=c/\c∉[y,A,r1])/\(∀c∈Bk,c∉C)/\
   Els w' pk (List.range w.heap.size++y::A::r1::(Bk++C))/\Els w' pv (List.range w.heap.size++y::A::r1::(Bk++C))) (fun i _=>((count:Int)-i).toNat)
  ⟨0,⟨none,0,0⟩,⟨none,0,0⟩,s,[],[],[],[],rfl,yW _,h,by rw[Nat.zero_mul,xD];exact hb,.nil _ _ _,rfl,.nil _ _ _,rfl,fun _ h=>(nomatch h),fun _ h=>(nomatch h),fun _ h=>(nomatch h),fun _ h=>(nomatch h),fun _ h=>(nomatch h)⟩ ?_
 rintro _ w' ⟨c,sk,R,sn,pk,pv,Bk,C,rfl,a9,h,aH,an,ek,V,ev,nk,nv,af,gk,gv⟩ X hX;have lk:pk.length=c:=(by rw[<- zK (f:=(·.2)),show pk.map (·.2)=keyP pk from rfl,ek,(qfw c b).1]);have lv:pv.length=c:=(by rw[<- zK (f:=(·.2)),show pv.map (·.2)=keyP pv from rfl,ev,(qfw c b).2]);have G:∀z∈[y,A,r1],z<w'.heap.size:=fun z u=>by simp only[zG,xT,or_false] at u;rcases u with rfl|rfl|rfl;exact qac (h.at (i:=0) rfl);exact qac (h.at (i:=1) rfl);exact qac (h.at (i:=2) rfl)
 apply qaa<;>intro ag;have ao:c<count:=(by have:=zC ag;omega);have ah:(c+1)*(k+v)<=count*(k+v):=Nat.mul_le_mul_right _ ao;rw[xQ,Nat.one_mul] at ah;have ba:(b.drop (c*(k+v))).length=b.length-c*(k+v):=yB;refine qrT (o:=1) (m:=k) (.inl rfl) h aH oJ oJ (x:=(true,sk,R,⟨none,0,0⟩)) an (fun z u=>nk z u) oO fun J sN O Bk' w5 h5 aK b5 n5 m5 f5 g5=>?_;have h5:Own [] w w5 [(y,.cells (ndV (true,O,R,⟨none,0,0⟩)) ND (0,0)),(A,.cells #[elSl sN] 27 (0,0)),(r1,.cells (ndV zeroX) ND (0,0))]:=h5;have ap:=V.frame f5 fun z u E=>by simp only[zG] at E;rcases E with rfl|rfl|E;exact (nv _ u).2 oL;exact (nv _ u).2 oL;exact af z E u
 have aq:∀z∈List.range w.heap.size++y::A::r1::(Bk'++C),z∈List.range w.heap.size++y::A::r1::(Bk++C)\/w'.heap.size<=z:=fun z u=>by simp only[zD,zG] at u⊢;rcases u with u|rfl|rfl|rfl|u|u;exact .inl (.inl u);simp;simp;simp;rcases n5 z u with h|h;simp[h];exact .inr h;simp[u]
 have ar:∀z∈y::A::Bk,z∈List.range w.heap.size++y::A::r1::(Bk++C):=fun z u=>by simp only[zD,zG] at u⊢;rcases u with rfl|rfl|u<;>simp[*]
 have aN:=(gk.frame f5 ar aq).snoc (s:=J) (a:=(b.drop (c*(k+v))).take k) (g5 _ fun z u=>by
  simp only[zD,zG,mem_range] at u
  have:=h.fr.size
  rcases u with u|rfl|rfl|rfl|u|u;exact .inl oJ;exact .inl (G _ oL);exact .inl (G _ oL);exact .inl (G _ oL);exact .inr u;exact .inl (V.lt z u))
 have aO:=gv.frame f5 ar aq;have ai:∀z∈Bk',w.heap.size<=z/\z∉[y,A,r1]:=fun z u=>⟨by rcases n5 z u with I|I;exact (nk z I).1;exact zL h.fr.size I,m5 z u⟩;have ae:∀z∈Bk',z∉C:=fun z u E=>by
  rcases n5 z u with I|I;exact af z I E
  have:=V.lt z E;omega
 have aP:Buf encSl 1 w5 O (slsP (pk++[(J,(b.drop (c*(k+v))).take k)])) Bk':=(by rw[show slsP (pk++[(J,(b.drop (c*(k+v))).take k)])=slsP pk++[J] by simp];exact b5);refine qrT (o:=2) (m:=v) (.inr rfl) h5 aK (by rw[yB];omega) (by rw[yB];omega) (x:=(true,O,R,⟨none,0,0⟩)) ap (fun z u=>nv z u) oO fun ab au av aw w6 h6 ax b6 n6 m6 f6 g6=>?_;have h6:Own [] w w6 [(y,.cells (ndV (true,O,av,⟨none,0,0⟩)) ND (0,0)),(A,.cells #[elSl au] 27 (0,0)),(r1,.cells (ndV zeroX) ND (0,0))]:=h6;have Q:∀z∈[y,A,r1],z<w5.heap.size:=fun z u=>yC (G z u) f5.size;have ay:=aP.frame f6 fun z u E=>by simp only[zG] at E;rcases E with rfl|rfl|E;exact (ai _ u).2 oL;exact (ai _ u).2 oL;exact ae z u E
 have az:∀z∈List.range w.heap.size++y::A::r1::(Bk'++aw),z∈List.range w.heap.size++y::A::r1::(Bk'++C)\/w5.heap.size<=z:=fun z u=>by simp only[zD,zG] at u⊢;rcases u with u|rfl|rfl|rfl|u|u;exact .inl (.inl u);simp;simp;simp;simp[u];rcases n6 z u with h|h;simp[h];exact .inr h
 have aA:∀z∈y::A::C,z∈List.range w.heap.size++y::A::r1::(Bk'++C):=fun z u=>by simp only[zD,zG] at u⊢;rcases u with rfl|rfl|u<;>simp[*]
 have aT:=(aO.frame f6 aA az).snoc (s:=ab) (a:=((b.drop (c*(k+v))).drop k).take v) (g6 _ fun z u=>by
  simp only[zD,zG,mem_range] at u
  have:=h5.fr.size
  rcases u with u|rfl|rfl|rfl|u|u;exact .inl oJ;exact .inl (Q _ oL);exact .inl (Q _ oL);exact .inl (Q _ oL);exact .inl (b5.lt z u);exact .inr u)
 have aU:=aN.frame f6 aA az;rw[qbx oJ];have aB:=qlo (k:=k) (v:=v) c b;refine hX _ _ ⟨c+1,O,av,au,pk++[(J,(b.drop (c*(k+v))).take k)],pv++[(ab,((b.drop (c*(k+v))).drop k).take v)],Bk',aw,rfl,ao,h6,?_,ay,?_,?_,?_,ai,fun z u=>⟨?_,m6 z u⟩,fun z u E=>?_,aU,aT⟩ oJ;rw[xB,xB] at ax;have e:c*(k+v)+(k+v)=(c+1)*(k+v):=(by rw[xQ];omega);rw[<- e];exact ax;rw[aB];simp[ek];rw[show slsP (pv++[(ab,((b.drop (c*(k+v))).drop k).take v)])=slsP pv++[ab] by simp];exact b6;rw[aB];simp[ev];rcases n6 z u with I|I;exact (nv z I).1;exact zL h5.fr.size I;rcases n6 z E with I|I;exact ae z u I
 have:=b5.lt z u;omega
 have aV:c=count:=(by have:=zB ag;omega);subst aV;refine oC h 0 rfl (true,sk,R,⟨none,0,0⟩) rfl<|oD h 2 rfl (ndV (true,sk,R,⟨none,0,0⟩)) fun w5 h5 f5=>oC h5 2 rfl (true,sk,R,⟨none,0,0⟩) rfl ?_;have aC:∀ {B:List Nat},(∀z∈B,w.heap.size<=z/\z∉[y,A,r1])->∀z∈B,z∉[r1]:=fun hB z u E=>(hB z u).2 (by rw[zE.1 E];simp);have aD:∀z∈[r1],z∈List.range w.heap.size++y::A::r1::(Bk++C):=fun z u=>by rw[zE.1 u];simp
 have:=kk (true,sk,R,⟨none,0,0⟩) (Bk++(C++[])) ⟨true,(leafR k v c b).1,(leafR k v c b).2,[]⟩ w5 (fun _=>rfl)
  (qq1 (T:=List.range w.heap.size++y::A::r1::(Bk++C)) rfl ⟨(qis c hB).1,(qis c hB).2,fun _ h=>(nomatch h)⟩ (an.frame f5 (aC nk)) ek (V.frame f5 (aC nv)) ev (.nil _ _ _) (fun z u=>⟨af z u,fun h=>nomatch h⟩) (fun _ _ h=>nomatch h)
   (gk.frame f5 aD fun z u=>.inl u) (gv.frame f5 aD fun z u=>.inl u) fun z u=>by simp only[xF,zD,zG] at u⊢;rcases u with u|u|u<;>simp[*]) h5.fr (fun z u=>by
   rw[xF] at u;rcases zD.1 u with u|u;exact (nk z u).1;exact (nv z u).1)
 rw[zZ aG] at this;exact this
end
end
section
def qp1(u:IsB l)(z:4<=l.length):first4 (l.take 4)=getV (l.take 4):=by
 match l,z with
 | a::b::c::d::r,_=>
  have A:=u a oL;have C:=u b oL;have E:=u c oL;have G:=u d oL;show first4 [a,b,c,d]=getV [a,b,c,d];show get4V a b c d=_;rw[qoI A C E G,qgY (fun v y=>u v (by simp at y⊢;rcases y with h|h|h|h<;>simp[h])) (zM _)];show _=(((0*256+a)*256+b)*256+c)*256+d;omega
def qul(l:List Int):U32 (getV l):=by
 unfold getV;have:∀(l:List Int) (r:Int),U32 r->U32 (l.foldl (fun r x=>bits .or .u32 (wrap .u32 (r*2^8)) (wrap .u32 x)) r):=by
  intro l;induction l with
  | nil=>intro r h;exact h
  | cons x l ih=>intro r h;exact ih _ (qcd _ _ _)
 exact this l 0 ⟨oM,oM⟩
def qm3:∀(c:Nat) (b:List Int),∀x∈kidsR c b,U32 x
 | 0,_,_,h=>nomatch h
 | c+1,b,x,h=>by rcases zG.1 h with rfl|h;exact qul _;exact qm3 c _ x h
def qvJ{C E:Nat}{s':Sl}{Bi:List Nat}{K:WP}(h:Own [] w0 w ((C,.cells (ndV x) ND (0,0))::(E,.cells #[elSl s'] T (0,0))::L))(hr:RdB [] w0 s' b)(hB:IsB b)(Q:4<=b.length)(ax:b.length<=1000000)(ae:Buf encU 1 w x.2.2.2 l Bi)(R:∀c∈Bi,w0.heap.size<=c/\c∉C::E::L.map (·.1))(hl:l.length<=100000)(kk:∀V G I w',Own [] w0 w' ((C,.cells (ndV (x.1,x.2.1,x.2.2.1,G)) ND (0,0))::(E,.cells #[elSl V] T (0,0))::L)->RdB [] w0 V (b.drop 4)->Buf encU 1 w' G (l++[getV (b.take 4)]) I-> (∀c∈I,w0.heap.size<=c/\c∉C::E::L.map (·.1))->K w'): (callV prog (takerV E) ([Value.int IntKind.i64 4]) ([Ty1.one Cell.slice]) w<| fun (z:Sl) (u:World)=> ld Cell.slice ⟨C,3,none⟩ u.drew<| fun (y:Sl)=> idx z 0 1<| fun (af:Addr)=> ld (Cell.int IntKind.u8) af u.drew<| fun (ag:Int)=> idx z 1 1<| fun (ah:Addr)=> ld (Cell.int IntKind.u8) ah u.drew<| fun (ai:Int)=> idx z 2 1<| fun (aj:Addr)=> ld (Cell.int IntKind.u8) aj u.drew<| fun (ak:Int)=> idx z 3 1<| fun (al:Addr)=> ld (Cell.int IntKind.u8) al u.drew<| fun (am:Int)=> new (.cells #[Value.int IntKind.u32 (bits .or .u32 (bits .or .u32 (bits .or .u32 (wrap IntKind.u32 (wrap IntKind.u32 ag*2^24)) (wrap IntKind.u32 (wrap IntKind.u32 ai*2^16))) (wrap IntKind.u32 (wrap IntKind.u32 ak*2^8))) (wrap IntKind.u32 am))] 32) u.drew<| fun (an:Nat) (aa:World)=> held [fun (ao:Go.World)=>World.cell? ao ⟨C,3,none⟩=some (Value.slice y.a y.len y.cap)] aa<| run [Ty1.one Cell.slice] ((Builtin.append_ (#[31,31]) 31 (#[Value.slice y.a y.len y.cap,Value.slice (pW an) 1 1])).run prog aa)<| fun (J:Sl) (ap:World)=> st ⟨C,3,none⟩ ([Value.slice J.a J.len J.cap]) ap K):=by
 refine qpE (m:=4) h (i:=1) rfl hr Q ax fun ay aT V U az aA aU hN aB=>?_;have hd:Own [] w0 U.drew ((C,.cells (ndV x) ND (0,0))::(E,.cells #[elSl V] T (0,0))::L):=oF az;refine oA hd 0 rfl x.2.2.2 rfl ?_;have A:RdB [] U.drew ay (b.take 4):=(aA.rds qas (S:=[]) (fun _ _ h=>nomatch h)).frame0 (Fr.refl [] U).drew;have h4:4<=(b.take 4).length:=(by rw[yK];omega);refine RdB.at A 0 rfl (getD_some oJ)<|RdB.at A 1 rfl (getD_some oJ)<|RdB.at A 2 rfl (getD_some oJ)<|RdB.at A 3 rfl (getD_some oJ) ?_;have e4:=qp1 hB Q;unfold first4 get4V at e4;rw[e4];refine oB hd fun aW aC aX aD ab=>qai (ab.cell 1 rfl rfl) ?_;have aq:=ae.frame aB fun c hc Q=>(R c hc).2 (by rw[zE.1 Q];simp);have ar:=(aq.frame0 (Fr.refl [] U).drew).frame0 aD;refine qqC ar hl (ab.at (i:=0) rfl) fun G I aY aE aF aG=>?_;have O:=ab.sub (L':=(C,.cells (ndV x) ND (0,0))::(E,.cells #[elSl V] T (0,0))::L) (sublist_cons_self _ _);have ad:∀p∈((C,Obj.cells (ndV x) ND (0,0))::(E,.cells #[elSl V] T (0,0))::L),p.1∉Bi:=fun p hp Q=>(R p.1 Q).2 (zY (f:=(·.1)) hp);have aI:=O.frame aF (fun i hi=>.inr (R i hi).1) ad;have au:∀c∈C::E::L.map (·.1),c<aC.heap.size:=fun c hc=>by obtain⟨p,hp,rfl⟩:=mem_map.1 (show c∈((C,Obj.cells (ndV x) ND (0,0))::(E,.cells #[elSl V] T (0,0))::L).map (·.1) from hc);exact qac (O.blk p hp)
 have av:∀c∈I,w0.heap.size<=c/\c∉C::E::L.map (·.1):=fun c hc=>by rcases aG c hc with h|h;exact R c h;exact⟨zL O.fr.size h,fun Q=>by have:=au c Q;omega⟩
 exact oD aI 0 rfl (ndV (x.1,x.2.1,x.2.2.1,G)) fun aJ aK aL=>kk V G I aJ aK hN (aE.frame aL fun c hc Q=>(av c hc).2 (by rw[zE.1 Q];simp)) av
section
variable {w:World} {s:Sl} {b:List Int}
def qsY{count:Nat}{K:NdC×Bool->WP}(hb:RdB [] w s b)(hB:IsB b)(hl:b.length<=1000)(hc:count<=100000)(hk:1<=k/\k<=1000)(kk:∀x B n w',(1<=count/\b.length=count*4+(count-1)*k->n=⟨false,keysR k (count-1) (b.drop (count*4)),[],kidsR count b⟩)->NodeB (List.range w.heap.size++B) w' x n B->Fr [] w w'->(∀c∈B,w.heap.size<=c)->K (x,decide (1<=count/\b.length=count*4+(count-1)*k)) w'): cW 155 [s.v,.i count,.i k] [.agg qab,.one .bool] w K:=by
 refine qnP ?_;unfold qjY;refine oB (oE [] w) fun r1 w1 e1 f1 h=>?_;have ak:=hb.1;have al:(count-1)*k<=100000*1000:=Nat.mul_le_mul oJ hk.2;refine qaf (fun d w'=>d = !decide (1<=count/\b.length=count*4+(count-1)*k)/\w'=w1) ?_ ?_;apply qaa<;>intro h1;have h1:=zC h1;refine⟨?_,rfl⟩;rw[zU (fun h=>oJ)];rfl;have h1:=zB h1;refine⟨?_,rfl⟩;have ea:wrap .i64 ((count:Int)-1)=((count-1:Nat):Int):=(by rw[wi' _ oJ];omega);have ew:wrap .i64 (wrap .i64 ((count:Int)*4)+wrap .i64 (wrap .i64 ((count:Int)-1)*(k:Int)))=((count*4+(count-1)*k:Nat):Int):=by have e4:wrap .i64 ((count:Int)*4)=((count*4:Nat):Int):=(by rw[wi' _ oJ];rfl);have e5:wrap .i64 (((count-1:Nat):Int)*(k:Int))=(((count-1)*k:Nat):Int):=(by rw[<- Int.natCast_mul,wi' _ oJ]);rw[ea,e4,e5];generalize (count-1)*k=z at al;rw[wi' _ oJ];rfl
 rw[ew,ak];congr 1;rw[Bool.eq_iff_iff,yO,yM];generalize (count-1)*k=z;omega;rintro d aW ⟨rfl,rfl⟩;apply qaa<;>intro I;have an:¬(1<=count/\b.length=count*4+(count-1)*k):=(by rw[zT] at I;exact zB I);refine oD h 0 rfl (ndV zeroX) fun Q h f2=>oC h 0 rfl zeroX rfl ?_
 have:=kk zeroX [] zeroN Q (fun e=>absurd e an) (.zero _ _) h.fr (fun _ h=>nomatch h)
 rw[zU an] at this;exact this;have aC:1<=count/\b.length=count*4+(count-1)*k:=(by rw[yD] at I;exact zC I);refine oB h fun A Q e2 f2 h=>qhx ?_;unfold qfY;refine oB h fun C w4 e4 f4 h=>?_;have h:=qg6 h (List.Perm.swap _ _ _);refine qaj (fun i w'=>∃(c:Nat) (G sn:Sl) (E:List Nat),i=(c:Int)/\c<=count/\Own [] w w' [(A,.cells (ndV (false,⟨none,0,0⟩,⟨none,0,0⟩,G)) ND (0,0)),(C,.cells #[elSl sn] 27 (0,0)),(r1,.cells (ndV zeroX) ND (0,0))]/\
   RdB [] w sn (b.drop (c*4))/\Buf encU 1 w' G (kidsR c b) E/\(∀c∈E,w.heap.size<=c/\c∉[A,C,r1])) (fun i _=>((count:Int)-i).toNat)
  ⟨0,⟨none,0,0⟩,s,[],rfl,yW _,h,by rw[Nat.zero_mul,xD];exact hb,.nil _ _ _,fun _ h=>(nomatch h)⟩ ?_
 rintro _ w' ⟨c,G,sn,E,rfl,aY,h,ao,y,ni⟩ X hX;apply qaa<;>intro ac;have R:c<count:=(by have:=zC ac;omega);have aE:(b.drop (c*4)).length=b.length-c*4:=yB;refine qvJ h ao (hB.drop _) oJ oJ (x:=(false,⟨none,0,0⟩,⟨none,0,0⟩,G)) y ni (by rw[qiq];omega) fun sN aF aG w5 h5 J b5 n5=>?_;rw[qbx oJ];refine hX _ _ ⟨c+1,aF,sN,aG,rfl,R,h5,?_,by rw[qln];exact b5,n5⟩ oJ;rw[xB] at J;have e:c*4+4=(c+1)*4:=oJ;rw[<- e];exact J;have ad:c=count:=(by have:=zB ac;omega);subst ad;have aQ:∀z∈E,w.heap.size<=z:=fun z u=>(ni z u).1;refine qaj (fun i Q=>∃(d:Nat) (sk sn:Sl) (pk:Kps) (Bk:List Nat),i=(d:Int)/\d<=c-1/\Own [] w Q [(A,.cells (ndV (false,sk,⟨none,0,0⟩,G)) ND (0,0)),(C,.cells #[elSl sn] 27 (0,0)),(r1,.cells (ndV zeroX) ND (0,0))]/\
   RdB [] w sn ((b.drop (c*4)).drop (d*k))/\Buf encU 1 Q G (kidsR c b) E/\Buf encSl 1 Q sk (slsP pk) Bk/\keyP pk=keysR k d (b.drop (c*4))/\(∀c∈Bk,w.heap.size<=c/\c∉[A,C,r1])/\(∀c∈Bk,c∉E)/\
   Els Q pk (List.range w.heap.size++A::C::r1::(Bk++E))) (fun i _=>(((c-1:Nat):Int)-i).toNat)
  ⟨0,⟨none,0,0⟩,sn,[],[],rfl,yW _,h,by rw[Nat.zero_mul,xD];exact ao,y,.nil _ _ _,rfl,fun _ h=>(nomatch h),fun _ h=>(nomatch h),fun _ h=>(nomatch h)⟩ ?_
 rintro _ Q ⟨d,sk,aZ,pk,Bk,rfl,a0,h,aq,y,ar,ek,nk,ae,gk⟩ X hX;have lk:pk.length=d:=(by rw[<- zK (f:=(·.2)),show pk.map (·.2)=keyP pk from rfl,ek,qip]);have ea:wrap .i64 ((c:Int)-1)=((c-1:Nat):Int):=(by rw[wi' _ oJ];omega);have O:∀z∈[A,C,r1],z<Q.heap.size:=fun z u=>by simp only[zG,xT,or_false] at u;rcases u with rfl|rfl|rfl;exact qac (h.at (i:=0) rfl);exact qac (h.at (i:=1) rfl);exact qac (h.at (i:=2) rfl)
 rw[ea];apply qaa<;>intro af;have R:d<c-1:=(by have:=zC af;omega);have ag:(d+1)*k<=(c-1)*k:=Nat.mul_le_mul_right _ R;rw[xQ,Nat.one_mul] at ag;have aE:((b.drop (c*4)).drop (d*k)).length=b.length-c*4-d*k:=(by rw[yB,yB]);refine qrT (o:=1) (m:=k) (.inl rfl) h aq oJ oJ (x:=(false,sk,⟨none,0,0⟩,G)) ar nk oO fun U sN au Bk' w5 h5 J b5 n5 m5 f5 g5=>?_;have h5:Own [] w w5 [(A,.cells (ndV (false,au,⟨none,0,0⟩,G)) ND (0,0)),(C,.cells #[elSl sN] 27 (0,0)),(r1,.cells (ndV zeroX) ND (0,0))]:=h5;have av:=y.frame f5 fun z u V=>by simp only[zG] at V;rcases V with rfl|rfl|V;exact (ni _ u).2 oL;exact (ni _ u).2 oL;exact ae z V u
 have aJ:∀z∈List.range w.heap.size++A::C::r1::(Bk'++E),z∈List.range w.heap.size++A::C::r1::(Bk++E)\/Q.heap.size<=z:=fun z u=>by simp only[zD,zG] at u⊢;rcases u with u|rfl|rfl|rfl|u|u;exact .inl (.inl u);simp;simp;simp;rcases n5 z u with h|h;simp[h];exact .inr h;simp[u]
 have aK:∀z∈A::C::Bk,z∈List.range w.heap.size++A::C::r1::(Bk++E):=fun z u=>by simp only[zD,zG] at u⊢;rcases u with rfl|rfl|u<;>simp[*]
 have aL:=(gk.frame f5 aK aJ).snoc (s:=U) (a:=((b.drop (c*4)).drop (d*k)).take k) (g5 _ fun z u=>by
  simp only[zD,zG,mem_range] at u
  have:=h.fr.size
  rcases u with u|rfl|rfl|rfl|u|u;exact .inl oJ;exact .inl (O _ oL);exact .inl (O _ oL);exact .inl (O _ oL);exact .inr u;exact .inl (y.lt z u))
 rw[qbx oJ];refine hX _ _ ⟨d+1,au,sN,pk++[(U,((b.drop (c*4)).drop (d*k)).take k)],Bk',rfl,R,h5,?_,av,?_,?_,fun z u=>⟨?_,m5 z u⟩,fun z u V=>?_,aL⟩ oJ;rw[xB] at J;have e:d*k+k=(d+1)*k:=(by rw[xQ];omega);rw[<- e];exact J;rw[show slsP (pk++[(U,((b.drop (c*4)).drop (d*k)).take k)])=slsP pk++[U] by simp];exact b5;rw[qlm];simp[ek];rcases n5 z u with h'|h';exact (nk z h').1;exact zL h.fr.size h';rcases n5 z u with h'|h';exact ae z h' V
 have:=y.lt z V;omega
 have ad:d=c-1:=(by have:=zB af;omega);subst ad;refine oC h 0 rfl (false,sk,⟨none,0,0⟩,G) rfl<|oD h 2 rfl (ndV (false,sk,⟨none,0,0⟩,G)) fun w5 h5 f5=>oC h5 2 rfl (false,sk,⟨none,0,0⟩,G) rfl ?_;have aw:∀ {B:List Nat},(∀z∈B,w.heap.size<=z/\z∉[A,C,r1])->∀z∈B,z∉[r1]:=fun hB z u V=>(hB z u).2 (by rw[zE.1 V];simp);have aM:∀z∈[r1],z∈List.range w.heap.size++A::C::r1::(Bk++E):=fun z u=>by rw[zE.1 u];simp
 have:=kk (false,sk,⟨none,0,0⟩,G) (Bk++([]++E)) ⟨false,keysR k (c-1) (b.drop (c*4)),[],kidsR c b⟩ w5 (fun _=>rfl)
  (qq1 (pv:=[]) (T:=List.range w.heap.size++A::C::r1::(Bk++E)) rfl ⟨qm2 _ (hB.drop _),fun _ h=>(nomatch h),qm3 _ _⟩ (ar.frame f5 (aw nk)) ek (.nil _ _ _) rfl (y.frame f5 (aw ni)) (fun z u=>⟨fun h=>(nomatch h),ae z u⟩) (fun _ h=>nomatch h)
   (gk.frame f5 aM fun z u=>.inl u) (fun _ h=>nomatch h) fun z u=>by simp only[xG,zD,zG] at u⊢;rcases u with u|u|u<;>simp[*]) h5.fr (fun z u=>by
   rw[xG] at u;rcases zD.1 u with u|u;exact (nk z u).1;exact (ni z u).1)
 rw[zZ aC] at this;exact this
end
end
section
def qpW(h:IsB b)(A:2<=b.length):bits .or .i64 (wrap .i64 (wrap .i64 (b.getD 0 0)*2^8)) (wrap .i64 (b.getD 1 0))=(countV b:Int)/\countV b<=65535:=by have u:0<=b.getD 0 0/\b.getD 0 0<256:=h _ (yE (getD_some (l:=b) (n:=0) oJ));have z:0<=b.getD 1 0/\b.getD 1 0<256:=h _ (yE (getD_some (l:=b) (n:=1) oJ));unfold countV;generalize b.getD 0 0=x at u⊢;generalize b.getD 1 0=y at z⊢;rw[wi' x oJ,wi' y oJ,wi' (x*2^8) oJ,qpd 8];omega
def qkZ(h:(capsV k v).1≠0):1<=k/\k<=24/\v<=108:=by unfold capsV at h;split at h;exact absurd rfl h;omega
def quJ(h:(capsV k v).1=0\/b.length<2\/b.length>500):readNV kind b k v=(zeroN,2):=by unfold readNV;rw[if_pos h]
def qtt(h:¬((capsV k v).1=0\/b.length<2\/b.length>500)):readNV 3 b k v=if (b.drop 2).length=countV b*(k+v)/\rightV (leafN k v b) k v then (leafN k v b,0) else (zeroN,2):=by unfold readNV;rw[if_neg h];by_cases h2:(b.drop 2).length=countV b*(k+v)/\rightV (leafN k v b) k v;rw[if_pos ⟨rfl,h2⟩,if_pos h2];rw[if_neg fun h=>h2 h.2,if_neg h2,if_neg fun h=>absurd h.1 oM]
def qrZ(h:¬((capsV k v).1=0\/b.length<2\/b.length>500)):readNV 4 b k v=if (1<=countV b/\(b.drop 2).length=countV b*4+(countV b-1)*k)/\rightV (innerN k b) k v then (innerN k b,0) else (zeroN,2):=by unfold readNV;rw[if_neg h,if_neg fun h=>absurd h.1 oM];by_cases h2:(1<=countV b/\(b.drop 2).length=countV b*4+(countV b-1)*k)/\rightV (innerN k b) k v;rw[if_pos ⟨rfl,h2.1.1,h2.1.2,h2.2⟩,if_pos h2];rw[if_neg fun h=>h2 ⟨⟨h.2.1,h.2.2.1⟩,h.2.2.2⟩,if_neg h2]
def qts(u:kind≠3)(y:kind≠4):readNV kind b k v=(zeroN,2):=by unfold readNV;split;rfl;rw[if_neg fun h=>u h.1,if_neg fun h=>y h.1]
section
variable {w:World} {s:Sl} {b:List Int}
def qod{K:NdC×Int->WP}(hb:RdB [] w s b)(hB:IsB b)(kk:∀x B w',NodeB (List.range w.heap.size++B) w' x (readNV kind b k v).1 B->Fr [] w w'->(∀c∈B,w.heap.size<=c)->K (x,(readNV kind b k v).2) w'): cW 112 [.b kind,s.v,.i k,.i v] [.agg qab,.one .i] w K:=by
 refine qo7 ?_;unfold qls;have ac:=hb.1;refine oB (oE [] w) fun r1 w1 e1 f1 h=>qgJ fun w4 f4=>?_;have h:=h.frame0 f4;refine qaf (fun d w'=>d=decide ((capsV k v).1=0\/b.length<2\/b.length>500)/\w'=w4) ?_ ?_;dsimp only;refine qaa (fun y=>⟨?_,rfl⟩) (fun y=>qaa (fun c2=>⟨?_,rfl⟩) (fun c2=>⟨?_,rfl⟩));have y:=yO.1 y;exact qjf (.inl oJ);have c2:=zC c2;exact qjf (.inr (.inl oJ));have y:=zR.1 y;have c2:=zB c2;rw[Bool.eq_iff_iff,yM,yM];constructor;intro h;exact .inr (.inr oJ);rintro (h|h|h);omega;omega;omega;rintro d aD ⟨rfl,rfl⟩;have ao:∀ {w'},readNV kind b k v=(zeroN,2)->Own [] w w' [(r1,.cells (ndV zeroX) ND (0,0))]->
   st ⟨r1,0,none⟩ ([Value.bool false,Value.slice none 0 0,Value.slice none 0 0,Value.slice none 0 0]) w' fun ap=>ldA (qab) ⟨r1,0,none⟩ ap fun aE=>K ((aE,2)) ap:=fun he h=>by
  refine oD h 0 rfl (ndV zeroX) fun w2 h f2=>oC h 0 rfl zeroX rfl ?_
  have:=kk zeroX [] w2 (by rw[he];exact .zero _ _) h.fr (fun _ h=>nomatch h)
  rw[he] at this;exact this
 refine qaa (fun u=>ao (quJ (zC u)) h) (fun u=>?_);have O:=zB u;have aq:(capsV k v).1≠0:=fun e=>O (.inl e);have h2:2<=b.length/\b.length<=500:=by refine⟨?_,?_⟩;exact Nat.not_lt.1 fun e=>O (.inr (.inl e));exact Nat.not_lt.1 fun e=>O (.inr (.inr e))
 obtain⟨aT,aU,aV⟩:=qkZ aq;obtain⟨ar,aW⟩:=qpW hB h2.1;have au:=(hb.frame0 h.fr).frame0 (Fr.refl [] aD).drew;refine RdB.at au 0 rfl (getD_some oJ)<|RdB.at au 1 rfl (getD_some oJ) ?_;rw[ar];have h:=h.drew;refine oB h fun aa ae aX aY h=>?_;have af:=qac (h.at (i:=0) rfl);have av:=qac (h.at (i:=1) rfl);dsimp only at af av;have ad:=hb.frame0 h.fr;have aw:=h.fr.size;refine qaf (fun G w'=>∃x B n,Own [] w w' [(aa,.cells (ndV x) ND (0,0)),(r1,.cells (ndV zeroX) ND (0,0))]/\NodeB (List.range ae.heap.size++B) w' x n B/\(∀c∈B,ae.heap.size<=c)/\
   G=decide ((kind=3/\(b.drop 2).length=countV b*(k+v))\/(kind=4/\1<=countV b/\(b.drop 2).length=countV b*4+(countV b-1)*k))/\
   (G=true->n=if kind=3 then leafN k v b else innerN k b)) ?_ ?_
 refine qaa (fun J=>?_) (fun J=>qaa (fun c4=>?_) (fun c4=>?_));have J:=yO.1 J;refine Rds.part (S:=[]) ad (lo:=some 2) (hi:=none) 2 b.length rfl (by rw[xS,ac]) h2.1 (zM _) fun aG _ C _=>?_;rw[xV] at C;refine qvv C (hB.drop 2) (by rw[yB];omega) oJ oJ oJ fun x B n aH hn hN ai E=>?_;have aj:=h.frame0 ai;refine oD aj 0 rfl (ndV x) fun aI ak al=>?_;have Q:∀c∈B,c∉[aa]:=fun c u hm=>by have:=E c u;rw[zE.1 hm] at this;omega
 refine⟨x,B,n,ak,hN.frame al Q (fun c u=>.inl (by rw[zE.1 u];simp[af])) (fun c u=>.inl u),E,?_,fun z=>?_⟩;rw[Bool.eq_iff_iff,yM,yM];constructor;intro I;exact .inl ⟨J,I⟩;rintro (I|I);exact I.2
 have:=I.1;omega
 rw[if_pos J];exact hn (zC z);have J:=zR.1 J;have c4:=yO.1 c4;refine Rds.part (S:=[]) ad (lo:=some 2) (hi:=none) 2 b.length rfl (by rw[xS,ac]) h2.1 (zM _) fun aG _ C _=>?_;rw[xV] at C;refine qsY C (hB.drop 2) (by rw[yB];omega) oJ oJ fun x B n aH hn hN ai E=>?_;have aj:=h.frame0 ai;refine oD aj 0 rfl (ndV x) fun aI ak al=>?_;have Q:∀c∈B,c∉[aa]:=fun c u hm=>by have:=E c u;rw[zE.1 hm] at this;omega
 refine⟨x,B,n,ak,hN.frame al Q (fun c u=>.inl (by rw[zE.1 u];simp[af])) (fun c u=>.inl u),E,?_,fun z=>?_⟩;rw[Bool.eq_iff_iff,yM,yM];constructor;intro I;exact .inr ⟨c4,I⟩;rintro (I|I);exact absurd I.1 J;exact I.2;rw[if_neg J];exact hn (zC z);have J:=zR.1 J;have c4:=zR.1 c4;refine⟨zeroX,[],zeroN,h,.zero _ _,fun _ h=>(nomatch h),?_,fun z=>nomatch z⟩;rw[zU];rintro (I|I);exact J I.1;exact c4 I.1;rintro G aJ ⟨x,B,n,h,hN,E,R,hn⟩;have ay:G=true->n.keys.length<=1000000/\n.vals.length<=1000000/\n.kids.length<=1000000:=fun z=>by
  rw[hn z];split
  have:=qfw (k:=k) (v:=v) (countV b) (b.drop 2)
  unfold leafN;dsimp only;rw[this.1,this.2];simp;omega;unfold innerN;dsimp only;rw[qip,qiq];simp;omega
 refine qaf (fun d w'=>d = !(G&&decide (rightV n k v))/\Own [] w w' [(aa,.cells (ndV x) ND (0,0)),(r1,.cells (ndV zeroX) ND (0,0))]/\NodeB (List.range ae.heap.size++B) w' x n B) ?_ ?_;apply qaa<;>intro y;have y:G=false:=(oP y);exact⟨by rw[y];rfl,h,hN⟩;have y:G=true:=(oP y);obtain⟨q1,q2,q3⟩:=ay y;refine oC h 0 rfl x rfl ?_;have aK:NodeR [] aJ x n:=hN.rd (fun _ _ h=>(nomatch h)) fun _ h=>nomatch h;exact qog (x:=x) aK q1 q2 q3 fun a2 az=>⟨by rw[y,Bool.true_and],h.frame0 az,hN.frame0 az⟩;rintro d a3 ⟨rfl,h,hN⟩;have A:readNV kind b k v=if (G&&decide (rightV n k v))=true then (n,0) else (zeroN,2):=by
  by_cases k3:kind=3;subst k3;rw[qtt O];have e:G=decide ((b.drop 2).length=countV b*(k+v)):=(by rw[R];exact decide_eq_decide.2 ⟨fun h=>h.elim (·.2) fun h=>absurd h.1 oM,fun h=>.inl ⟨rfl,h⟩⟩);by_cases z:G=true;have U:=hn z;rw[if_pos rfl] at U;rw[U,z,Bool.true_and];have hl:(b.drop 2).length=countV b*(k+v):=zC (e▸z);by_cases hr:rightV (leafN k v b) k v;rw[if_pos ⟨hl,hr⟩,if_pos (zZ hr)];rw[if_neg fun h=>hr h.2,if_neg (by rw[zU hr];decide)];have V:G=false:=(oP z);rw[V,Bool.false_and,if_neg (show ¬(false=true) by decide)];have hl:¬(b.drop 2).length=countV b*(k+v):=zB (e▸V);rw[if_neg fun h=>hl h.1];by_cases k4:kind=4;subst k4;rw[qrZ O];have e:G=decide (1<=countV b/\(b.drop 2).length=countV b*4+(countV b-1)*k):=(by rw[R];exact decide_eq_decide.2 ⟨fun h=>h.elim (fun h=>absurd h.1 oM) (·.2),fun h=>.inr ⟨rfl,h⟩⟩);by_cases z:G=true;have U:=hn z;rw[if_neg k3] at U;rw[U,z,Bool.true_and];have hl:=zC (e▸z);by_cases hr:rightV (innerN k b) k v;rw[if_pos ⟨hl,hr⟩,if_pos (zZ hr)];rw[if_neg fun h=>hr h.2,if_neg (by rw[zU hr];decide)];have V:G=false:=(oP z);rw[V,Bool.false_and,if_neg (show ¬(false=true) by decide)];have hl:=zB (e▸V);rw[if_neg fun h=>hl h.1];rw[qts k3 k4];have z:G=false:=by rw[R,zU];rintro (h|h);exact k3 h.1;exact k4 h.1
  rw[z,Bool.false_and,if_neg (show ¬(false=true) by decide)]
 have aL:∀c∈B,c∉[r1]:=fun c u hm=>by have:=E c u;rw[zE.1 hm] at this;omega
 apply qaa<;>intro y;refine ao ?_ (h.sub (sublist_cons_self _ _));rw[A,if_neg (by rw[zT] at y;rw[y];decide)];rw[yD] at y;refine oC h 0 rfl x rfl<|oD h 1 rfl (ndV x) fun aM aA aN=>oC aA 1 rfl x rfl ?_;rw[if_pos y] at A
 have:=kk x B aM (by rw[A];exact (hN.frame aN aL (fun c u=>.inl (by rw[zE.1 u];simp[av])) (fun c u=>.inl u)).weak fun c u=>.inl (by rcases zD.1 u with u|u;exact zH _ (mem_range.2 (yC (mem_range.1 u) aw));exact zI _ u)) aA.fr (fun c u=>zL aw (E c u))
 rw[A] at this;exact this
end
end
section
abbrev WkC:=Int×Int×Int×Int×Option Addr×Int
def wkX (k v pb:Nat) (t:Int):WkC:=((k:Int),(v:Int),((capsV k v).1:Int),((capsV k v).2:Int),pW pb,t)
def wkV (x:WkC):Array Value:=#[.i x.1,.i x.2.1,.i x.2.2.1,.i x.2.2.2.1,.pointer x.2.2.2.2.1,.i x.2.2.2.2.2]
abbrev WK:TypeId:=152
def shX (k v:Nat):Int×Int×Int×Int:=((k:Int),(v:Int),((capsV k v).1:Int),((capsV k v).2:Int))
def shV (k v:Nat):Array Value:=#[.i k,.i v,.i (capsV k v).1,.i (capsV k v).2]
section
variable {S:List Nat} {w:World} {x:NdC} {n:NodeM} {k v:Nat}
structure NodeL (x:NdC) (n:NodeM):Prop where
 leaf:x.1=n.leaf
 keys:x.2.1.len=n.keys.length
 vals:x.2.2.1.len=n.vals.length
 kids:x.2.2.2.len=n.kids.length
def NodeR.lens(h:NodeR S w x n):NodeL x n:=by obtain⟨u,_,⟨pk,y,z⟩,⟨pv,A,C⟩,E⟩:=h;exact⟨u,by rw[y.len,<- z,zK],by rw[A.len,<- C,zK],E.1⟩
def qmu{K:Int×Int->WP}(h:NodeL x n)(y:∀w',Fr [] w w'->K (((sizeN n k v).1:Int),((sizeN n k v).2:Int)) w'): cW 187 [.agg (shV k v),.agg (ndV x)] [.one .i,.one .i] w K:=by refine qiY ?_;unfold qe5;refine oB (oE [] w) fun r1 C e1 E A=>oB A fun G I J O A=>oA A 0 rfl x.1 rfl ?_;unfold sizeN at y;have u:=A.drew;apply qaa<;>intro z;rw[h.leaf] at z;rw[if_pos z] at y;refine oA u 0 rfl x.2.1 rfl<|oA u 1 rfl ((capsV k v).1:Int) rfl ?_;rw[h.keys];exact y _ u.fr;rw[h.leaf] at z;rw[if_neg (by rw[z];decide)] at y;refine oA u 0 rfl x.2.2.2 rfl<|oA u 1 rfl ((capsV k v).2:Int) rfl ?_;rw[h.kids];exact y _ u.fr
def qmW{n:NodeM}:wrap .i64 (Int.tdiv ((sizeN n k v).2:Int) 2)=(((sizeN n k v).2 / 2:Nat):Int):=by have h:=qdl (k:=k) (v:=v);have u:(sizeN n k v).2<=498:=(by unfold sizeN;split<;>omega);rw[Int.tdiv_eq_ediv_of_nonneg oJ,wi' _ oJ];rfl
def qv9{K:Bool->WP}(h:NodeL x n)(y:∀w',Fr [] w w'->K (decide (lowN n k v)) w'): cW 152 [.agg (shV k v),.agg (ndV x)] [.one .bool] w K:=by refine qjw ?_;unfold qfM;refine oB (oE [] w) fun r1 C e1 E u=>oB u fun G I J O u=>oC u 1 rfl (shX k v) rfl<|oC u 0 rfl x rfl<|qmu (k:=k) (v:=v) h fun z A=>?_;dsimp only;rw[qmW];have e:decide (((sizeN n k v).1:Int)<(((sizeN n k v).2 / 2:Nat):Int))=decide (lowN n k v):=decide_eq_decide.2 (by unfold lowN;omega);rw[e];exact y z (u.fr.trans A)
def quO{K:Bool->WP}(h:NodeL x n)(y:∀w',Fr [] w w'->K (decide (spareN n k v)) w'): cW 192 [.agg (shV k v),.agg (ndV x)] [.one .bool] w K:=by refine qhY ?_;unfold qeo;refine oB (oE [] w) fun r1 C e1 E u=>oB u fun G I J O u=>oC u 1 rfl (shX k v) rfl<|oC u 0 rfl x rfl<|qmu (k:=k) (v:=v) h fun z A=>?_;dsimp only;rw[qmW];have e:decide (((sizeN n k v).1:Int)>(((sizeN n k v).2 / 2:Nat):Int))=decide (spareN n k v):=decide_eq_decide.2 (by unfold spareN;omega);rw[e];exact y z (u.fr.trans A)
end
def qkh{t:Int}{pb:Nat}{K:WkC×Int->WP}(C:shp t=((k:Int),(v:Int)))(E:k=0->∀x w',Fr [] w w'->K (x,4) w')(G:k≠0->ks.len≠k->∀x w',Fr [] w w'->K (x,1) w')(I:k≠0->ks.len=k->∀w',Fr [] w w'->K (wkX k v pb t,0) w'): cW 63 [.pointer (pW pb),.i t,ks.v] [.agg qak,.one .i] w K:=by
 refine qnY ?_;unfold qkc;refine oB (oE [] w) fun r1 J e1 O h=>qoi ?_;rw[C];apply qaa<;>intro y;have y:((k:Nat):Int)=0:=yO.1 y;exact oD h 0 rfl (wkV (0,0,0,0,none,0)) fun A h z=>oC h 0 rfl (0,0,0,0,none,0) rfl<|E oJ _ _ h.fr;have y:¬((k:Nat):Int)=0:=zR.1 y;apply qaa<;>intro u;have u:¬((ks.len:Int)=(k:Int)):=zR.1 (oP u);exact oD h 0 rfl (wkV (0,0,0,0,none,0)) fun A h z=>oC h 0 rfl (0,0,0,0,none,0) rfl<|G oJ oJ _ _ h.fr;have u:(ks.len:Int)=(k:Int):=by rw[yD] at u;exact yO.1 u
 refine qgJ fun A z=>?_;have h:=h.frame0 z;exact oD h 0 rfl (wkV (wkX k v pb t)) fun Q h R=>oC h 0 rfl (wkX k v pb t) rfl<|I oJ oJ _ h.fr
section
variable {dbk pb j:Nat} {FD Y F:List Nat} {D:DiskM} {w:World} {M:PgM} {k v:Nat} {t:Int}
def qgg{K:NdC×Int->WP}(h:TW dbk pb FD D j w Y F M)(hp:U32 p)(G:∀x B w',TW dbk pb FD D j w' (B++Y) F M->NodeB (Zo FD (B++Y) F) w' x (loadN D M k v p).1 B->Fr [] w w'->(∀c∈B,w.heap.size<=c)->K (x,(loadN D M k v p).2) w'): cW 72 [.agg (wkV (wkX k v pb t)),.u p] [.agg qab,.one .i] w K:=by
 refine qjz ?_;unfold qfQ;refine oB (oE [] w) fun r1 w1 e1 f1 z=>oB z fun r3 w2 e2 f2 z=>oA z 1 rfl (pW pb) rfl ?_;have h2:=h.frame0 z.fr;refine TW.read h2 hp fun s w7 hs f7=>?_;have z:=z.frame0 f7;have V:=hs [] (fun _ h=>nomatch h);have hB:IsB (pagerReadM D M p).2.1:=qmo h.lim.ok (fun e he=>(h.wf.body e he).2.2) p;unfold loadN at G;apply qaa<;>intro y;have ab:(pagerReadM D M p).2.2≠0:=fun e=>by dsimp only at y;rw[e] at y;exact absurd y oM
 rw[if_pos ab] at G;exact oD z 0 rfl (ndV zeroX) fun w8 z f8=>oC z 0 rfl zeroX rfl<|G zeroX [] w8 (h.frame0 z.fr) (.zero _ _) z.fr (fun _ h=>nomatch h);have he:¬(pagerReadM D M p).2.2≠0:=fun e=>by dsimp only at y;rw[yD,yO] at y;exact e y
 rw[if_neg he] at G;refine oA z 1 rfl (k:Int) rfl<|oA z 1 rfl (v:Int) rfl<|qod (k:=k) (v:=v) V hB fun x B am hN ac E=>?_;have I:=z.frame0 ac;have J:=qac (z.at (i:=0) rfl);dsimp only at J;have hr:∀c∈B,c∉[r3]:=fun c y hm=>by have:=E c y;rw[zE.1 hm] at this;omega
 refine oD I 0 rfl (ndV x) fun O A ad=>oC A 0 rfl x rfl ?_;have C:=hN.frame ad hr (fun c y=>.inl (by rw[zE.1 y];simp[J])) (fun c y=>.inl y);have aq:=h.frame0 A.fr;have Q:=z.fr.size;have R:TW dbk pb FD D j O (B++Y) F M:=h.addY (A.fr.mono fun _ h=>nomatch h) fun b hb=>⟨zL Q (E b hb),C.lt b hb⟩;refine G x B O R (C.weak fun c y=>.inl ?_) A.fr (fun c y=>zL Q (E c y));have U:=h.zlt;rcases zD.1 y with y|y;rcases zD.1 y with y|y
 have:=U c (by simp[y]);simp;omega
 rcases zG.1 y with y|y
 have:=U c (by simp[y]);simp;omega
 rcases zD.1 y with y|y;simp[y]
 have:=U c (by simp[y]);simp;omega
 have:=U c (by simp[y]);simp;omega
def qrV{kd:Int}{n:Int}(h:(putV M n kd b).1=10):(putV M n kd b).2=M:=by unfold putV at h⊢;split;rfl;rename_i u;rw[if_neg u] at h;split;rfl;rename_i q y;rw[y] at h;dsimp only at h;split;rfl;rename_i z;rw[if_neg z] at h;cases h
def qbn{K:Int×Int->WP}(h:TW dbk pb FD D j w Y F M)(hx:NodeR (Zo FD Y F) w x n)(h1:n.keys.length<=1000000)(h2:n.vals.length<=1000000)(h3:n.kids.length<=1000000)(O:∀F' w',TW dbk pb FD D j w' Y F' (storeN k v M p n).2->Fr F w w'->(∀b∈F',b∈F\/w.heap.size<=b)->K (storeN k v M p n).1 w'): cW 106 [.agg (wkV (wkX k v pb t)),.u p,.agg (ndV x)] [.one .u,.one .i] w K:=by
 refine qi0 ?_;unfold qe7;refine oB (oE [] w) fun r1 w1 e1 f1 A=>oB A fun r3 w2 e2 f2 A=>oC A 0 rfl x rfl<|oA A 1 rfl (k:Int) rfl<|oA A 1 rfl (v:Int) rfl<|qt2 (x:=x) (k:=k) (v:=v) (hx.frame0 A.fr) h1 h2 h3 fun s w9 hs f9=>?_;have A:=A.frame0 f9;have h9:=h.frame0 A.fr;have ak:IsB (writeNV n k v).2.1:=by unfold writeNV;split;exact qh8 hx.2.1.1 hx.2.1.2.1;exact fun _ h=>nomatch h
 have al:0<=(writeNV n k v).1/\(writeNV n k v).1<256:=(by unfold writeNV kindN;split;dsimp only;split<;>exact⟨oM,oM⟩;exact⟨oM,oM⟩);have am:(writeNV n k v).2.1.length<=100000:=(by unfold writeNV;split;rename_i hr;have:=(qfk hr).2;dsimp only;omega;exact yW _);unfold storeN at O;apply qaa<;>intro y;have az:(writeNV n k v).2.2≠0:=fun e=>by dsimp only at y;rw[e] at y;exact absurd y oM
 rw[if_pos az] at O;exact O F w9 h9 (A.fr.mono fun _ h=>nomatch h) fun b I=>.inl I;have he:¬(writeNV n k v).2.2≠0:=fun e=>by dsimp only at y;rw[yD,yO] at y;exact e y
 rw[if_neg he] at O;have aA:=qac (A.at (i:=1) rfl);dsimp only at aA;have V:=h.zlt;have ab:r1∉F:=fun hm=>by have:=V r1 (by simp[hm]);omega
 have an:w.heap.size<=r1:=oJ;have aJ:=A.fr.size;have ad:∀G:List Nat,(∀b∈G,b<w.heap.size)->RdB G w9 s (writeNV n k v).2.1:=fun G hG=>hs G fun b I=>yC (hG b I) (zL f1.size f2.size);have ae:Own F w w9 [(r1,.cells (wkV (wkX k v pb t)) WK (0,0))]:=⟨fun q hq=>by rw[zE.1 hq];exact A.at (i:=1) rfl,oL,A.fr.mono (fun _ h=>nomatch h),fun q hq=>by rw[zE.1 hq];exact .inr an⟩;generalize aW:(writeNV n k v).1=J at *
 generalize aX:(writeNV n k v).2.1=C at *
 refine qaf (fun _ w'=>(p=0\/(putV M p J C).1=10)/\TW dbk pb FD D j w' Y F M/\Own F w w' [(r1,.cells (wkV (wkX k v pb t)) WK (0,0))]/\RdB (Zo FD Y F) w' s C) ?_ ?_;apply qaa<;>intro Q;have Q:p≠0:=by rw[zT] at Q;exact zR.1 Q
 refine oA ae 0 rfl (pW pb) rfl<|TW.put h9 (ad _ V) am al ak fun aB ag ao=>?_;have ac:=ae.frame ao (fun i hi=>.inl hi) (fun q hq=>by rw[zE.1 hq];exact ab);apply qaa<;>intro z;have z:(putV M p J C).1≠10:=by rw[zT] at z;exact zR.1 z
 rw[if_pos ⟨Q,z⟩] at O;exact O F aB ag ac.fr fun b I=>.inl I;have z:(putV M p J C).1=10:=by rw[yD] at z;exact yO.1 z
 rw[qrV z] at ag;exact⟨.inr z,ag,ac,(ad _ V).frame (ao.mono fun b I _=>by simp[I]) fun b I=>.inl I⟩;have Q:p=0:=by rw[yD] at Q;exact yO.1 Q
 exact⟨.inl Q,h9,ae,ad _ V⟩;rintro _ aY ⟨Q,aC,R,ap⟩;rw[if_neg (fun hh=>Q.elim hh.1 hh.2)] at O;refine oA R 0 rfl (pW pb) rfl<|TW.make aC ap am al ak fun F' aD aq aE aF=>?_;have E:=R.frame aE (fun i hi=>.inl hi) (fun q hq=>by rw[zE.1 hq];exact ab);have ah:=R.fr.size;have U:∀b∈F',b∈F\/w.heap.size<=b:=fun b I=>(aF b I).imp id fun h=>zL ah h;refine qaf (fun e w'=>∃F2,e=(if (makeV M J C).1.2=0/\p≠0 then (dropV (makeV M J C).2 p).1 else (makeV M J C).1.2)/\TW dbk pb FD D j w' Y F2 (if (makeV M J C).1.2=0/\p≠0 then (dropV (makeV M J C).2 p).2 else (makeV M J C).2)/\Fr F w w'/\∀b∈F2,b∈F\/w.heap.size<=b) ?_ ?_;refine qaf (fun d w'=>d=decide ((makeV M J C).1.2=0/\p≠0)/\w'=aD) ?_ ?_;refine qaa (fun y=>⟨?_,rfl⟩) (fun y=>⟨?_,rfl⟩);have y:(makeV M J C).1.2=0:=yO.1 y;rw[Bool.eq_iff_iff,yM,zT,zR];exact⟨fun h=>⟨y,h⟩,fun h=>h.2⟩;have y:¬(makeV M J C).1.2=0:=zR.1 y;rw[zU (fun h=>y h.1)];rintro d aZ ⟨rfl,rfl⟩;apply qaa<;>intro y;have y:=zC y;rw[if_pos y,if_pos y];refine oA E 0 rfl (pW pb) rfl<|TW.drop aq fun F2 a0 aG aH aI=>?_;have aj:=E.fr.size;refine⟨F2,rfl,aG,E.fr.trans' aH U,fun b I=>?_⟩;rcases aI b I with h|h;exact U b h;exact .inr (zL aj h);have y:=zB y;rw[if_neg y,if_neg y];exact⟨F',rfl,aq,E.fr,U⟩;rintro e ar ⟨F2,rfl,aa,au,av⟩;by_cases y:(makeV M J C).1.2=0/\p≠0;rw[if_pos y] at O aa⊢;exact O F2 ar aa au av;rw[if_neg y] at O aa⊢;exact O F2 ar aa au av
end
end
section
section
variable {S:List Nat} {w:World} {s:Sl} {ps:Kps}
def RdK.take3(h:RdK S w s ps)(b:Nat){K:Sl->Prop}(y:hi=b)(A:b<=ps.length)(C:∀u,RdK S w u (ps.take b)->K u):slc s none (some hi) (some hi) 1 K:=
 Rds.part3 h.1 b y (by rw[zK];exact A) fun u z=>C u ⟨by rw[<- xL] at z;exact z,fun p E=>h.2 p (yU E)⟩
def RdK.from(h:RdK S w s ps){lo:Int}(a:Nat){K:Sl->Prop}(y:lo=a)(A:a<=ps.length)(C:∀u,RdK S w u (ps.drop a)->K u):slc s (some lo) none none 1 K:=
 Rds.part h.1 a ps.length y (by rw[xS,h.len]) A (by rw[zK];exact zM _) fun u _ z _=>C u ⟨by have e:(slsP ps).take ps.length=slsP ps:=zS (by rw[zK];exact zM _);rw[e,<- xM] at z;exact z,fun p E=>h.2 p (yT E)⟩
def RdK.upto(h:RdK S w s ps)(b:Nat){K:Sl->Prop}(y:hi=b)(A:b<=ps.length)(C:∀u,RdK S w u (ps.take b)->K u):slc s none (some hi) none 1 K:=
 Rds.part h.1 0 b rfl y (yW _) (by rw[zK];exact A) fun u _ z _=>C u ⟨by rw[xD,<- xL] at z;exact z,fun p E=>h.2 p (yU E)⟩
def qcC(ps:Kps)(b:Nat):keyP (ps.take b)=(keyP ps).take b:=xL
def qb6(ps:Kps)(b:Nat):keyP (ps.drop b)=(keyP ps).drop b:=xM
def qds{ps:Kps}(hi:i<ps.length):(keyP ps).getD i []=ps[i].2:=by rw[yQ,zQ,zA hi];rfl
def Rds.from1{α:Type}{enc:α->List Value}{l:List α}(h:Rds enc 1 S w s l){lo:Int}(a:Nat){K:Sl->Prop}(y:lo=a)(A:a<=l.length)(C:∀u,Rds enc 1 S w u (l.drop a)->K u):slc s (some lo) none none 1 K:=
 Rds.part h a l.length y (by rw[xS,h.1]) A (zM _) fun u _ z _=>C u (by rw[xV] at z;exact z)
def Rds.upto1{α:Type}{enc:α->List Value}{l:List α}(h:Rds enc 1 S w s l)(b:Nat){K:Sl->Prop}(y:hi=b)(A:b<=l.length)(C:∀u,Rds enc 1 S w u (l.take b)->K u):slc s none (some hi) none 1 K:=
 Rds.part h 0 b rfl y (yW _) A fun u _ z _=>C u (by rw[xD] at z;exact z)
end
section
variable {S:List Nat} {w:World} {x:NdC} {n:NodeM} {k v:Nat}
def MidOk (n:NodeM) (mid:Nat):Prop:=if n.leaf then mid<n.keys.length/\mid<=n.vals.length else 1<=mid/\mid<=n.keys.length/\mid<=n.kids.length
def qsU{mid:Nat}{K:NdC×NdC×Sl->WP}(hx:NodeR S w x n)(hm:MidOk n mid)(hl:mid<=1000000)(kk:∀xl xr ks w',NodeR S w' xl (halvesN n mid).1->NodeR S w' xr (halvesN n mid).2.1->RdB S w' ks (halvesN n mid).2.2->Fr [] w w'->K (xl,xr,ks) w'): cW 188 [.agg (ndV x),.i mid] [.agg qab,.agg qab,.one .slice] w K:=by
 have aC:=hx;obtain⟨h0,y,⟨pk,z,u⟩,⟨pv,R,A⟩,G⟩:=hx;have l1:pk.length=n.keys.length:=(by rw[<- u,zK]);have l2:pv.length=n.vals.length:=(by rw[<- A,zK]);refine qmB ?_;unfold qiX;have h:=oE [] w;refine oB h fun r1 w2 _ f h=>oB h fun r3 w4 _ f h=>oB h fun r5 w6 _ f h=>?_;have h:=oF h;refine⟨?a,?b⟩;case' a=>
  refine oC h 2 rfl x rfl<|oC h 2 rfl x rfl<|oB h fun r9 aq _ f h=>qaq (h.cells 3 rfl rfl) (h.cells 3 rfl rfl)<|oB h fun ar au _ f h=>qaq (h.cells 4 rfl rfl) (h.cells 4 rfl rfl)<|oD h 1 rfl (ndV x) fun av h f=>qai (h.cells 4 rfl rfl)<|oD h 0 rfl (ndV x) fun aw h f=>?_
 case' b=>
  refine oC h 2 rfl x rfl<|oC h 2 rfl x rfl<|oB h fun ar aq _ f h=>qaq (h.cells 3 rfl rfl) (h.cells 3 rfl rfl)<|oB h fun r9 au _ f h=>qaq (h.cells 4 rfl rfl) (h.cells 4 rfl rfl)<|oD h 0 rfl (ndV x) fun av h f=>qai (h.cells 4 rfl rfl)<|oD h 1 rfl (ndV x) fun aw h f=>?_;have h:=qg6 h (List.Perm.swap _ _ _)
 all_goals
  refine oA h 4 rfl x.1 rfl ?_;apply qaa<;>intro hc;rw[h0] at hc;unfold MidOk at hm;rw[if_pos hc] at hm;have hH:halvesN n mid=({ n with keys:=n.keys.take mid,vals:=n.vals.take mid },{ n with keys:=n.keys.drop mid,vals:=n.vals.drop mid },n.keys.getD mid []):=(by unfold halvesN;rw[if_pos hc]);rw[hH] at kk;have h:=oF h;refine oA h 4 rfl x.2.1 rfl<|RdK.take3 z mid rfl oJ fun I ae=>oA h 4 rfl x.2.2.1 rfl<|RdK.take3 R mid rfl oJ fun U af=>oD h 1 rfl (ndV (x.1,I,x.2.2.1,x.2.2.2)) fun aE h f=>qai (h.cell 4 rfl rfl)<|oD h 1 rfl (ndV (x.1,I,U,x.2.2.2)) fun aF h f=>?_;have h:=oF h;refine oA h 4 rfl x.2.1 rfl<|RdK.from z mid rfl oJ fun J ag=>oA h 4 rfl x.2.2.1 rfl<|RdK.from R mid rfl oJ fun V ah=>oD h 0 rfl (ndV (x.1,J,x.2.2.1,x.2.2.2)) fun aG h f=>qai (h.cell 4 rfl rfl)<|oD h 0 rfl (ndV (x.1,J,V,x.2.2.2)) fun aH h f=>?_;have h:=oF h;refine oC h 1 rfl (x.1,I,U,x.2.2.2) rfl<|oC h 0 rfl (x.1,J,V,x.2.2.2) rfl<|oA h 4 rfl x.2.1 rfl ?_;have C:mid<pk.length:=oJ;refine RdK.get' (z.frame0 h.fr) mid rfl C fun aI E hh=>oD h 3 rfl (ndV (x.1,I,U,x.2.2.2)) fun aJ h f=>qam (hh _ (z.frame0 h.fr)) (h.cell 4 rfl rfl) (h.cells 0 rfl rfl)<|oD h 2 rfl (ndV (x.1,J,V,x.2.2.2)) fun ay h f=>qaq (hh _ (z.frame0 h.fr)) (h.cell 4 rfl rfl)<|oC h 3 rfl (x.1,I,U,x.2.2.2) rfl<|oC h 2 rfl (x.1,J,V,x.2.2.2) rfl<|kk _ _ _ ay ⟨h0,⟨fun a E=>y.1 a (yU E),fun a E=>y.2.1 a (yU E),y.2.2⟩,⟨pk.take mid,ae.frame0 h.fr,by rw[qcC,u]⟩,⟨pv.take mid,af.frame0 h.fr,by rw[qcC,A]⟩,G.frame0 h.fr⟩
   ⟨h0,⟨fun a E=>y.1 a (yT E),fun a E=>y.2.1 a (yT E),y.2.2⟩,⟨pk.drop mid,ag.frame0 h.fr,by rw[qb6,u]⟩,⟨pv.drop mid,ah.frame0 h.fr,by rw[qb6,A]⟩,G.frame0 h.fr⟩ ?_ h.fr
  rw[<- u,qds C];exact (z.2 _ (zW C)).frame0 h.fr;rw[h0] at hc;have aj:¬n.leaf=true:=(by rw[hc];decide);unfold MidOk at hm;rw[if_neg aj] at hm;have hH:halvesN n mid=({ n with kids:=n.kids.take mid,keys:=n.keys.take (mid-1) },{ n with kids:=n.kids.drop mid,keys:=n.keys.drop mid },n.keys.getD (mid-1) []):=(by unfold halvesN;rw[if_neg aj]);rw[hH] at kk;have em:wrap .i64 ((mid:Int)-1)=((mid-1:Nat):Int):=(by rw[wi' _ oJ];omega);have h:=oF h;refine oA h 4 rfl x.2.2.2 rfl<|Rds.part3 G mid rfl oJ fun O ak=>oA h 4 rfl x.2.1 rfl<|RdK.take3 z (mid-1) em oJ fun aa al=>oD h 1 rfl (ndV (x.1,x.2.1,x.2.2.1,O)) fun aK h f=>qai (h.cell 4 rfl rfl)<|oD h 1 rfl (ndV (x.1,aa,x.2.2.1,O)) fun aL h f=>?_;have h:=oF h;refine oA h 4 rfl x.2.2.2 rfl<|Rds.from1 G mid rfl oJ fun Q am=>oA h 4 rfl x.2.1 rfl<|RdK.from z mid rfl oJ fun ab an=>oD h 0 rfl (ndV (x.1,x.2.1,x.2.2.1,Q)) fun aM h f=>qai (h.cell 4 rfl rfl)<|oD h 0 rfl (ndV (x.1,ab,x.2.2.1,Q)) fun aN h f=>?_;have h:=oF h;refine oC h 1 rfl (x.1,aa,x.2.2.1,O) rfl<|oC h 0 rfl (x.1,ab,x.2.2.1,Q) rfl<|oA h 4 rfl x.2.1 rfl ?_;have C:mid-1<pk.length:=oJ;refine RdK.get' (z.frame0 h.fr) (mid-1) em C fun aO E hh=>oD h 3 rfl (ndV (x.1,aa,x.2.2.1,O)) fun aP h f=>qam (hh _ (z.frame0 h.fr)) (h.cell 4 rfl rfl) (h.cells 0 rfl rfl)<|oD h 2 rfl (ndV (x.1,ab,x.2.2.1,Q)) fun az h f=>qaq (hh _ (z.frame0 h.fr)) (h.cell 4 rfl rfl)<|oC h 3 rfl (x.1,aa,x.2.2.1,O) rfl<|oC h 2 rfl (x.1,ab,x.2.2.1,Q) rfl<|kk _ _ _ az ⟨h0,⟨fun a E=>y.1 a (yU E),y.2.1,fun a E=>y.2.2 a (yU E)⟩,⟨pk.take (mid-1),al.frame0 h.fr,by rw[qcC,u]⟩,⟨pv,R.frame0 h.fr,A⟩,ak.frame0 h.fr⟩
   ⟨h0,⟨fun a E=>y.1 a (yT E),y.2.1,fun a E=>y.2.2 a (yT E)⟩,⟨pk.drop mid,an.frame0 h.fr,by rw[qb6,u]⟩,⟨pv,R.frame0 h.fr,A⟩,am.frame0 h.fr⟩ ?_ h.fr
  rw[<- u,qds C];exact (z.2 _ (zW C)).frame0 h.fr
end
end
section
structure Sg (S0:List Nat) (w0 wa:World) (F T:List Nat):Prop where
 tot:Fr S0 w0 wa
 new:∀ b∈F,b∈S0\/w0.heap.size<=b
 own:∀ b∈T,b∈S0\/w0.heap.size<=b
abbrev bks (L:List (Nat×Obj)):List Nat:=L.map (·.1)
section
variable {dbk pb j:Nat} {FD S0 Y Y0 F0 F F' T:List Nat} {D:DiskM} {w0 wa w w':World} {M M':PgM} {L:List (Nat×Obj)}
def Sg.start(F:List Nat)(w:World):Sg F w w F []:=⟨.refl _ _,fun b u=>.inl u,fun _ h=>nomatch h⟩
def Sg.fr(g:Sg S0 w0 wa F T)(h:Own T wa w L):Fr S0 w0 w:=g.tot.trans' h.fr g.own
def Sg.bks(g:Sg S0 w0 wa F T)(h:Own T wa w L):∀b∈bks L,b∈S0\/w0.heap.size<=b:=fun b y=>by obtain⟨q,z,rfl⟩:=mem_map.1 y;rcases h.own q z with u|u;exact g.own _ u;exact .inr (zL g.tot.size u)
def qiB(h:Own T wa w L):∀b∈bks L,b<w.heap.size:=fun b u=>by obtain⟨q,y,rfl⟩:=mem_map.1 u;exact qac (h.blk q y)
def TW.now(y:TW dbk pb FD D j wa (T++Y) F M)(h:Own T wa w L):TW dbk pb FD D j w (bks L++Y) F M:=
 y.frameY (h.fr.mono fun b u _=>by simp[u]) (fun b u=>(zD.1 u).elim (qiB h b) fun u=>yC (y.ylt b (by simp[u])) h.fr.size) fun b u=>(zD.1 u).elim (fun u=>by obtain⟨q,z,rfl⟩:=mem_map.1 u;exact (h.own q z).imp (fun h=>zH _ h) id) fun u=>.inl (zI _ u)
def TW.now0(u:TW dbk pb FD D j wa Y F M)(h:Own [] wa w L):TW dbk pb FD D j w (bks L++Y) F M:=TW.now (T:=[]) u h
def qaT(h:Own T wa w L)(f:Fr S w w')(y:∀b∈bks L,b∉S):Own (bks L) w' w' L:=
 ⟨fun q u=>by rw[f.block q.1 (qac (h.blk q u)) (y _ (zY u))];exact h.blk q u,h.nodup,.refl _ _,fun q u=>.inl (zY u)⟩
def TW.own(u:TW dbk pb FD D j w (bks L++Y) F M)(h:Own T wa w L)(f:Fr F w w'):Own (bks L) w' w' L:=qaT h f fun b y=>u.yf b (by simp[y])
def Sg.next(g:Sg S0 w0 wa F T)(h:Own T wa w L)(f:Fr F w w')(n:∀b∈F',b∈F\/w.heap.size<=b):Sg S0 w0 w' F' (Go.Proofs.YtgjidjnaigkdfaaGreatDoor.bks L):=
 ⟨(g.fr h).trans' f g.new,fun b u=>(n b u).elim (g.new b) fun y=>.inr (zL (g.fr h).size y),g.bks h⟩
def Sg.next0(g:Sg S0 w0 wa F T)(h:Own T wa w L)(f:Fr [] w w'):Sg S0 w0 w' F (Go.Proofs.YtgjidjnaigkdfaaGreatDoor.bks L):=
 ⟨(g.fr h).trans' f fun _ h=>(nomatch h),g.new,g.bks h⟩
def ql5(h:Own T wa w L):∀b∈Zo FD (Go.Proofs.YtgjidjnaigkdfaaGreatDoor.bks L++Y) F,b∈Zo FD (T++Y) F\/wa.heap.size<=b:=fun b u=>by rcases zD.1 u with u|u;rcases zD.1 u with u|u;exact .inl (by simp[u]);rcases zG.1 u with u|u;exact .inl (by simp[u]);rcases zD.1 u with u|u;obtain⟨q,y,rfl⟩:=mem_map.1 u;exact (h.own q y).imp (fun h=>by simp[h]) id;exact .inl (by simp[u]);exact .inl (by simp[u])
def qeF:∀b∈Zo FD Y F,b∈Zo FD (S++Y) F:=fun b h=>by simp only[Zo,zD,zG] at h⊢;rcases h with (h|h|h)|h<;>simp[h]
def zoF{b:Nat}(h:b∈F):b∈Zo FD Y F:=zI _ h
def NodeR.now(u:NodeR (Zo FD (T++Y) F) wa x n)(h:Own T wa w L):NodeR (Zo FD (bks L++Y) F) w x n:=u.frame (h.fr.mono fun b y _=>by simp[y]) (ql5 h)
def NodeR.now0(u:NodeR (Zo FD Y F) wa x n)(h:Own [] wa w L):NodeR (Zo FD (bks L++Y) F) w x n:=NodeR.now (T:=[]) u h
def NodeR.next(h:NodeR (Zo FD Y F) w x n)(f:Fr F w w')(u:∀b∈F',b∈F\/w.heap.size<=b):NodeR (Zo FD Y F') w' x n:=h.frame (f.mono fun b y _=>zoF y) (TW.znew u)
def qaQ{l:Key}(u:RdB (Zo FD (T++Y) F) wa s l)(h:Own T wa w L):RdB (Zo FD (bks L++Y) F) w s l:=u.frame (h.fr.mono fun b y _=>by simp[y]) (ql5 h)
def qbL{l:Key}(u:RdB (Zo FD Y F) wa s l)(h:Own [] wa w L):RdB (Zo FD (bks L++Y) F) w s l:=qaQ (T:=[]) u h
def qpo{l:Key}(h:RdB (Zo FD Y F) w s l)(f:Fr F w w')(u:∀b∈F',b∈F\/w.heap.size<=b):RdB (Zo FD Y F') w' s l:=h.frame (f.mono fun b y _=>zoF y) (TW.znew u)
def qkK{l:Key}(h:RdB (Zo FD (S++Y) F) w s l):RdB (Zo FD Y F) w s l:=h.frame (.refl _ _) fun b u=>.inl (qeF b u)
def TW.drop0(h:TW dbk pb FD D j w (T++Y) F M):TW dbk pb FD D j w Y F M:=h.weakY fun b u=>zI _ u
abbrev GrC:=Int×Bool×Sl×Int
def grX (g:Grown) (ks:Sl):GrC:=(g.page,g.fresh,ks,g.other)
abbrev GR:TypeId:=215
def grV (x:GrC):Array Value:=#[.u x.1,.bool x.2.1,x.2.2.1.v,.u x.2.2.2]
def qdL:U32 0:=⟨oM,oM⟩
def qoY{k:Int}(h:M.Wf):U32 (makeV M k b).1.1:=by
 unfold makeV;split;exact qdL;split;exact qdL;split;exact qdL;rename_i n r u
 have:=h.range n (by rw[u];simp)
 have:=h.n4
 exact⟨by dsimp only;omega,by dsimp only;omega⟩
def qbo(h:M.Wf)(u:U32 p):U32 (storeN k v M p n).1.1:=by unfold storeN;split;exact qdL;split;exact u;split;exact qoY h;exact qoY h
structure GOk (g:Grown):Prop where
 page:U32 g.page
 other:U32 g.other
 key:IsB g.key
def IsB.nil:IsB []:=fun _ h=>nomatch h
def qkW:GOk zeroG:=⟨⟨oM,oM⟩,⟨oM,oM⟩,.nil⟩
def qa7{l:List Key}(h:∀a∈l,IsB a)(i:Nat):IsB (l.getD i []):=by
 rw[yQ];cases e:l[i]? with
 | none=>exact .nil
 | some a=>exact h a (yE e)
def qnx{t:Int}{fresh:Bool}{K:GrC×Int->WP}(hT:TW dbk pb FD D j w0 Y F M)(hx:NodeR (Zo FD Y F) w0 x n)(h1:n.keys.length<=100000)(h2:n.vals.length<=100000)(h3:n.kids.length<=100000)(hm:(sizeN n k v).1>(sizeN n k v).2->MidOk n ((sizeN n k v).1 / 2))(hp:U32 p)(kk:∀ks F' w',GOk (splitN k v M p n fresh).1.1->TW dbk pb FD D j w' Y F' (splitN k v M p n fresh).2->RdB (Zo FD Y F') w' ks (splitN k v M p n fresh).1.1.key->Fr F w0 w'->(∀b∈F',b∈F\/w0.heap.size<=b)->K (grX (splitN k v M p n fresh).1.1 ks,(splitN k v M p n fresh).1.2) w'): cW 146 [.agg (wkV (wkX k v pb t)),.u p,.agg (ndV x),.bool fresh] [.agg qaV,.one .i] w0 K:=by
 refine qiZ ?_;unfold qe6;have h:=oE [] w0;have g:=Sg.start F w0;have hl:=hx.lens;have aB:(sizeN n k v).1<=100000:=(by unfold sizeN;split<;>assumption);refine oB h fun r1 w2 _ f h=>oB h fun r3 w4 _ f h=>oB h fun r5 w6 _ f h=>oB h fun r7 w8 _ f h=>oD h 0 rfl (grV (0,fresh,⟨none,0,0⟩,0)) fun w9 h f=>oC h 3 rfl (shX k v) rfl<|oC h 2 rfl x rfl<|qmu (k:=k) (v:=v) hl fun aF ai=>?_;have h:=h.frame0 ai;refine qaf (fun _ w'=>∃(x':NdC) (n':NodeM) (ks:Sl) (key:Key) (o:Int) (F' T:List Nat) (wa:World) (M':PgM),Sg F w0 wa F' T/\TW dbk pb FD D j wa (T++Y) F' M'/\Own T wa w' [(r7,.cells (grV (0,fresh,ks,o)) GR (0,0)),(r5,.cells (grV (0,false,⟨none,0,0⟩,0)) GR (0,0)),(r3,.cells (ndV x') ND (0,0)),(r1,.cells (wkV (wkX k v pb t)) WK (0,0))]/\
   NodeR (Zo FD (T++Y) F') wa x' n'/\RdB (Zo FD (T++Y) F') wa ks key/\n'.keys.length<=100000/\n'.vals.length<=100000/\n'.kids.length<=100000/\U32 o/\IsB key/\splitN k v M p n fresh=((⟨(storeN k v M' p n').1.1,fresh,key,o⟩,(storeN k v M' p n').1.2),(storeN k v M' p n').2)) ?_ ?_
 apply qaa<;>intro C;have C:(sizeN n k v).1>(sizeN n k v).2:=(by have:=zC C;dsimp only at this;omega);have ac:=hm C;have G:wrap .i64 (Int.tdiv ((sizeN n k v).1:Int) 2)=(((sizeN n k v).1 / 2:Nat):Int):=(by rw[Int.tdiv_eq_ediv_of_nonneg oJ,wi' _ oJ];rfl);generalize ad:(sizeN n k v).1 / 2=y at ac G;refine oC h 2 rfl x rfl ?_;dsimp only;rw[G];have z:=hT.now0 h;refine qsU (hx.now0 h) ac oJ fun xl xr ks aG aj ak O Q=>?_;have I:=z.frame0 Q;have g:=g.next0 h Q;have h:=qaT h Q fun _ _ h=>nomatch h;refine oB h fun aH aI _ f h=>oB h fun aJ aK _ f h=>oD h 1 rfl (ndV xl) fun aL h f=>oD h 0 rfl (ndV xr) fun aM h f=>oC h 5 rfl (wkX k v pb t) rfl<|oC h 0 rfl xr rfl ?_;have hH:(halvesN n y).1.keys.length<=100000/\(halvesN n y).1.vals.length<=100000/\(halvesN n y).1.kids.length<=100000/\(halvesN n y).2.1.keys.length<=100000/\(halvesN n y).2.1.vals.length<=100000/\(halvesN n y).2.1.kids.length<=100000:=by unfold halvesN;split<;>simp only[yK,yB]<;>omega
 refine qbn (I.now h) (ak.now h) oJ oJ oJ fun F1 an J E R=>?_;have U:=(aj.now h).next E R
 have V:=qpo (qaQ O h) E R;have g:=g.next h E R
 have h:=(I.now h).own h E;apply qaa<;>intro A;have ao:(storeN k v M 0 (halvesN n y).2.1).1.2≠0:=by rw[zT] at A;exact zR.1 A
 have e:splitN k v M p n fresh=((zeroG,(storeN k v M 0 (halvesN n y).2.1).1.2),(storeN k v M 0 (halvesN n y).2.1).2):=(by unfold splitN;rw[if_pos C,ad,if_pos ao]);rw[e] at kk;exact oD h 3 rfl (grV (0,false,⟨none,0,0⟩,0)) fun ap h f=>oC h 3 rfl (0,false,⟨none,0,0⟩,0) rfl<|kk ⟨none,0,0⟩ F1 ap qkW (J.now h).drop0 (.nil _ _ _ _) (g.fr h) g.new;have he:¬(storeN k v M 0 (halvesN n y).2.1).1.2≠0:=fun e=>by rw[yD,yO] at A;exact e A
 refine oC h 1 rfl xl rfl<|oD h 4 rfl (ndV xl) fun aO h f=>oG h 2 rfl (grV (0,fresh,⟨none,0,0⟩,(storeN k v M 0 (halvesN n y).2.1).1.1)) rfl rfl (zO rfl) fun aP h f=>oG h 2 rfl (grV (0,fresh,ks,(storeN k v M 0 (halvesN n y).2.1).1.1)) rfl rfl (zO rfl) fun aQ h f=>⟨xl,(halvesN n y).1,ks,(halvesN n y).2.2,_,F1,_,an,_,g,J,h.sub (.cons _ (.cons _ (.refl _))),U,V,hH.1,hH.2.1,hH.2.2.1,qbo hT.wf ⟨oM,oM⟩,?_,?_⟩;unfold halvesN;split;exact qa7 hx.2.1.1 _;exact qa7 hx.2.1.1 _;unfold splitN;rw[if_pos C,ad,if_neg he];have C:¬(sizeN n k v).1>(sizeN n k v).2:=(by have:=zB C;dsimp only at this;omega);refine⟨x,n,⟨none,0,0⟩,[],0,F,[],w0,M,g,hT,h,hx,.nil _ _ _ _,h1,h2,h3,⟨oM,oM⟩,.nil,?_⟩;unfold splitN;rw[if_neg C];rintro aR aS ⟨x',n',ks,key,o,F1,T,wa,M',g,z,h,aq,ar,l1,l2,l3,uo,bk,e⟩;rw[e] at kk;refine oC h 3 rfl (wkX k v pb t) rfl<|oC h 2 rfl x' rfl<|qbn (z.now h) (aq.now h) oJ oJ oJ fun F2 aW ae aa af=>?_;have O:=qpo (qaQ ar h) aa af;have g:=g.next h aa af
 have h:=(z.now h).own h aa;exact oD h 0 rfl (grV ((storeN k v M' p n').1.1,fresh,ks,o)) fun aX h f=>oC h 0 rfl ((storeN k v M' p n').1.1,fresh,ks,o) rfl<|oD h 1 rfl (grV ((storeN k v M' p n').1.1,fresh,ks,o)) fun au h f=>oC h 1 rfl ((storeN k v M' p n').1.1,fresh,ks,o) rfl<|kk ks F2 au ⟨qbo z.wf hp,uo,bk⟩ (ae.now h).drop0 (qkK (qaQ O h)) (g.fr h) g.new
end
end
section
section
variable {Z:List Nat} {w w':World} {s:Sl} {l:List Key} {B:List Nat}
def qmY{α β:Type}(f:α->β)(l:List α)(i:Nat)(x:α):(insAt l i x).map f=insAt (l.map f) i (f x):=by unfold insAt;rw[xJ,xJ,xL,xM];rfl
def qmP{α β:Type}(f:α->β)(l:List α)(i:Nat):(delAt l i).map f=delAt (l.map f) i:=by unfold delAt;rw[xJ,xL,xM]
def qfy{α:Type}{l:List α}{y:α}(h:y∈delAt l i):y∈l:=by unfold delAt at h;exact (zD.1 h).elim yU yT
abbrev NewZ (Z:List Nat) (w:World) (Z':List Nat):Prop:=∀b∈Z',b∈Z\/w.heap.size<=b
def qf3{pk pk':Kps}{Z':List Nat}{z:Sl}{B':List Nat}{l':List Key}(A:∀p∈pk,RdB Z w p.1 p.2)(u:Buf encSl 1 w' z (slsP pk') B')(e:keyP pk'=l')(f:Fr B w w')(y:∀b∈B,b∈Z)(C:NewZ Z w Z')(E:∀p∈pk',p∈pk\/RdB Z w p.1 p.2):BufK Z' w' z l' B':=
 ⟨pk',u,e,fun p h=>((E p h).elim (A p) id).frame (f.mono fun b u _=>y b u) C⟩
def BufK.ins{ii:Int}(h:BufK Z w s l B)(y:∀b∈B,b∈Z)(hi:i<=l.length)(E:ii=i)(C:l.length<=100000)(G:w.heap[vb]?=some (.cells #[elSl ks] T' (0,0)))(z:vb∉B)(I:RdB Z w ks key)(J:∀u B' w',(∀Z',NewZ Z w Z'->BufK Z' w' u (insAt l i key) B')->Fr B w w'->(∀b∈B',b∈B\/w.heap.size<=b)->K u w'): cW 145 [s.v,.i ii,.slice (pW vb) 1 1] [.one .slice] w K:=by obtain⟨pk,O,rfl,A⟩:=h;rw[zK] at hi C;refine qrb O (by rw[zK];exact hi) E (by rw[zK];exact C) G z fun u B' w' Q f n=>J u B' w' (fun Z' R=>qf3 (pk':=insAt pk i (ks,key)) A (by rw[show slsP (insAt pk i (ks,key))=insAt (slsP pk) i ks from qmY _ _ _ _];exact Q) (qmY _ _ _ _) f y R fun p A=>?_) f n;rcases qfz A with rfl|h;exact .inr I;exact .inl h
def BufK.del{ii jj:Int}(h:BufK Z w s l B)(y:∀b∈B,b∈Z)(hi:i<l.length)(C:ii=i)(E:jj=((i+1:Nat):Int))(A:l.length<=100000)(G:∀u w',(∀Z',NewZ Z w Z'->BufK Z' w' u (delAt l i) B)->Fr B w w'->K u w'): cW 151 [s.v,.i ii,.i jj] [.one .slice] w K:=by obtain⟨pk,I,rfl,z⟩:=h;rw[zK] at hi A;exact qq8 I (by rw[zK];exact hi) C E (by rw[zK];exact A) fun u w' J f=>G u w' (fun Z' O=>qf3 (pk':=delAt pk i) z (by rw[show slsP (delAt pk i)=delAt (slsP pk) i from qmP _ _ _];exact J) (qmP _ _ _) f y O fun p z=>.inl (qfy z)) f
def BufK.set{i:Nat}{ii:Int}{ks:Sl}{key:Key}{K:WP}(h:BufK Z w s l B)(u:∀b∈B,b∈Z)(hi:i<l.length)(A:ii=i)(C:RdB Z w ks key)(E:∀w',(∀Z',NewZ Z w Z'->BufK Z' w' s (l.set i key) B)->Fr B w w'->K w'):idx s ii 1 fun a=>st a [ks.v] w K:=by obtain⟨pk,z,rfl,y⟩:=h;rw[zK] at hi;refine Buf.idxAt z A (by rw[zK];exact hi) fun b G=>?_;subst G;refine Buf.stAt (e:=elSl) (x:=ks) (fun _=>rfl) z (by rw[zK];exact hi) rfl rfl fun w' I f=>E w' (fun Z' J=>qf3 (pk':=pk.set i (ks,key)) y (by rw[show slsP (pk.set i (ks,key))=(slsP pk).set i ks from map_set];exact I) (map_set) f u J fun p y=>?_) f;rcases mem_or_eq_of_mem_set y with h|rfl;exact .inl h;exact .inr C
def BufK.app1(h:BufK Z w s l B)(y:∀b∈B,b∈Z)(A:l.length<=100000)(C:w.heap[vb]?=some (.cells #[elSl ks] T' (0,0)))(E:RdB Z w ks key)(G:∀u B' w',(∀Z',NewZ Z w Z'->BufK Z' w' u (l++[key]) B')->Fr B w w'->(∀b∈B',b∈B\/w.heap.size<=b)->K u w'): Pt.run [Ty1.one Cell.slice] ((Builtin.append_ #[161,161] 161 #[s.v,.slice (pW vb) 1 1]).run prog w) K:=by obtain⟨pk,I,rfl,z⟩:=h;rw[zK] at A;refine appK I (by rw[zK];exact A) C fun u B' w' J f n=>G u B' w' (fun Z' O=>qf3 (pk':=pk++[(ks,key)]) z (by rw[show slsP (pk++[(ks,key)])=slsP pk++[ks] by simp];exact J) oL f y O fun p z=>?_) f n;rcases zD.1 z with h|h;exact .inl h;rw[zE.1 h];exact .inr E
def BufK.appAll(h:BufK Z w s l B)(z:∀b∈B,b∈Z)(J:l.length+ps.length<=100000)(u:Rds encSl 1 S w src (slsP ps))(A:∀p∈ps,RdB Z w p.1 p.2)(O:∀y B' w',(∀Z',NewZ Z w Z'->BufK Z' w' y (l++keyP ps) B')->Fr B w w'->(∀b∈B',b∈B\/w.heap.size<=b)->K y w'): Pt.run [Ty1.one Cell.slice] ((Builtin.append_ #[161,161] 161 #[s.v,src.v]).run prog w) K:=by obtain⟨pk,Q,rfl,C⟩:=h;rw[zK] at J;obtain⟨R,E,U,G,I⟩:=qlj;refine Buf.appSrc (ys:=slsP ps) (e:=27) Q qcA oK E U G rfl (qeC (e':=27) u qcA qsM) u.1 (by rw[I,zK,u.1,zK];omega) (by rw[zK,u.1,zK];omega) fun y B' w' V f n _=>O y B' w' (fun Z' hZ=>qf3 (pk':=pk++ps) C (by rw[show slsP (pk++ps)=slsP pk++slsP ps by simp];exact V) oL f z hZ fun p C=>?_) f n;rcases zD.1 C with h|h;exact .inl h;exact .inr (A p h)
def qva{l:List Int}(h:Buf encU 1 w s l B)(R:l.length+ys.length<=100000)(y:Rds encU 1 S w src ys)(G:∀z B' w',Buf encU 1 w' z (l++ys) B'->Fr B w w'->(∀b∈B',b∈B\/w.heap.size<=b)->K z w'): Pt.run [Ty1.one Cell.slice] ((Builtin.append_ #[31,31] 31 #[s.v,src.v]).run prog w) K:=by obtain⟨I,A,J,C,E⟩:=qc2;exact Buf.appSrc (ys:=ys) (e:=32) h qaI oK A J C rfl (qeC (e':=32) y qaI (fun x u O=>by rw[zE.1 O];rfl)) y.1 (by rw[E,y.1];omega) (by rw[y.1];omega) fun z B' w' Q f n _=>G z B' w' Q f n
def qwE{l:List Int}{ii x:Int}{K:WP}(h:Buf encU 1 w s l B)(hi:i<l.length)(y:ii=i)(z:∀w',Buf encU 1 w' s (l.set i x) B->Fr B w w'->K w'):idx s ii 1 fun a=>st a [.u x] w K:=by refine Buf.idxAt h y hi fun b A=>?_;subst A;exact Buf.stAt (e:=elU) (x:=x) (fun _=>rfl) h hi rfl rfl z
end
section
variable {Z:List Nat} {w:World} {x:NdC} {n:NodeM} {B:List Nat}
def NodeB.keysL(h:NodeB Z w x n B):∃Bk,BufK Z w x.2.1 n.keys Bk/\(∀b∈Bk,b∈B)/\∀A z Bk' w',Fr Bk w w'->(∀b∈Bk,b∈Z)->(∀b∈Bk',b∈Bk\/w.heap.size<=b)->(∀a∈z,IsB a)-> ∃B',(∀b∈B',b∈B\/w.heap.size<=b)/\∀Z',NewZ Z w Z'->BufK Z' w' A z Bk'->NodeB Z' w' (x.1,A,x.2.2) { n with keys:=z } B':=by
 obtain⟨V,C,Bk,K,O,rfl,E,hk,Q,hi⟩:=h;obtain⟨n1,n2,G⟩:=yL.1 E;refine⟨Bk,hk,fun b u=>by simp[u],fun A z Bk' w' f hz R hl=>⟨Bk'++(K++O),fun b u=>?_,fun Z' hZ y=>⟨V,⟨hl,C.2⟩,Bk',K,O,rfl,?_,y,Q.frame f (fun b u I=>G b I b (by simp[u]) rfl) (fun b u=>.inl (hz b u)) hZ,hi.frame f fun b u I=>G b I b (by simp[u]) rfl⟩⟩⟩;rcases zD.1 u with u|u;exact (R b u).imp (fun h=>by simp[h]) id;exact .inl (zI _ u);have J:Bk'.Nodup:=(by obtain⟨_,u,_⟩:=y;exact qcx u);refine yL.2 ⟨J,n2,fun a ha b u e=>?_⟩;subst e;rcases R a ha with U|U;exact G a U a u rfl;rcases zD.1 u with u|u
 have:=Q.lt a u;omega
 have:=hi.lt a u;omega
def NodeB.valsL(h:NodeB Z w x n B):∃z,BufK Z w x.2.2.1 n.vals z/\(∀b∈z,b∈B)/\∀J I y w',Fr z w w'->(∀b∈z,b∈Z)->(∀b∈y,b∈z\/w.heap.size<=b)->(∀a∈I,IsB a)-> ∃B',(∀b∈B',b∈B\/w.heap.size<=b)/\∀Z',NewZ Z w Z'->BufK Z' w' J I y->NodeB Z' w' (x.1,x.2.1,J,x.2.2.2) { n with vals:=I } B':=by
 obtain⟨h0,A,Bk,z,V,rfl,K,hk,hv,hi⟩:=h;obtain⟨n1,n2,O⟩:=yL.1 K;obtain⟨m1,m2,m3⟩:=yL.1 n2;refine⟨z,hv,fun b u=>by simp[u],fun J I y w' f hz Q hl=>⟨Bk++(y++V),fun b u=>?_,fun Z' hZ C=>⟨h0,⟨A.1,hl,A.2.2⟩,Bk,y,V,rfl,?_,hk.frame f (fun b u R=>O b u b (by simp[R]) rfl) (fun b u=>.inl (hz b u)) hZ,C,hi.frame f fun b u R=>m3 b R b u rfl⟩⟩⟩;simp only[zD] at u⊢;rcases u with u|u|u;exact .inl (.inl u);exact (Q b u).imp (fun h=>.inr (.inl h)) id;exact .inl (.inr (.inr u));have U:y.Nodup:=(by obtain⟨_,u,_⟩:=C;exact qcx u);refine yL.2 ⟨n1,yL.2 ⟨U,m2,fun a E b u e=>?_⟩,fun a E b u e=>?_⟩;subst e;rcases Q a E with G|G;exact m3 a G a u rfl
 have:=hi.lt a u;omega
 subst e;rcases zD.1 u with u|u;rcases Q a u with G|G;exact O a E a (by simp[G]) rfl
 have:=hk.lt a E;omega
 exact O a E a (by simp[u]) rfl
def NodeB.kidsL(h:NodeB Z w x n B):∃z,Buf encU 1 w x.2.2.2 n.kids z/\(∀b∈z,b∈B)/\∀J I y w',Fr z w w'->(∀b∈z,b∈Z)->(∀b∈y,b∈z\/w.heap.size<=b)->(∀a∈I,U32 a)-> ∃B',(∀b∈B',b∈B\/w.heap.size<=b)/\∀Z',NewZ Z w Z'->Buf encU 1 w' J I y->NodeB Z' w' (x.1,x.2.1,x.2.2.1,J) { n with kids:=I } B':=by
 obtain⟨h0,C,Bk,U,z,rfl,K,V,hv,hi⟩:=h;obtain⟨n1,n2,O⟩:=yL.1 K;obtain⟨m1,m2,m3⟩:=yL.1 n2;refine⟨z,hi,fun b u=>by simp[u],fun J I y w' f hz Q hl=>⟨Bk++(U++y),fun b u=>?_,fun Z' hZ E=>⟨h0,⟨C.1,C.2.1,hl⟩,Bk,U,y,rfl,?_,V.frame f (fun b u R=>O b u b (by simp[R]) rfl) (fun b u=>.inl (hz b u)) hZ,hv.frame f (fun b u R=>m3 b u b R rfl) (fun b u=>.inl (hz b u)) hZ,E⟩⟩⟩;simp only[zD] at u⊢;rcases u with u|u|u;exact .inl (.inl u);exact .inl (.inr (.inl u));exact (Q b u).imp (fun h=>.inr (.inr h)) id;refine yL.2 ⟨n1,yL.2 ⟨m1,qcx E,fun a A b u e=>?_⟩,fun a A b u e=>?_⟩;subst e;rcases Q a u with G|G;exact m3 a A a G rfl
 have:=hv.lt a A;omega
 subst e;rcases zD.1 u with u|u;exact O a A a (by simp[u]) rfl;rcases Q a u with G|G;exact O a A a (by simp[G]) rfl
 have:=V.lt a A;omega
end
structure Ed (dbk pb:Nat) (FD:List Nat) (D:DiskM) (j:Nat) (S0 N0:List Nat) (w0 wa:World) (T Y F:List Nat) (M:PgM) (x:NdC) (n:NodeM) (B:List Nat):Prop where
 sg:Sg S0 w0 wa F T
 tw:TW dbk pb FD D j wa (T++(B++Y)) F M
 node:NodeB (Zo FD (T++(B++Y)) F) wa x n B
 sep:∀ b∈T,b∉B
 bnew:∀ b∈B,b∈N0\/w0.heap.size<=b
 nsub:∀ b∈N0,b∈S0
 ysep:∀ b∈B,b∉Y
section
variable {dbk pb j:Nat} {FD S0 N0 Y F F' T B B':List Nat} {D:DiskM} {w0 wa w w':World} {M M':PgM} {L:List (Nat×Obj)} {x x':NdC} {n n':NodeM}
def Ed.now(e:Ed dbk pb FD D j S0 N0 w0 wa T Y F M x n B)(h:Own T wa w L):Ed dbk pb FD D j S0 N0 w0 w (bks L) Y F M x n B where
 sg:=⟨e.sg.fr h,e.sg.new,e.sg.bks h⟩
 tw:=e.tw.now h
 node:=e.node.frame h.fr (fun b u y=>e.sep b y u) (fun b u=>.inl (by simp[u])) (ql5 h)
 sep:=fun b u y=>by
  obtain⟨q,A,rfl⟩:=mem_map.1 u;rcases h.own q A with z|z;exact e.sep _ z y
  have:=e.node.lt _ y;omega
 bnew:=e.bnew
 nsub:=e.nsub
 ysep:=e.ysep
def Ed.rd(e:Ed dbk pb FD D j S0 N0 w0 wa T Y F M x n B):∀b∈B,b∈Zo FD (T++(B++Y)) F:=fun b h=>by simp[h]
def Ed.edit(e:Ed dbk pb FD D j S0 N0 w0 w (bks L) Y F M x n B)(h:Own T wa w L)(A:∀b∈Bk,b∈B)(f:Fr Bk w w')(E:NodeB (Zo FD (bks L++(B'++Y)) F) w' x' n' B')(z:∀b∈B',b∈B\/w.heap.size<=b):Ed dbk pb FD D j S0 N0 w0 w' (bks L) Y F M x' n' B'/\Own (bks L) w' w' L:=by
 refine⟨⟨⟨e.sg.tot.trans' f fun b u=>(e.bnew b (A b u)).imp (e.nsub b) id,e.sg.new,e.sg.own⟩,e.tw.frameY (f.mono fun b u _=>by simp[A b u]) (fun b u=>?_) (fun b u=>?_),E,fun b u C=>?_,fun b u=>(z b u).elim (e.bnew b) fun y=>.inr (zL e.sg.tot.size y),e.nsub,fun b u G=>?_⟩,qaT h f fun b u C=>e.sep b u (A b C)⟩;rcases zD.1 u with u|u;exact yC (e.tw.ylt b (by simp[u])) f.size;rcases zD.1 u with u|u;exact E.lt b u;exact yC (e.tw.ylt b (by simp[u])) f.size;rcases zD.1 u with u|u;exact .inl (by simp[u]);rcases zD.1 u with u|u;exact (z b u).imp (fun h=>by simp[h]) id;exact .inl (by simp[u]);rcases z b C with y|y;exact e.sep b u y
 have:=e.tw.ylt b (by simp[u]);omega
 rcases z b u with y|y;exact e.ysep b y G
 have:=e.tw.ylt b (by simp[G]);omega
def Ed.newZ(e:Ed dbk pb FD D j S0 N0 w0 w T Y F M x n B)(y:∀b∈B',b∈B\/w.heap.size<=b):NewZ (Zo FD (T++(B++Y)) F) w (Zo FD (T++(B'++Y)) F):=fun b u=>by simp only[Zo,zD,zG] at u⊢;rcases u with (u|u|u|u|u)|u;simp[u];simp[u];simp[u];exact (y b u).imp (fun h=>by simp[h]) id;simp[u];simp[u]
def Ed.next(e:Ed dbk pb FD D j S0 N0 w0 w (bks L) Y F M x n B)(h:Own T wa w L)(z:TW dbk pb FD D j w' (bks L++(B++Y)) F' M')(f:Fr F w w')(y:∀b∈F',b∈F\/w.heap.size<=b):Ed dbk pb FD D j S0 N0 w0 w' (bks L) Y F' M' x n B/\Own (bks L) w' w' L:=by have A:∀b∈bks L,b∉F:=fun b u=>e.tw.yf b (by simp[u]);refine⟨⟨⟨e.sg.tot.trans' f e.sg.new,fun b u=>(y b u).elim (e.sg.new b) fun C=>.inr (zL e.sg.tot.size C),e.sg.own⟩,z,e.node.frame f (fun b u=>e.tw.yf b (by simp[u])) (fun b u=>.inl (zoF u)) (TW.znew y),e.sep,e.bnew,e.nsub,e.ysep⟩,qaT h f A⟩
def Ed.next0(e:Ed dbk pb FD D j S0 N0 w0 w (bks L) Y F M x n B)(h:Own T wa w L)(f:Fr [] w w'):Ed dbk pb FD D j S0 N0 w0 w' (bks L) Y F M x n B/\Own (bks L) w' w' L:=
 e.next h (e.tw.frame0 f) (f.mono fun _ h=>nomatch h) fun b u=>.inl u
def Ed.nodeR(e:Ed dbk pb FD D j S0 N0 w0 w T Y F M x n B):NodeR (Zo FD (T++Y) F) w x n:=
 e.node.rd (fun b h u=>by
  simp only[Zo,zD,zG] at u;have y:=e.tw.sep b (by simp[h]);rcases u with (u|u|u|u)|u;exact y.1 u;exact y.2 u;exact e.sep b u h;exact e.ysep b h u;exact e.tw.yf b (by simp[h]) u) fun b h=>.inl (by
  simp only[Zo,zD,zG] at h⊢;rcases h with (h|h|h|h)|h<;>simp[h])
def Ed.tw'(e:Ed dbk pb FD D j S0 N0 w0 w T Y F M x n B):TW dbk pb FD D j w (T++Y) F M:=e.tw.weakY fun b u=>(zD.1 u).elim (fun h=>by simp[h]) fun h=>by simp[h]
end
end
section
section
variable {dbk pb j:Nat} {FD S0 N0 Y F F' F0 T T1 B B' Bk Bk':List Nat} {D:DiskM} {w0 wa w w':World} {M M':PgM} {L:List (Nat×Obj)} {x x':NdC} {n n':NodeM} {i q:Nat} {ii jj:Int} {ks:Sl} {key:Key} {vb:Nat} {T':TypeId}
structure Keep (FD Y F B B':List Nat) (T:List Nat) (w w':World):Prop where
 rdb:∀ s l,RdB (Zo FD (T++(B++Y)) F) w s l->RdB (Zo FD (T++(B'++Y)) F) w' s l
 node:∀ x n,NodeR (Zo FD (T++(B++Y)) F) w x n->NodeR (Zo FD (T++(B'++Y)) F) w' x n
def Ed.keep(e:Ed dbk pb FD D j S0 N0 w0 w T Y F M x n B)(y:∀b∈Bk,b∈B)(f:Fr Bk w w')(z:∀b∈B',b∈B\/w.heap.size<=b):Keep FD Y F B B' T w w':=⟨fun s l h=>h.frame (f.mono fun b u _=>by simp[y b u]) (e.newZ z),fun x n h=>h.frame (f.mono fun b u _=>by simp[y b u]) (e.newZ z)⟩
def Ed.rdb{l:Key}(e:Ed dbk pb FD D j F0 N0 w0 w T Y F M x n B)(y:RdB (Zo FD Y F0) w0 s l):RdB (Zo FD (T++(B++Y)) F) w s l:=
 y.frame (e.sg.tot.mono fun b u _=>zoF u) fun b u=>by rcases zD.1 u with u|u;rcases zD.1 u with u|u;exact .inl (by simp[u]);rcases zG.1 u with u|u;exact .inl (by simp[u]);rcases zD.1 u with u|u;exact (e.sg.own b u).imp (fun h=>zoF h) id;rcases zD.1 u with u|u;exact (e.bnew b u).imp (fun h=>zoF (e.nsub b h)) id;exact .inl (by simp[u]);exact (e.sg.new b u).imp (fun h=>zoF h) id
def Ed.sub(e:Ed dbk pb FD D j S0 N0 w0 w T Y F M x n B)(y:∀b∈T1,b∈T):Ed dbk pb FD D j S0 N0 w0 w T1 Y F M x n B where
 sg:=⟨e.sg.tot,e.sg.new,fun b u=>e.sg.own b (y b u)⟩
 tw:=e.tw.weakY fun b u=>(zD.1 u).elim (fun h=>zH _ (y b h)) fun h=>zI _ h
 node:=e.node.weak fun b u=>.inl (by simp only[Zo,zD,zG] at u⊢;rcases u with (u|u|u|u)|u;simp[u];simp[u];simp[y b u];simp[u];simp[u])
 sep:=fun b u=>e.sep b (y b u)
 bnew:=e.bnew
 nsub:=e.nsub
 ysep:=e.ysep
def ql6{L:List (Nat×Obj)}{q vb:Nat}{o:Obj}(h:L[q]?=some (vb,o)):vb∈bks L:=mem_map.2 ⟨_,yE h,rfl⟩
def Ed.insK(e:Ed dbk pb FD D j S0 N0 w0 w (bks L) Y F M x n B)(h:Own T wa w L)(hi:i<=n.keys.length)(G:ii=i)(I:n.keys.length<=100000)(q:Nat)(E:L[q]?=some (vb,.cells #[elSl ks] T' (0,0)))(J:RdB (Zo FD (bks L++(B++Y)) F) w ks key)(O:IsB key)(Q:∀y B' w',Ed dbk pb FD D j S0 N0 w0 w' (bks L) Y F M (x.1,y,x.2.2) { n with keys:=insAt n.keys i key } B'->Own (bks L) w' w' L->Keep FD Y F B B' (bks L) w w'->K y w'): cW 145 [x.2.1.v,.i ii,.slice (pW vb) 1 1] [.one .slice] w K:=by obtain⟨Bk,z,u,C⟩:=e.node.keysL;refine z.ins (fun b z=>e.rd b (u b z)) hi G I (h.at E) (fun R=>e.sep vb (ql6 E) (u vb R)) J fun y Bk' w' U f V=>?_;obtain⟨B',A,hN⟩:=C y _ Bk' w' f (fun b z=>e.rd b (u b z)) V fun a ha=>(qfz ha).elim (fun h=>by rw[h];exact O) (e.node.2.1.1 a);obtain⟨e',h'⟩:=e.edit h u f (hN _ (e.newZ A) (U _ (e.newZ A))) A;exact Q y B' w' e' h' (e.keep u f A)
def Ed.insV(e:Ed dbk pb FD D j S0 N0 w0 w (bks L) Y F M x n B)(h:Own T wa w L)(hi:i<=n.vals.length)(G:ii=i)(I:n.vals.length<=100000)(q:Nat)(E:L[q]?=some (vb,.cells #[elSl ks] T' (0,0)))(J:RdB (Zo FD (bks L++(B++Y)) F) w ks key)(O:IsB key)(Q:∀y B' w',Ed dbk pb FD D j S0 N0 w0 w' (bks L) Y F M (x.1,x.2.1,y,x.2.2.2) { n with vals:=insAt n.vals i key } B'->Own (bks L) w' w' L->Keep FD Y F B B' (bks L) w w'->K y w'): cW 145 [x.2.2.1.v,.i ii,.slice (pW vb) 1 1] [.one .slice] w K:=by obtain⟨Bk,z,u,C⟩:=e.node.valsL;refine z.ins (fun b z=>e.rd b (u b z)) hi G I (h.at E) (fun R=>e.sep vb (ql6 E) (u vb R)) J fun y Bk' w' U f V=>?_;obtain⟨B',A,hN⟩:=C y _ Bk' w' f (fun b z=>e.rd b (u b z)) V fun a ha=>(qfz ha).elim (fun h=>by rw[h];exact O) (e.node.2.1.2.1 a);obtain⟨e',h'⟩:=e.edit h u f (hN _ (e.newZ A) (U _ (e.newZ A))) A;exact Q y B' w' e' h' (e.keep u f A)
def Ed.insI{A:Int}(e:Ed dbk pb FD D j S0 N0 w0 w (bks L) Y F M x n B)(h:Own T wa w L)(hi:i<=n.kids.length)(J:ii=i)(O:n.kids.length<=100000)(q:Nat)(I:L[q]?=some (vb,.cells #[.u A] T' (0,0)))(Q:U32 A)(R:∀z B' w',Ed dbk pb FD D j S0 N0 w0 w' (bks L) Y F M (x.1,x.2.1,x.2.2.1,z) { n with kids:=insAt n.kids i A } B'->Own (bks L) w' w' L->Keep FD Y F B B' (bks L) w w'->K z w'): cW 147 [x.2.2.2.v,.i ii,.slice (pW vb) 1 1] [.one .slice] w K:=by obtain⟨Bk,C,y,E⟩:=e.node.kidsL;refine qrc C hi J O (h.at I) (fun U=>e.sep vb (ql6 I) (y vb U)) fun z Bk' w' V f nk=>?_;obtain⟨B',G,hN⟩:=E z _ Bk' w' f (fun b C=>e.rd b (y b C)) nk fun a ha=>(qfz ha).elim (fun h=>by rw[h];exact Q) (e.node.2.1.2.2 a);obtain⟨e',h'⟩:=e.edit h y f (hN _ (e.newZ G) V) G;exact R z B' w' e' h' (e.keep y f G)
def Ed.delK(e:Ed dbk pb FD D j S0 N0 w0 w (bks L) Y F M x n B)(h:Own T wa w L)(hi:i<n.keys.length)(E:ii=i)(G:jj=((i+1:Nat):Int))(I:n.keys.length<=100000)(J:∀z B' w',Ed dbk pb FD D j S0 N0 w0 w' (bks L) Y F M (x.1,z,x.2.2) { n with keys:=delAt n.keys i } B'->Own (bks L) w' w' L->Keep FD Y F B B' (bks L) w w'->K z w'): cW 151 [x.2.1.v,.i ii,.i jj] [.one .slice] w K:=by obtain⟨Bk,y,u,C⟩:=e.node.keysL;refine y.del (fun b y=>e.rd b (u b y)) hi E G I fun z w' O f=>?_;obtain⟨B',A,Q⟩:=C z _ Bk w' f (fun b y=>e.rd b (u b y)) (fun b y=>.inl y) fun a R=>e.node.2.1.1 a (qfy R);obtain⟨U,V⟩:=e.edit h u f (Q _ (e.newZ A) (O _ (e.newZ A))) A;exact J z B' w' U V (e.keep u f A)
def Ed.delV(e:Ed dbk pb FD D j S0 N0 w0 w (bks L) Y F M x n B)(h:Own T wa w L)(hi:i<n.vals.length)(E:ii=i)(G:jj=((i+1:Nat):Int))(I:n.vals.length<=100000)(J:∀z B' w',Ed dbk pb FD D j S0 N0 w0 w' (bks L) Y F M (x.1,x.2.1,z,x.2.2.2) { n with vals:=delAt n.vals i } B'->Own (bks L) w' w' L->Keep FD Y F B B' (bks L) w w'->K z w'): cW 151 [x.2.2.1.v,.i ii,.i jj] [.one .slice] w K:=by obtain⟨Bk,y,u,C⟩:=e.node.valsL;refine y.del (fun b y=>e.rd b (u b y)) hi E G I fun z w' O f=>?_;obtain⟨B',A,Q⟩:=C z _ Bk w' f (fun b y=>e.rd b (u b y)) (fun b y=>.inl y) fun a R=>e.node.2.1.2.1 a (qfy R);obtain⟨U,V⟩:=e.edit h u f (Q _ (e.newZ A) (O _ (e.newZ A))) A;exact J z B' w' U V (e.keep u f A)
def Ed.delI(e:Ed dbk pb FD D j S0 N0 w0 w (bks L) Y F M x n B)(h:Own T wa w L)(hi:i<n.kids.length)(E:ii=i)(G:jj=((i+1:Nat):Int))(I:n.kids.length<=100000)(J:∀y B' w',Ed dbk pb FD D j S0 N0 w0 w' (bks L) Y F M (x.1,x.2.1,x.2.2.1,y) { n with kids:=delAt n.kids i } B'->Own (bks L) w' w' L->Keep FD Y F B B' (bks L) w w'->K y w'): cW 222 [x.2.2.2.v,.i ii,.i jj] [.one .slice] w K:=by obtain⟨Bk,z,u,A⟩:=e.node.kidsL;refine qq9 z hi E G I fun y w' O f=>?_;obtain⟨B',C,Q⟩:=A y _ Bk w' f (fun b z=>e.rd b (u b z)) (fun b z=>.inl z) fun a R=>e.node.2.1.2.2 a (qfy R);obtain⟨U,V⟩:=e.edit h u f (Q _ (e.newZ C) O) C;exact J y B' w' U V (e.keep u f C)
def Ed.setK{K:WP}(e:Ed dbk pb FD D j S0 N0 w0 w (bks L) Y F M x n B)(h:Own T wa w L)(hi:i<n.keys.length)(C:ii=i)(E:RdB (Zo FD (bks L++(B++Y)) F) w ks key)(G:IsB key)(I:∀B' w',Ed dbk pb FD D j S0 N0 w0 w' (bks L) Y F M (x.1,x.2.1,x.2.2) { n with keys:=n.keys.set i key } B'->Own (bks L) w' w' L->Keep FD Y F B B' (bks L) w w'->K w'): idx x.2.1 ii 1 fun a=>st a [ks.v] w K:=by
 obtain⟨Bk,y,u,A⟩:=e.node.keysL;refine y.set (fun b y=>e.rd b (u b y)) hi C E fun w' J f=>?_;obtain⟨B',z,O⟩:=A x.2.1 _ Bk w' f (fun b y=>e.rd b (u b y)) (fun b y=>.inl y) fun a Q=>(mem_or_eq_of_mem_set Q).elim (e.node.2.1.1 a) fun h=>by rw[h];exact G
 obtain⟨R,U⟩:=e.edit h u f (O _ (e.newZ z) (J _ (e.newZ z))) z;exact I B' w' R U (e.keep u f z)
def Ed.setV{K:WP}(e:Ed dbk pb FD D j S0 N0 w0 w (bks L) Y F M x n B)(h:Own T wa w L)(hi:i<n.vals.length)(C:ii=i)(E:RdB (Zo FD (bks L++(B++Y)) F) w ks key)(G:IsB key)(I:∀B' w',Ed dbk pb FD D j S0 N0 w0 w' (bks L) Y F M (x.1,x.2.1,x.2.2.1,x.2.2.2) { n with vals:=n.vals.set i key } B'->Own (bks L) w' w' L->Keep FD Y F B B' (bks L) w w'->K w'): idx x.2.2.1 ii 1 fun a=>st a [ks.v] w K:=by
 obtain⟨Bk,y,u,A⟩:=e.node.valsL;refine y.set (fun b y=>e.rd b (u b y)) hi C E fun w' J f=>?_;obtain⟨B',z,O⟩:=A x.2.2.1 _ Bk w' f (fun b y=>e.rd b (u b y)) (fun b y=>.inl y) fun a Q=>(mem_or_eq_of_mem_set Q).elim (e.node.2.1.2.1 a) fun h=>by rw[h];exact G
 obtain⟨R,U⟩:=e.edit h u f (O _ (e.newZ z) (J _ (e.newZ z))) z;exact I B' w' R U (e.keep u f z)
def Ed.setI{A:Int}{K:WP}(e:Ed dbk pb FD D j S0 N0 w0 w (bks L) Y F M x n B)(h:Own T wa w L)(hi:i<n.kids.length)(G:ii=i)(I:U32 A)(J:∀B' w',Ed dbk pb FD D j S0 N0 w0 w' (bks L) Y F M (x.1,x.2.1,x.2.2.1,x.2.2.2) { n with kids:=n.kids.set i A } B'->Own (bks L) w' w' L->Keep FD Y F B B' (bks L) w w'->K w'): idx x.2.2.2 ii 1 fun a=>st a [.u A] w K:=by
 obtain⟨Bk,z,y,C⟩:=e.node.kidsL;refine qwE z hi G fun w' O f=>?_;obtain⟨B',E,Q⟩:=C x.2.2.2 _ Bk w' f (fun b z=>e.rd b (y b z)) (fun b z=>.inl z) fun a R=>(mem_or_eq_of_mem_set R).elim (e.node.2.1.2.2 a) fun h=>by rw[h];exact I
 obtain⟨U,V⟩:=e.edit h y f (Q _ (e.newZ E) O) E;exact J B' w' U V (e.keep y f E)
def Ed.appK(e:Ed dbk pb FD D j S0 N0 w0 w (bks L) Y F M x n B)(h:Own T wa w L)(E:n.keys.length<=100000)(q:Nat)(G:L[q]?=some (vb,.cells #[elSl ks] T' (0,0)))(I:RdB (Zo FD (bks L++(B++Y)) F) w ks key)(J:IsB key)(O:∀y B' w',Ed dbk pb FD D j S0 N0 w0 w' (bks L) Y F M (x.1,y,x.2.2) { n with keys:=n.keys++[key] } B'->Own (bks L) w' w' L->Keep FD Y F B B' (bks L) w w'->K y w'): Pt.run [Ty1.one Cell.slice] ((Builtin.append_ #[161,161] 161 #[x.2.1.v,.slice (pW vb) 1 1]).run prog w) K:=by
 obtain⟨Bk,z,u,C⟩:=e.node.keysL;refine z.app1 (fun b z=>e.rd b (u b z)) E (h.at G) I fun y Bk' w' Q f R=>?_;obtain⟨B',A,U⟩:=C y _ Bk' w' f (fun b z=>e.rd b (u b z)) R fun a V=>(zD.1 V).elim (e.node.2.1.1 a) fun h=>by rw[zE.1 h];exact J
 obtain⟨e',h'⟩:=e.edit h u f (U _ (e.newZ A) (Q _ (e.newZ A))) A;exact O y B' w' e' h' (e.keep u f A)
def Ed.appV(e:Ed dbk pb FD D j S0 N0 w0 w (bks L) Y F M x n B)(h:Own T wa w L)(E:n.vals.length<=100000)(q:Nat)(G:L[q]?=some (vb,.cells #[elSl ks] T' (0,0)))(I:RdB (Zo FD (bks L++(B++Y)) F) w ks key)(J:IsB key)(O:∀y B' w',Ed dbk pb FD D j S0 N0 w0 w' (bks L) Y F M (x.1,x.2.1,y,x.2.2.2) { n with vals:=n.vals++[key] } B'->Own (bks L) w' w' L->Keep FD Y F B B' (bks L) w w'->K y w'): Pt.run [Ty1.one Cell.slice] ((Builtin.append_ #[161,161] 161 #[x.2.2.1.v,.slice (pW vb) 1 1]).run prog w) K:=by
 obtain⟨Bk,z,u,C⟩:=e.node.valsL;refine z.app1 (fun b z=>e.rd b (u b z)) E (h.at G) I fun y Bk' w' Q f R=>?_;obtain⟨B',A,U⟩:=C y _ Bk' w' f (fun b z=>e.rd b (u b z)) R fun a V=>(zD.1 V).elim (e.node.2.1.2.1 a) fun h=>by rw[zE.1 h];exact J
 obtain⟨e',h'⟩:=e.edit h u f (U _ (e.newZ A) (Q _ (e.newZ A))) A;exact O y B' w' e' h' (e.keep u f A)
def Ed.appI{A:Int}(e:Ed dbk pb FD D j S0 N0 w0 w (bks L) Y F M x n B)(h:Own T wa w L)(I:n.kids.length<=100000)(q:Nat)(J:L[q]?=some (vb,.cells #[.u A] T' (0,0)))(O:U32 A)(Q:∀z B' w',Ed dbk pb FD D j S0 N0 w0 w' (bks L) Y F M (x.1,x.2.1,x.2.2.1,z) { n with kids:=n.kids++[A] } B'->Own (bks L) w' w' L->Keep FD Y F B B' (bks L) w w'->K z w'): Pt.run [Ty1.one Cell.slice] ((Builtin.append_ #[31,31] 31 #[x.2.2.2.v,.slice (pW vb) 1 1]).run prog w) K:=by
 obtain⟨Bk,C,y,E⟩:=e.node.kidsL;refine qqC C I (h.at J) fun z Bk' w' R f U=>?_;obtain⟨B',G,V⟩:=E z _ Bk' w' f (fun b C=>e.rd b (y b C)) U fun a ha=>(zD.1 ha).elim (e.node.2.1.2.2 a) fun h=>by rw[zE.1 h];exact O
 obtain⟨e',h'⟩:=e.edit h y f (V _ (e.newZ G) R) G;exact Q z B' w' e' h' (e.keep y f G)
def Ed.appAllK(e:Ed dbk pb FD D j S0 N0 w0 w (bks L) Y F M x n B)(h:Own T wa w L)(G:n.keys.length+ps.length<=100000)(I:Rds encSl 1 S w src (slsP ps))(C:∀p∈ps,RdB (Zo FD (bks L++(B++Y)) F) w p.1 p.2)(J:∀a∈keyP ps,IsB a)(O:∀y B' w',Ed dbk pb FD D j S0 N0 w0 w' (bks L) Y F M (x.1,y,x.2.2) { n with keys:=n.keys++keyP ps } B'->Own (bks L) w' w' L->Keep FD Y F B B' (bks L) w w'->K y w'): Pt.run [Ty1.one Cell.slice] ((Builtin.append_ #[161,161] 161 #[x.2.1.v,src.v]).run prog w) K:=by obtain⟨Bk,z,u,E⟩:=e.node.keysL;refine z.appAll (fun b z=>e.rd b (u b z)) G I C fun y Bk' w' Q f R=>?_;obtain⟨B',A,U⟩:=E y _ Bk' w' f (fun b z=>e.rd b (u b z)) R fun a V=>(zD.1 V).elim (e.node.2.1.1 a) (J a);obtain⟨e',h'⟩:=e.edit h u f (U _ (e.newZ A) (Q _ (e.newZ A))) A;exact O y B' w' e' h' (e.keep u f A)
def Ed.appAllV(e:Ed dbk pb FD D j S0 N0 w0 w (bks L) Y F M x n B)(h:Own T wa w L)(G:n.vals.length+ps.length<=100000)(I:Rds encSl 1 S w src (slsP ps))(C:∀p∈ps,RdB (Zo FD (bks L++(B++Y)) F) w p.1 p.2)(J:∀a∈keyP ps,IsB a)(O:∀y B' w',Ed dbk pb FD D j S0 N0 w0 w' (bks L) Y F M (x.1,x.2.1,y,x.2.2.2) { n with vals:=n.vals++keyP ps } B'->Own (bks L) w' w' L->Keep FD Y F B B' (bks L) w w'->K y w'): Pt.run [Ty1.one Cell.slice] ((Builtin.append_ #[161,161] 161 #[x.2.2.1.v,src.v]).run prog w) K:=by obtain⟨Bk,z,u,E⟩:=e.node.valsL;refine z.appAll (fun b z=>e.rd b (u b z)) G I C fun y Bk' w' Q f R=>?_;obtain⟨B',A,U⟩:=E y _ Bk' w' f (fun b z=>e.rd b (u b z)) R fun a V=>(zD.1 V).elim (e.node.2.1.2.1 a) (J a);obtain⟨e',h'⟩:=e.edit h u f (U _ (e.newZ A) (Q _ (e.newZ A))) A;exact O y B' w' e' h' (e.keep u f A)
def Ed.appAllI(e:Ed dbk pb FD D j S0 N0 w0 w (bks L) Y F M x n B)(h:Own T wa w L)(G:n.kids.length+ys.length<=100000)(I:Rds encU 1 S w src ys)(J:∀y∈ys,U32 y)(O:∀z B' w',Ed dbk pb FD D j S0 N0 w0 w' (bks L) Y F M (x.1,x.2.1,x.2.2.1,z) { n with kids:=n.kids++ys } B'->Own (bks L) w' w' L->Keep FD Y F B B' (bks L) w w'->K z w'): Pt.run [Ty1.one Cell.slice] ((Builtin.append_ #[31,31] 31 #[x.2.2.2.v,src.v]).run prog w) K:=by obtain⟨Bk,A,u,C⟩:=e.node.kidsL;refine qva A G I fun z Bk' w' Q f R=>?_;obtain⟨B',E,U⟩:=C z _ Bk' w' f (fun b A=>e.rd b (u b A)) R fun a V=>(zD.1 V).elim (e.node.2.1.2.2 a) (J a);obtain⟨e',h'⟩:=e.edit h u f (U _ (e.newZ E) Q) E;exact O z B' w' e' h' (e.keep u f E)
end
end
section
def qes{D:DiskM}{M:PgM}(h:loadN D M k v p=(n,0)):rightV n k v:=by
 unfold loadN at h;split at h;rename_i u;exact absurd (congrArg (·.2) h) u
 have:=qpp (kind:=(pagerReadM D M p).1) (b:=(pagerReadM D M p).2.1) (k:=k) (v:=v) (by rw[h])
 rw[h] at this;exact this
def qev(h:rightV n k v):n.keys.length<=498/\n.vals.length<=498/\n.kids.length<=498/\(n.leaf=true->n.vals.length=n.keys.length/\n.keys.length<=(capsV k v).1)/\(n.leaf=false->n.keys.length+1=n.kids.length/\n.kids.length<=(capsV k v).2/\2<=n.kids.length):=by
 have G:=qdl (k:=k) (v:=v);obtain⟨_,_,_,u⟩:=h;cases C:n.leaf with
 | true=>
  rw[C,if_pos rfl] at u;obtain⟨y,E,z,A⟩:=u;rw[y];exact⟨oJ,oJ,oL,fun _=>⟨A,z⟩,fun h=>nomatch h⟩
 | false=>
  rw[C,if_neg oM] at u;obtain⟨_,y,E,z,A⟩:=u;rw[y];exact⟨oJ,oL,oJ,fun h=>(nomatch h),fun _=>⟨A,z,E⟩⟩
section
variable {D:DiskM} {M M1:PgM} {k v f:Nat} {key val:Key} {p e0 e1:Int} {n:NodeM} {g:Grown}
def quF(h:loadN D M k v p=(n,e0))(u:e0≠0):putN D k v key val (f+1) M p=((zeroG,e0),M):=by unfold putN;rw[h,if_pos u]
def quG(h:loadN D M k v p=(n,0))(u:n.leaf=true)(y:n.keys[placeV n.keys key]?=some key):putN D k v key val (f+1) M p=splitN k v M p { n with vals:=n.vals.set (placeV n.keys key) val } false:=by unfold putN;rw[h,if_neg (fun h=>h rfl),if_pos u,if_pos y]
def qtl(h:loadN D M k v p=(n,0))(u:n.leaf=true)(y:¬n.keys[placeV n.keys key]?=some key):putN D k v key val (f+1) M p=splitN k v M p { n with keys:=insAt n.keys (placeV n.keys key) key,vals:=insAt n.vals (placeV n.keys key) val } true:=by unfold putN;rw[h,if_neg (fun h=>h rfl),if_pos u,if_neg y]
def qnk(h:loadN D M k v p=(n,0))(u:¬n.leaf=true)(y:putN D k v key val f M (n.kids.getD (kidV n.keys key) 0)=((g,e1),M1))(z:e1≠0):putN D k v key val (f+1) M p=((zeroG,e1),M1):=by unfold putN;rw[h,if_neg (fun h=>h rfl),if_neg u];dsimp only;rw[y,if_pos z]
def qtm(h:loadN D M k v p=(n,0))(u:¬n.leaf=true)(y:putN D k v key val f M (n.kids.getD (kidV n.keys key) 0)=((g,0),M1))(z:g.page=n.kids.getD (kidV n.keys key) 0/\g.other=0):putN D k v key val (f+1) M p=((⟨p,g.fresh,[],0⟩,0),M1):=by unfold putN;rw[h,if_neg (fun h=>h rfl),if_neg u];dsimp only;rw[y,if_neg (fun h=>h rfl),if_pos z]
def qvK(h:loadN D M k v p=(n,0))(u:¬n.leaf=true)(y:putN D k v key val f M (n.kids.getD (kidV n.keys key) 0)=((g,0),M1))(z:¬(g.page=n.kids.getD (kidV n.keys key) 0/\g.other=0)):putN D k v key val (f+1) M p=splitN k v M1 p (grownN n (kidV n.keys key) g) g.fresh:=by unfold putN;rw[h,if_neg (fun h=>h rfl),if_neg u];dsimp only;rw[y,if_neg (fun h=>h rfl),if_neg z]
end
def quy(u:n.leaf=true)(y:n.vals.length=n.keys.length):(sizeN n k v).1>(sizeN n k v).2->MidOk n ((sizeN n k v).1 / 2):=fun h=>by unfold MidOk;have e:(sizeN n k v).1=n.keys.length:=(by unfold sizeN;rw[if_pos u]);rw[if_pos u,y];rw[e] at h⊢;omega
def qte(u:¬n.leaf=true)(y:n.keys.length+1=n.kids.length)(z:2<=n.kids.length):(sizeN n k v).1>(sizeN n k v).2->MidOk n ((sizeN n k v).1 / 2):=fun h=>by unfold MidOk;have e:(sizeN n k v).1=n.kids.length:=(by unfold sizeN;rw[if_neg u]);rw[if_neg u];rw[e] at h⊢;omega
def qdQ{α:Type}{l:List α}{x:α}(h:i<=l.length):(insAt l i x).length=l.length+1:=by unfold insAt;simp;omega
def Rds.getU{i:Int}{K:Addr->Int->Prop}(h:Rds encU 1 S w s l)(n:Nat)(hi:i=n)(I:n<l.length)(J:∀a,(∀S' w',Rds encU 1 S' w' s l->w'.cell? a=some (.u l[n]))->K a l[n]):idx s i 1 fun a=>ld .u a w fun y=>K a y:=by
 subst hi;have E:l[n]?=some l[n]:=zA I;obtain⟨U,b,o,G,_,V,T,fr,hb,hc⟩:=h.at n E;refine qb3 G ⟨oJ,oJ⟩ ?_;rw[zJ];have key:∀S' w',Rds encU 1 S' w' s l->w'.cell? ⟨b,o+n*1,none⟩=some (.u l[n]):=fun S' w' O=>by
  obtain⟨_,b',o',z,_,Q,T',R,A,C⟩:=O.at n E;rw[G] at z;cases z;rw[qah A]
  have:=congrArg (·[0]?) C
  simpa[encU] using this
 exact qg1 l[n] (key S w h) (J _ key)
section
variable {dbk pb j:Nat} {FD S0 N0 Y F F' F0 T B:List Nat} {D:DiskM} {w0 wa w w':World} {M M':PgM} {L:List (Nat×Obj)} {x:NdC} {n:NodeM} {k v:Nat} {t:Int}
def Ed.load{w7:World}(y:∀b∈N0,b∈S0)(g:Sg S0 w0 wa F T)(h:Own T wa w L)(A:TW dbk pb FD D j w7 (B++(bks L++Y)) F M)(C:NodeB (Zo FD (B++(bks L++Y)) F) w7 x n B)(f:Fr [] w w7)(z:∀c∈B,w.heap.size<=c)(E:∀b∈Y,b<w.heap.size): Ed dbk pb FD D j S0 N0 w0 w7 (bks L) Y F M x n B/\Own (bks L) w7 w7 L:=by
 refine⟨⟨g.next0 h f,A.weakY fun b u=>?_,C.weak fun b u=>.inl ?_,fun b u G=>?_,fun b u=>.inr (zL (g.fr h).size (z b u)),y,fun b u I=>?_⟩,qaT h f fun _ _ h=>nomatch h⟩;simp only[zD] at u⊢;rcases u with u|u|u<;>simp[u];simp only[Zo,zD,zG] at u⊢;rcases u with (u|u|u|u|u)|u<;>simp[u]
 have:=qiB h b u;have:=z b G;omega
 have:=E b I;have:=z b u;omega
def Ed.kidsR(e:Ed dbk pb FD D j S0 N0 w0 w T Y F M x n B):Rds encU 1 (Zo FD (T++Y) F) w x.2.2.2 n.kids:=e.nodeR.2.2.2.2
def Ed.fr(e:Ed dbk pb FD D j S0 N0 w0 w T Y F M x n B):Fr S0 w0 w:=e.sg.tot
def qan(h:Own T wa w L)(u:L'.Sublist L):Own (bks L') w w L':=(h.sub u).rebase
def qmr{ks vs:Sl}{key val:Key}(ab:IsB key)(ae:IsB val):∀(f:Nat) {Y F:List Nat} {w0:World} {M:PgM} {p:Int} {K:GrC×Int->WP} (hT:TW dbk pb FD D j w0 Y F M) (hp:U32 p) (hk:RdB (Zo FD Y F) w0 ks key) (hv:RdB (Zo FD Y F) w0 vs val) (ai:(putN D k v key val f M p).1.2≠-1) (kk:∀gs F' w',GOk (putN D k v key val f M p).1.1->TW dbk pb FD D j w' Y F' (putN D k v key val f M p).2->RdB (Zo FD Y F') w' gs (putN D k v key val f M p).1.1.key->Fr F w0 w'->(∀b∈F',b∈F\/w0.heap.size<=b)->K (grX (putN D k v key val f M p).1.1 gs,(putN D k v key val f M p).1.2) w'), cW 107 [.agg (wkV (wkX k v pb t)),.u p,ks.v,vs.v] [.agg qaV,.one .i] w0 K
 | 0,_,_,_,_,_,_,_,_,_,_,ai,_=>absurd rfl ai
 | f+1,Y,F,w0,M,p,K,hT,hp,hk,hv,ai,kk=>by
  refine qkU ?_;unfold qgG qbZ qdd qb0;have h:=oE [] w0;have g:=Sg.start F w0;refine oB h fun r1 w2 _ _ h=>oB h fun r3 w4 _ _ h=>oC h 1 rfl (wkX k v pb t) rfl ?_;rcases I:loadN D M k v p with ⟨n,e0⟩;refine qgg (k:=k) (v:=v) (hT.now0 h) hp fun x B w7 a7 aF f7 a8=>?_;rw[I] at aF⊢;dsimp only at aF;obtain⟨e,h⟩:=Ed.load (N0:=[]) (fun _ h=>nomatch h) g h a7 aF f7 a8 fun b hb=>yC (hT.ylt b hb) h.fr.size;refine oB h fun r8 w9 _ _ h=>oD h 0 rfl (ndV x) fun bH h _=>qaa (fun Q=>?_) (fun Q=>?_);have aP:e0≠0:=by rw[zT] at Q;exact zR.1 Q
  rw[quF I aP] at kk;exact oD h 1 rfl (grV (0,false,⟨none,0,0⟩,0)) fun a9 h _=>oC h 1 rfl (0,false,⟨none,0,0⟩,0) rfl<|kk ⟨none,0,0⟩ F a9 qkW (e.now h).tw'.drop0 (.nil _ _ _ _) (e.now h).fr (e.now h).sg.new;have a':e0=0:=by rw[yD] at Q;exact yO.1 Q
  subst a';have hr:=qes I;obtain⟨l1,l2,l3,l4,l5⟩:=qev hr;have e:=e.now h;have h:=qan h (.refl _);have aQ:x.1=n.leaf:=e.node.1;refine oA h 0 rfl x.1 rfl<|qaa (fun Q=>?_) (fun Q=>?_);rw[aQ] at Q;obtain⟨l6,l7⟩:=l4 Q;refine oC h 0 rfl x rfl<|qkf e.nodeR (e.rdb hk) ab hr.2.2.1 oJ fun bL bc=>?_;obtain⟨e,h⟩:=e.next0 h bc;have ak:=qnh n.keys key;refine qaf (fun _ w'=>∃x' n' B',Own [r8,r3,r1] w' w' [(r8,.cells (ndV x') ND (0,0)),(r3,.cells (grV (0,false,⟨none,0,0⟩,0)) GR (0,0)),(r1,.cells (wkV (wkX k v pb t)) WK (0,0))]/\Ed dbk pb FD D j F [] w0 w' [r8,r3,r1] Y F M x' n' B'/\
   putN D k v key val (f+1) M p=splitN k v M p n' (!decide (n.keys[placeV n.keys key]?=some key))/\n'.leaf=true/\n'.vals.length=n'.keys.length/\n'.keys.length<=1000/\n'.kids.length<=1000) ?_ ?_
  refine qaa (fun J=>?_) (fun J=>?_);have aH:=zC J;have bM:=(zP.1 aH).1;refine oA h 0 rfl x.2.2.1 rfl<|e.setV h (i:=placeV n.keys key) oJ rfl (e.rdb hv) ae fun B' bN e h _=>⟨x,_,B',h,e,?_,Q,by dsimp only;rw[xE];exact l6,by dsimp only;omega,by dsimp only;omega⟩;rw[quG I Q aH,zZ aH];rfl;have ax:=zB J;have E:putN D k v key val (f+1) M p=splitN k v M p { n with keys:=insAt n.keys (placeV n.keys key) key,vals:=insAt n.vals (placeV n.keys key) val } (!decide (n.keys[placeV n.keys key]?=some key)):=by rw[qtl I Q ax,zU ax];rfl
  have al:(insAt n.vals (placeV n.keys key) val).length=(insAt n.keys (placeV n.keys key) key).length:=(by rw[qdQ oJ,qdQ ak,l6]);have am:(insAt n.keys (placeV n.keys key) key).length<=1000:=(by rw[qdQ ak];omega);refine⟨?_,?_,?_⟩;have h:=oF h;refine oA h 0 rfl x.2.1 rfl<|oA h 0 rfl x.2.2.1 rfl<|oB h fun bO bP _ _ h=>qaq (h.cell 1 rfl rfl) (h.cell 1 rfl rfl) ?_;have e:=e.now h;refine e.insK h (i:=placeV n.keys key) ak rfl oJ 0 rfl (e.rdb hk) ab fun R B1 aR e h _=>qai (h.cell 1 rfl rfl)<|oB h fun bQ bR _ _ h=>qaq (h.cell 2 rfl rfl) (h.cell 2 rfl rfl) ?_;have e:=e.now h;exact e.insV h (i:=placeV n.keys key) oN rfl oN 0 rfl (e.rdb hv) ae fun an B2 aS e h _=>oD h 2 rfl (ndV (x.1,R,x.2.2.1,x.2.2.2)) fun aT h _=>oD h 2 rfl (ndV (x.1,R,an,x.2.2.2)) fun aU h _=>⟨_,_,B2,qan h (.cons _ (.cons _ (.refl _))),(e.now h).sub oL,E,Q,al,am,by dsimp only;omega⟩;have h:=oF h;refine oA h 0 rfl x.2.1 rfl<|oA h 0 rfl x.2.2.1 rfl<|oB h fun bS bT _ _ h=>qaq (h.cell 1 rfl rfl) (h.cell 1 rfl rfl)<|oB h fun bU bV _ _ h=>qaq (h.cell 2 rfl rfl) (h.cell 2 rfl rfl) ?_;have e:=e.now h;exact e.insK h (i:=placeV n.keys key) ak rfl oJ 1 rfl (e.rdb hk) ab fun R B1 aR e h _=>qai (h.cell 2 rfl rfl)<|e.insV h (i:=placeV n.keys key) oN rfl oN 0 rfl (e.rdb hv) ae fun an B2 aS e h _=>oD h 2 rfl (ndV (x.1,R,x.2.2.1,x.2.2.2)) fun aT h _=>oD h 2 rfl (ndV (x.1,R,an,x.2.2.2)) fun aU h _=>⟨_,_,B2,qan h (.cons _ (.cons _ (.refl _))),(e.now h).sub oL,E,Q,al,am,by dsimp only;omega⟩;have h:=oF h;refine oA h 0 rfl x.2.1 rfl<|oA h 0 rfl x.2.2.1 rfl<|oB h fun bW bX _ _ h=>qaq (h.cell 1 rfl rfl) (h.cell 1 rfl rfl)<|oB h fun bY bZ _ _ h=>qaq (h.cell 2 rfl rfl) (h.cell 2 rfl rfl) ?_;have e:=e.now h;exact e.insK h (i:=placeV n.keys key) ak rfl oJ 0 rfl (e.rdb hk) ab fun R B1 aR e h _=>qai (h.cell 2 rfl rfl)<|e.insV h (i:=placeV n.keys key) oN rfl oN 1 rfl (e.rdb hv) ae fun an B2 aS e h _=>oD h 2 rfl (ndV (x.1,R,x.2.2.1,x.2.2.2)) fun aT h _=>oD h 2 rfl (ndV (x.1,R,an,x.2.2.2)) fun aU h _=>⟨_,_,B2,qan h (.cons _ (.cons _ (.refl _))),(e.now h).sub oL,E,Q,al,am,by dsimp only;omega⟩;rintro _ b0 ⟨x',n',B',h,e,E,m0,m1,m2,m3⟩;rw[E] at kk;refine oC h 2 rfl (wkX k v pb t) rfl<|oC h 0 rfl x' rfl<|qnx (Y:=[r8,r3,r1]++Y) e.tw' e.nodeR oJ oJ oJ (quy m0 m1) hp fun gs F' b3 hG aV z aW bd=>?_;have g:=e.sg.next h aW bd
  have h:=qaT h aW fun b hb=>e.tw'.yf b (by simp at hb⊢;rcases hb with h|h|h<;>simp[h]);exact oG h 1 rfl (grV (grX (splitN k v M p n' (!decide (n.keys[placeV n.keys key]?=some key))).1.1 gs)) rfl rfl (zO rfl) fun bf h _=>oC h 1 rfl (grX (splitN k v M p n' (!decide (n.keys[placeV n.keys key]?=some key))).1.1 gs) rfl<|kk gs F' bf hG (aV.now h).drop0 (qkK (qaQ z h)) (g.fr h) g.new
  ·rw[aQ] at Q;have af:¬n.leaf=true:=(by rw[Q];decide);obtain⟨l6,l7,l8⟩:=l5 Q;refine oC h 0 rfl x rfl<|qob e.nodeR (e.rdb hk) ab hr.2.2.1 oJ fun b4 bg=>?_;obtain⟨e,h⟩:=e.next0 h bg;have ao:=qi9 n.keys key;generalize ar:kidV n.keys key=c at ao⊢;have ag:c<n.kids.length:=oJ;have aI:n.kids.getD c 0=n.kids[c]:=(by rw[yQ,zA ag];rfl);have hu:U32 n.kids[c]:=e.node.2.1.2.2 _ (zW ag);rcases ap:putN D k v key val f M n.kids[c] with ⟨⟨A,e1⟩,M1⟩;have U:putN D k v key val f M (n.kids.getD (kidV n.keys key) 0)=((A,e1),M1):=(by rw[ar,aI];exact ap);have ay:e1≠-1:=fun h1=>by rw[h1] at U;rw[qnk I af U oM] at ai;exact ai rfl
   refine⟨?a,?b⟩;case' a=>
    have h:=oF h;have e:=e.now h;refine oC h 2 rfl (wkX k v pb t) rfl<|oA h 0 rfl x.2.2.2 rfl<|Rds.getU e.kidsR c rfl ag fun bh hh=>qmr ab ae f e.tw hu (e.rdb hk) (e.rdb hv) (by rw[ap];exact ay) fun gs F1 bi hG V z aJ aK=>?_;rw[ap] at hG V z⊢;obtain⟨e,h⟩:=e.next h V aJ aK
    refine oB h fun aq bj _ _ h=>qam (hh _ _ (e.now h).kidsR) (h.cell 1 rfl rfl) (h.cells 3 rfl rfl)<|oD h 0 rfl (grV (grX A gs)) fun aY h _=>?_;have z:=qaQ z h;have e:=e.now h;have h:=qan h (.refl _)
   case' b=>
    have h:=oF h;have e:=e.now h;have h:=qan h (.refl _);refine oC h 2 rfl (wkX k v pb t) rfl<|oA h 0 rfl x.2.2.2 rfl<|Rds.getU e.kidsR c rfl ag fun bh hh=>oB h fun aq bj _ _ h=>?_;have e:=e.now h;refine qam (hh _ _ e.kidsR) (h.cell 1 rfl rfl) (h.cells 3 rfl rfl)<|qmr ab ae f e.tw hu (e.rdb hk) (e.rdb hv) (by rw[ap];exact ay) fun gs F1 bi hG V z aJ aK=>?_;rw[ap] at hG V z⊢;obtain⟨e,h⟩:=e.next h V aJ aK
    refine oD h 0 rfl (grV (grX A gs)) fun aY h _=>?_;have z:=qaQ z h;have e:=e.now h;have h:=qan h (.refl _)
   all_goals
    refine qaa (fun J=>?_) (fun J=>?_);have aZ:e1≠0:=by rw[zT] at J;exact zR.1 J
    rw[qnk I af U aZ] at kk;exact oD h 2 rfl (grV (0,false,⟨none,0,0⟩,0)) fun bk h _=>oC h 2 rfl (0,false,⟨none,0,0⟩,0) rfl<|kk ⟨none,0,0⟩ F1 bk qkW (e.now h).tw'.drop0 (.nil _ _ _ _) (e.now h).fr (e.now h).sg.new;have bl:e1=0:=by rw[yD] at J;exact yO.1 J
    subst bl;refine qaf (fun b w'=>b=decide (A.page=n.kids[c]/\A.other=0)/\w'=aY.drew) ?_ ?_;have h:=oF h;refine oA h 0 rfl A.page rfl<|oA h 1 rfl x.2.2.2 rfl<|Rds.get (e.now h).kidsR c rfl (zA ag) (y:=n.kids[c]) rfl<|qaa (fun C=>?_) (fun C=>?_);have C:A.page=n.kids[c]:=yO.1 C;refine oA h 0 rfl A.other rfl ⟨?_,rfl⟩;rw[Bool.eq_iff_iff,yO,yM];exact⟨fun h=>⟨C,h⟩,fun h=>h.2⟩;have C:A.page≠n.kids[c]:=zR.1 C;exact⟨(zU fun h=>C h.1).symm,rfl⟩;rintro bo bp ⟨rfl,rfl⟩;have h:=oF h;have z:=qaQ z h;have e:=e.now h;have h:=qan h (.refl _);refine qaa (fun C=>?_) (fun C=>?_);have C:=zC C;rw[<- aI,<- ar] at C;rw[qtm I af U C] at kk;exact oA h 0 rfl A.fresh rfl<|oD h 2 rfl (grV (p,A.fresh,⟨none,0,0⟩,0)) fun a0 h _=>oC h 2 rfl (p,A.fresh,⟨none,0,0⟩,0) rfl<|kk ⟨none,0,0⟩ F1 a0 ⟨hp,qdL,.nil⟩ (e.now h).tw'.drop0 (.nil _ _ _ _) (e.now h).fr (e.now h).sg.new;have C:=zB C;rw[<- aI,<- ar] at C;have E:=qvK I af U C;rw[ar] at E;rw[E] at kk;refine oA h 1 rfl x.2.2.2 rfl<|oA h 0 rfl A.page rfl<|e.setI h (i:=c) ag rfl hG.page fun B1 bq e h kp=>?_;have z:=kp.rdb _ _ z;refine qaf (fun _ w'=>∃x' B',Own [aq,r8,r3,r1] w' w' [(aq,.cells (grV (grX A gs)) GR (0,0)),(r8,.cells (ndV x') ND (0,0)),(r3,.cells (grV (0,false,⟨none,0,0⟩,0)) GR (0,0)),(r1,.cells (wkV (wkX k v pb t)) WK (0,0))]/\Ed dbk pb FD D j F [] w0 w' [aq,r8,r3,r1] Y F1 M1 x' (grownN n c A) B'/\
     ¬(grownN n c A).leaf=true/\(grownN n c A).keys.length+1=(grownN n c A).kids.length/\2<=(grownN n c A).kids.length/\(grownN n c A).kids.length<=1000/\(grownN n c A).vals.length<=1000) ?_ ?_
    refine oA h 0 rfl A.other rfl<|qaa (fun O=>?_) (fun O=>?_);have O:A.other≠0:=by rw[zT] at O;exact zR.1 O
    have eg:grownN n c A={ n with kids:=insAt (n.kids.set c A.page) (c+1) A.other,keys:=insAt n.keys c A.key }:=(by unfold grownN;rw[if_pos O]);have ad:¬(grownN n c A).leaf=true/\(grownN n c A).keys.length+1=(grownN n c A).kids.length/\2<=(grownN n c A).kids.length/\(grownN n c A).kids.length<=1000/\(grownN n c A).vals.length<=1000:=(by rw[eg];dsimp only;rw[qdQ ao,qdQ (l:=n.kids.set c A.page) (by rw[xE];omega),xE];exact⟨af,oJ,oJ,oJ,oJ⟩);rw[eg] at ad⊢;have ew:wrap .i64 ((c:Int)+1)=((c+1:Nat):Int):=qbx oJ;rw[ew];refine⟨?_,?_,?_⟩;have h:=oF h;refine oA h 1 rfl x.2.2.2 rfl<|oA h 0 rfl A.other rfl<|oA h 1 rfl x.2.1 rfl<|oA h 0 rfl gs rfl<|oB h fun br bs _ _ h=>qam (h.cell 1 rfl rfl) (h.cell 2 rfl rfl) (h.cell 2 rfl rfl) ?_;have z:=qaQ z h;have e:=e.now h;refine e.insI h (i:=c+1) (by dsimp only;rw[xE];omega) rfl (by dsimp only;rw[xE];omega) 0 rfl hG.other fun G B2 az e h kp=>?_;have z:=kp.rdb _ _ z;refine qaq (h.cell 1 rfl rfl) (h.cell 2 rfl rfl)<|oB h fun bt bu _ _ h=>qam (h.cell 3 rfl rfl) (h.cell 2 rfl rfl) (h.cell 3 rfl rfl) ?_;have z:=qaQ z h;have e:=e.now h;exact e.insK h (i:=c) ao rfl oN 0 rfl z hG.key fun aa B3 aA e h _=>oD h 3 rfl (ndV (x.1,x.2.1,x.2.2.1,G)) fun aB h _=>oD h 3 rfl (ndV (x.1,aa,x.2.2.1,G)) fun aC h _=>⟨_,B3,qan h (.cons _ (.cons _ (.refl _))),(e.now h).sub oL,ad⟩;have h:=oF h;refine oA h 1 rfl x.2.2.2 rfl<|oA h 0 rfl A.other rfl<|oA h 1 rfl x.2.1 rfl<|oA h 0 rfl gs rfl<|oB h fun bv bw _ _ h=>qam (h.cell 1 rfl rfl) (h.cell 2 rfl rfl) (h.cell 2 rfl rfl)<|oB h fun bx bz _ _ h=>qam (h.cell 3 rfl rfl) (h.cell 2 rfl rfl) (h.cell 3 rfl rfl) ?_;have z:=qaQ z h;have e:=e.now h;refine e.insI h (i:=c+1) (by dsimp only;rw[xE];omega) rfl (by dsimp only;rw[xE];omega) 1 rfl hG.other fun G B2 az e h kp=>?_;have z:=kp.rdb _ _ z;exact qaq (h.cell 2 rfl rfl) (h.cell 3 rfl rfl)<|e.insK h (i:=c) ao rfl oN 0 rfl z hG.key fun aa B3 aA e h _=>oD h 3 rfl (ndV (x.1,x.2.1,x.2.2.1,G)) fun aB h _=>oD h 3 rfl (ndV (x.1,aa,x.2.2.1,G)) fun aC h _=>⟨_,B3,qan h (.cons _ (.cons _ (.refl _))),(e.now h).sub oL,ad⟩;have h:=oF h;refine oA h 1 rfl x.2.2.2 rfl<|oA h 0 rfl A.other rfl<|oA h 1 rfl x.2.1 rfl<|oA h 0 rfl gs rfl<|oB h fun bA bB _ _ h=>qam (h.cell 2 rfl rfl) (h.cell 1 rfl rfl) (h.cell 2 rfl rfl)<|oB h fun bC bD _ _ h=>qam (h.cell 2 rfl rfl) (h.cell 3 rfl rfl) (h.cell 3 rfl rfl) ?_;have z:=qaQ z h;have e:=e.now h;refine e.insI h (i:=c+1) (by dsimp only;rw[xE];omega) rfl (by dsimp only;rw[xE];omega) 0 rfl hG.other fun G B2 az e h kp=>?_;have z:=kp.rdb _ _ z;exact qaq (h.cell 2 rfl rfl) (h.cell 3 rfl rfl)<|e.insK h (i:=c) ao rfl oN 1 rfl z hG.key fun aa B3 aA e h _=>oD h 3 rfl (ndV (x.1,x.2.1,x.2.2.1,G)) fun aB h _=>oD h 3 rfl (ndV (x.1,aa,x.2.2.1,G)) fun aC h _=>⟨_,B3,qan h (.cons _ (.cons _ (.refl _))),(e.now h).sub oL,ad⟩;have O:¬A.other≠0:=(by rw[yD] at O;exact fun hh=>hh (yO.1 O));have eg:grownN n c A={ n with kids:=n.kids.set c A.page }:=(by unfold grownN;rw[if_neg O]);rw[eg];exact⟨x,B1,h,e,af,by dsimp only;rw[xE];omega,by dsimp only;rw[xE];omega,by dsimp only;rw[xE];omega,by dsimp only;omega⟩;rintro _ bE ⟨x',B',h,e,q1,q2,q3,q4,q5⟩;refine oC h 3 rfl (wkX k v pb t) rfl<|oC h 1 rfl x' rfl<|oA h 0 rfl A.fresh rfl<|qnx (Y:=[aq,r8,r3,r1]++Y) e.tw' e.nodeR oJ oJ oJ (qte q1 q2 q3) hp fun aM F2 bF bm aN a1 aD a2=>?_;have g:=e.sg.next h aD a2
    have h:=qaT h aD fun b hb=>e.tw'.yf b (by simp at hb⊢;rcases hb with h|h|h|h<;>simp[h]);exact oG h 2 rfl (grV (grX (splitN k v M1 p (grownN n c A) A.fresh).1.1 aM)) rfl rfl (zO rfl) fun a3 h _=>oC h 2 rfl (grX (splitN k v M1 p (grownN n c A) A.fresh).1.1 aM) rfl<|kk aM F2 a3 bm (aN.now h).drop0 (qkK (qaQ a1 h)) (g.fr h) g.new
end
end
section
def qaC{H u y z:WP}{K:Prop}(h:H w)(A:u w)(C:y w)(E:z w)(k:K):held [H,u,y,z] w K:=by unfold held;exact⟨⟨h,A,C,E⟩,k⟩
structure Opn (S0 Z:List Nat) (w:World) (x:NdC) (n:NodeM) (pk pv:Kps):Prop where
 lens:NodeL x n
 nb:NB n
 keys:keyP pk=n.keys
 vals:keyP pv=n.vals
 rk:Rds encSl 1 S0 w x.2.1 (slsP pk)
 rv:Rds encSl 1 S0 w x.2.2.1 (slsP pv)
 ri:Rds encU 1 S0 w x.2.2.2 n.kids
 ek:∀ p∈pk,RdB Z w p.1 p.2
 ev:∀ p∈pv,RdB Z w p.1 p.2
section
variable {S S0 S0' Z Z' B:List Nat} {w w':World} {x:NdC} {n:NodeM} {pk pv:Kps}
def NodeB.opn(h:NodeB Z w x n B)(y:∀b∈B,b∉S0):∃pk pv,Opn S0 Z w x n pk pv:=by have A:NodeR [] w x n:=h.rd (fun _ _ h=>(nomatch h)) fun _ h=>nomatch h;have C:=A.lens;obtain⟨R,z,Bk,U,V,rfl,E,⟨pk,G,I,J⟩,⟨pv,K,O,Q⟩,hi⟩:=h;exact⟨pk,pv,C,z,I,O,G.rds qcA fun b u=>y b (by simp[u]),K.rds qcA fun b u=>y b (by simp[u]),hi.rds qaI fun b u=>y b (by simp[u]),J,Q⟩
def Opn.frame(h:Opn S0 Z w x n pk pv)(f:Fr S w w')(A:∀b∈S,b∈S0)(z:∀b∈S,b∈Z)(y:NewZ S0 w S0')(E:NewZ Z w Z'):Opn S0' Z' w' x n pk pv where
 lens:=h.lens
 nb:=h.nb
 keys:=h.keys
 vals:=h.vals
 rk:=h.rk.frame (f.mono fun b u _=>A b u) y
 rv:=h.rv.frame (f.mono fun b u _=>A b u) y
 ri:=h.ri.frame (f.mono fun b u _=>A b u) y
 ek:=fun p C=>(h.ek p C).frame (f.mono fun b u _=>z b u) E
 ev:=fun p C=>(h.ev p C).frame (f.mono fun b u _=>z b u) E
def Opn.klen(h:Opn S0 Z w x n pk pv):pk.length=n.keys.length:=by rw[<- h.keys,zK]
def Opn.vlen(h:Opn S0 Z w x n pk pv):pv.length=n.vals.length:=by rw[<- h.vals,zK]
def Opn.rdK(h:Opn S0 Z w x n pk pv)(u:∀b∈S0,b∈Z):RdK S0 w x.2.1 pk:=⟨h.rk,fun p y=>(h.ek p y).frame (.refl _ _) fun b z=>.inl (u b z)⟩
def Opn.rdV(h:Opn S0 Z w x n pk pv)(u:∀b∈S0,b∈Z):RdK S0 w x.2.2.1 pv:=⟨h.rv,fun p y=>(h.ev p y).frame (.refl _ _) fun b z=>.inl (u b z)⟩
def Rds.getS{i:Int}{K:Addr->Sl->Prop}(h:Rds encSl 1 S w s (slsP ps))(n:Nat)(hi:i=n)(G:n<ps.length)(I:∀a,(∀S' w',Rds encSl 1 S' w' s (slsP ps)->w'.cell? a=some (.slice ps[n].1.a ps[n].1.len ps[n].1.cap))->K a ps[n].1):idx s i 1 fun a=>ld .slice a w fun y=>K a y:=by
 subst hi;have C:(slsP ps)[n]?=some ps[n].1:=(by rw[zQ,zA G];rfl);obtain⟨R,b,o,E,_,U,T,V,hb,hc⟩:=h.at n C;refine qb3 E ⟨oJ,oJ⟩ ?_;rw[zJ];have key:∀S' w',Rds encSl 1 S' w' s (slsP ps)->w'.cell? ⟨b,o+n*1,none⟩=some (.slice ps[n].1.a ps[n].1.len ps[n].1.cap):=fun S' w' J=>by
  obtain⟨_,b',o',u,_,O,T',Q,z,A⟩:=J.at n C;rw[E] at u;cases u;rw[qah z]
  have:=congrArg (·[0]?) A
  simpa[encSl] using this
 exact qg1 ps[n].1 (key S w h) (I _ key)
def Opn.keyAt(h:Opn S0 Z w x n pk pv)(hi:i<pk.length):n.keys.getD i []=pk[i].2:=by rw[<- h.keys,qds hi]
def Opn.valAt(h:Opn S0 Z w x n pk pv)(hi:i<pv.length):n.vals.getD i []=pv[i].2:=by rw[<- h.vals,qds hi]
def qdC{n:NodeM}(hi:i<n.kids.length):n.kids.getD i 0=n.kids[i]:=by rw[yQ,zA hi];rfl
end
structure ShapeN (n:NodeM):Prop where
 leaf:n.leaf=true->n.vals.length=n.keys.length
 inner:n.leaf=false->n.kids.length=n.keys.length+1
 keys:n.keys.length<=2000
 vals:n.vals.length<=2000
 kids:n.kids.length<=2000
section
variable {dbk pb j:Nat} {FD Y F Bl Br:List Nat} {D:DiskM} {w0:World} {M:PgM} {xl xr:NdC} {nl nr:NodeM} {ks:Sl} {key:Key}
def zoT{T:List Nat}{b:Nat}(h:b∈T):b∈Zo FD (T++Y) F:=by simp[h]
def qi4{T:List Nat}:∀b∈Zo FD Y F,b∈Zo FD (T++(Bl++Y)) F:=fun b h=>by simp only[Zo,zD,zG] at h⊢;rcases h with (h|h|h)|h<;>simp[h]
def qgc{α:Type}(l:List α)(x:α):insAt l 0 x=x::l:=by unfold insAt;simp
def qum{K:NdC×NdC×Sl->WP}(hT:TW dbk pb FD D j w0 (Br++(Bl++Y)) F M)(hl:NodeB (Zo FD (Br++(Bl++Y)) F) w0 xl nl Bl)(hr:NodeB (Zo FD (Br++(Bl++Y)) F) w0 xr nr Br)(d1:∀b∈Br,b∉Bl)(d2:∀b∈Br,b∉Y)(d3:∀b∈Bl,b∉Y)(hk:RdB (Zo FD (Br++(Bl++Y)) F) w0 ks key)(ao:IsB key)(a7:nl.leaf=nr.leaf)(h1:1<=nl.keys.length)(sl:ShapeN nl)(sr:ShapeN nr)(kk:∀yl yr aw w',TW dbk pb FD D j w' Y F M->NodeR (Zo FD Y F) w' yl (giveN nl nr key).1->NodeR (Zo FD Y F) w' yr (giveN nl nr key).2.1->RdB (Zo FD Y F) w' aw (giveN nl nr key).2.2->Fr (Br++F) w0 w'->K (yl,yr,aw) w'): cW 194 [.agg (ndV xl),.agg (ndV xr),ks.v] [.agg qab,.agg qab,.one .slice] w0 K:=by
 refine qpH ?_;unfold qlZ qdH qdI;obtain⟨pk,pv,o⟩:=hl.opn (S0:=Br++Zo FD Y F) fun b u Q=>by rcases zD.1 Q with Q|Q;exact d1 b Q u;have h0:=hT.sep b (by simp[u]);simp only[Zo,zD,zG] at Q;rcases Q with (Q|Q|Q)|Q;exact h0.1 Q;exact h0.2 Q;exact d3 b u Q;exact hT.yf b (by simp[u]) Q
 have e0:Ed dbk pb FD D j (Br++F) Br w0 w0 [] (Bl++Y) F M xr nr Br:=⟨⟨.refl _ _,fun b u=>.inl (by simp[u]),fun _ h=>nomatch h⟩,hT,hr,fun _ h=>(nomatch h),fun b u=>.inl u,fun b u=>by simp[u],fun b u Q=>(zD.1 Q).elim (d1 b u) (d2 b u)⟩;have U:∀b∈Br++Zo FD Y F,b∈Zo FD (Br++(Bl++Y)) F:=fun b u=>by simp only[Zo,zD,zG] at u⊢;rcases u with u|(u|u|u)|u<;>simp[u]
 have V:∀b∈Br++F,b∈Br++Zo FD Y F:=fun b u=>by simp only[Zo,zD,zG] at u⊢;rcases u with u|u<;>simp[u]
 have nZ:∀ {w' T x' n' B'},Ed dbk pb FD D j (Br++F) Br w0 w' T (Bl++Y) F M x' n' B'->NewZ (Zo FD (Br++(Bl++Y)) F) w0 (Zo FD (T++(B'++(Bl++Y))) F):=fun e b u=>by simp only[Zo,zD,zG] at u;rcases u with (u|u|u|u|u|u)|u;exact .inl (by simp[u]);exact .inl (by simp[u]);exact (e.sg.own b u).imp (fun h=>U b (V b h)) id;exact (e.bnew b u).imp (fun h=>U b (V b (e.nsub b h))) id;exact .inl (by simp[u]);exact .inl (by simp[u]);exact .inl (by simp[u])
 have G:∀ {w' T x' n' B'},Ed dbk pb FD D j (Br++F) Br w0 w' T (Bl++Y) F M x' n' B'->Opn (Br++Zo FD Y F) (Zo FD (T++(B'++(Bl++Y))) F) w' xl nl pk pv:=fun e=>o.frame e.fr V (fun b u=>U b (V b u)) (fun b u=>.inl u) (nZ e);have ax:=o.rdK U;have ay:=o.rdV U;have aa:∀ {w' T x' n' B'},Ed dbk pb FD D j (Br++F) Br w0 w' T (Bl++Y) F M x' n' B'->Fr (Br++Zo FD Y F) w0 w':=fun e=>e.fr.mono fun b u _=>V b u;have ab:∀b∈Zo FD Y F,b∈Br++Zo FD Y F\/w0.heap.size<=b:=fun b u=>.inl (zI _ u);have I:=o.lens;have kl:=o.klen;have vl:=o.vlen;have sk:=sl.keys;have a8:=sr.keys;have a9:=sr.vals;have a':=sr.kids;have aG:wrap .i64 ((xl.2.1.len:Int)-1)=((nl.keys.length-1:Nat):Int):=(by rw[I.keys,wi' _ oJ];omega);have h:=oE [] w0;refine oB h fun r1 w2 _ _ h=>oB h fun r3 w4 _ _ h=>oB h fun r5 w6 _ _ h=>oB h fun r7 w8 _ _ h=>oA h 3 rfl xl.2.1 rfl<|oA h 3 rfl xl.1 rfl ?_;rw[aG];apply qaa<;>intro hc
 ·rw[I.leaf] at hc;have ba:=sl.leaf hc;have hG:giveN nl nr key=({ nl with keys:=nl.keys.take (nl.keys.length-1),vals:=nl.vals.take (nl.keys.length-1) },{ nr with keys:=nl.keys.getD (nl.keys.length-1) []::nr.keys,vals:=nl.vals.getD (nl.keys.length-1) []::nr.vals },nl.keys.getD (nl.keys.length-1) []):=(by unfold giveN;rw[if_pos hc]);have hi:nl.keys.length-1<pk.length:=oJ;have J:nl.keys.length-1<pv.length:=oJ;rw[hG,o.keyAt hi,o.valAt J] at kk;have R:IsB pk[nl.keys.length-1].2:=(by rw[<- o.keyAt hi];exact qa7 o.nb.1 _);have aq:IsB pv[nl.keys.length-1].2:=(by rw[<- o.valAt J];exact qa7 o.nb.2.1 _);refine⟨?a1,?a2,?a3⟩;case' a1=>
   have h:=oF h;refine oA h 2 rfl xr.2.1 rfl<|oA h 3 rfl xl.2.1 rfl<|Rds.getS ((o.rk).frame0 h.fr) (nl.keys.length-1) rfl hi fun ac A=>oA h 2 rfl xr.2.2.1 rfl<|oA h 3 rfl xl.2.2.1 rfl<|Rds.getS ((o.rv).frame0 h.fr) (nl.keys.length-1) rfl J fun az O=>oB h fun ad ae _ _ h=>?_;have e:=e0.now h;refine qaC (O _ _ (G e).rv) (h.cell 4 rfl rfl) (h.cell 3 rfl rfl) (h.cell 3 rfl rfl)<|e.insK h (i:=0) (yW _) rfl oJ 0 rfl ((G e).ek _ (zW hi)) R fun y B1 af e h _=>qam (O _ _ (G e).rv) (h.cell 4 rfl rfl) (h.cell 3 rfl rfl)<|oB h fun ag ah _ _ h=>?_;have e:=e.now h;refine qaC (h.cell 4 rfl rfl) (A _ _ (G e).rk) (h.cell 5 rfl rfl) (h.cell 4 rfl rfl)<|e.insV h (i:=0) (yW _) rfl oN 0 rfl ((G e).ev _ (zW J)) aq fun z B2 ai e h _=>?_
  case' a2=>
   have h:=oF h;refine oA h 2 rfl xr.2.1 rfl<|oA h 3 rfl xl.2.1 rfl<|Rds.getS ((o.rk).frame0 h.fr) (nl.keys.length-1) rfl hi fun ac A=>oA h 2 rfl xr.2.2.1 rfl<|oA h 3 rfl xl.2.2.1 rfl<|Rds.getS ((o.rv).frame0 h.fr) (nl.keys.length-1) rfl J fun az O=>oB h fun ad ae _ _ h=>qaC (O _ _ (G (e0.now h)).rv) (h.cell 4 rfl rfl) (h.cell 3 rfl rfl) (h.cell 3 rfl rfl)<|oB h fun ag ah _ _ h=>?_;have e:=e0.now h;refine qaC (h.cell 4 rfl rfl) (A _ _ (G e).rk) (h.cell 5 rfl rfl) (h.cell 4 rfl rfl)<|e.insK h (i:=0) (yW _) rfl oJ 1 rfl ((G e).ek _ (zW hi)) R fun y B1 af e h _=>qam (O _ _ (G e).rv) (h.cell 5 rfl rfl) (h.cell 4 rfl rfl)<|e.insV h (i:=0) (yW _) rfl oN 0 rfl ((G e).ev _ (zW J)) aq fun z B2 ai e h _=>?_
  case' a3=>
   have h:=oF h;refine oA h 2 rfl xr.2.1 rfl<|oA h 3 rfl xl.2.1 rfl<|Rds.getS ((o.rk).frame0 h.fr) (nl.keys.length-1) rfl hi fun ac A=>oA h 2 rfl xr.2.2.1 rfl<|oA h 3 rfl xl.2.2.1 rfl<|Rds.getS ((o.rv).frame0 h.fr) (nl.keys.length-1) rfl J fun az O=>oB h fun ad ae _ _ h=>qaC (h.cell 3 rfl rfl) (A _ _ (G (e0.now h)).rk) (h.cell 4 rfl rfl) (h.cell 3 rfl rfl)<|oB h fun ag ah _ _ h=>?_;have e:=e0.now h;refine qaC (O _ _ (G e).rv) (h.cell 5 rfl rfl) (h.cell 4 rfl rfl) (h.cell 4 rfl rfl)<|e.insK h (i:=0) (yW _) rfl oJ 0 rfl ((G e).ek _ (zW hi)) R fun y B1 af e h _=>qam (O _ _ (G e).rv) (h.cell 5 rfl rfl) (h.cell 4 rfl rfl)<|e.insV h (i:=0) (yW _) rfl oN 1 rfl ((G e).ev _ (zW J)) aq fun z B2 ai e h _=>?_
  all_goals
   refine oD h 4 rfl (ndV (xr.1,y,xr.2.2.1,xr.2.2.2)) fun aI h _=>oD h 4 rfl (ndV (xr.1,y,z,xr.2.2.2)) fun aJ h _=>?_;have h:=oF h;refine oA h 5 rfl xl.2.1 rfl<|RdK.upto ax (nl.keys.length-1) rfl oJ fun C aj=>oA h 5 rfl xl.2.2.1 rfl<|RdK.upto ay (nl.keys.length-1) rfl oJ fun E ak=>oD h 5 rfl (ndV (xl.1,C,xl.2.2.1,xl.2.2.2)) fun aK h _=>oD h 5 rfl (ndV (xl.1,C,E,xl.2.2.2)) fun aL h _=>?_;have h:=oF h;refine oC h 5 rfl (xl.1,C,E,xl.2.2.2) rfl<|oC h 4 rfl (xr.1,y,z,xr.2.2.2) rfl<|oA h 4 rfl y rfl ?_;have e:=e.now h;have h:=qan h (.refl _);obtain⟨q0,qN,⟨qk,am,aA⟩,q4,q5⟩:=e.nodeR;have ar:0<qk.length:=by
    have:=congrArg List.length aA
    dsimp only at this;rw[qgc,zK,yH] at this;omega
   have aM:qk[0].2=pk[nl.keys.length-1].2:=(by rw[<- qds ar,aA];dsimp only;rw[qgc];rfl);refine Rds.getS am.1 0 rfl ar fun bb aB=>oD h 3 rfl (ndV (xl.1,C,E,xl.2.2.2)) fun aN h _=>qam (aB [] _ (am.1.frame (h.fr.mono fun b u _=>zoT u) fun _ h=>nomatch h)) (h.cell 4 rfl rfl) (h.cells 4 rfl rfl)<|oD h 2 rfl (ndV (xr.1,y,z,xr.2.2.2)) fun au h _=>qaq (aB [] _ (am.1.frame (h.fr.mono fun b u _=>zoT u) fun _ h=>nomatch h)) (h.cell 4 rfl rfl)<|oC h 3 rfl (xl.1,C,E,xl.2.2.2) rfl<|oC h 2 rfl (xr.1,y,z,xr.2.2.2) rfl ?_;have an:=qaQ (am.2 _ (zW ar)) h;rw[aM] at an;have e:=e.now h;have hR:=e.nodeR.weak (S':=Zo FD Y F) fun b u=>.inl (qi4 b u);rw[qgc,qgc] at hR;exact kk (xl.1,C,E,xl.2.2.2) (xr.1,y,z,xr.2.2.2) _ au (e.tw'.weakY fun b u=>by simp[u]) ⟨I.leaf,⟨fun a ha=>o.nb.1 a (yU ha),fun a ha=>o.nb.2.1 a (yU ha),o.nb.2.2⟩,⟨_,aj.frame (aa e) ab,by rw[qcC,o.keys]⟩,⟨_,ak.frame (aa e) ab,by rw[qcC,o.vals]⟩,o.ri.frame (aa e) ab⟩
    hR (an.frame (.refl _ _) fun b u=>.inl (qi4 b u)) e.fr
 ·rw[I.leaf] at hc;have aO:¬nl.leaf=true:=(by rw[hc];decide);have il:=sl.inner hc;have hG:giveN nl nr key=({ nl with keys:=nl.keys.take (nl.keys.length-1),kids:=nl.kids.take (nl.keys.length-1+1) },{ nr with keys:=key::nr.keys,kids:=nl.kids.getD (nl.keys.length-1+1) 0::nr.kids },nl.keys.getD (nl.keys.length-1) []):=(by unfold giveN;rw[if_neg aO]);have hi:nl.keys.length-1<pk.length:=oJ;have al:nl.keys.length-1+1<nl.kids.length:=oJ;rw[hG,o.keyAt hi,qdC al] at kk;have R:U32 nl.kids[nl.keys.length-1+1]:=o.nb.2.2 _ (zW al);have aP:wrap .i64 (((nl.keys.length-1:Nat):Int)+1)=((nl.keys.length-1+1:Nat):Int):=qbx oJ;rw[aP];have kw:∀ {w' T x' n' B'},Ed dbk pb FD D j (Br++F) Br w0 w' T (Bl++Y) F M x' n' B'->RdB (Zo FD (T++(B'++(Bl++Y))) F) w' ks key:=fun e=>hk.frame (e.fr.mono fun b u _=>U b (V b u)) (nZ e);refine oA h 3 rfl xl.2.1 rfl<|Rds.getS ((o.rk).frame0 h.fr) (nl.keys.length-1) rfl hi fun aX aY=>⟨?b1,?b2,?b3⟩;case' b1=>
   have h:=oF h;refine oA h 2 rfl xr.2.1 rfl<|oA h 2 rfl xr.2.2.2 rfl<|oA h 3 rfl xl.2.2.2 rfl<|Rds.getU ((o.ri).frame0 h.fr) (nl.keys.length-1+1) rfl al fun ac A=>oB h fun ad ae _ _ h=>?_;have e:=e0.now h;refine qaC (A _ _ (G e).ri) (h.cell 4 rfl rfl) (h.cell 3 rfl rfl) (h.cell 3 rfl rfl)<|e.insK h (i:=0) (yW _) rfl oJ 0 rfl (kw e) ao fun y B1 af e h _=>qam (A _ _ (G e).ri) (h.cell 4 rfl rfl) (h.cell 3 rfl rfl)<|oB h fun ag ah _ _ h=>?_;have e:=e.now h;refine qaq (h.cell 4 rfl rfl) (h.cell 4 rfl rfl)<|e.insI h (i:=0) (yW _) rfl oN 0 rfl R fun z B2 ai e h _=>?_
  case' b2=>
   have h:=oF h;refine oA h 2 rfl xr.2.1 rfl<|oA h 2 rfl xr.2.2.2 rfl<|oA h 3 rfl xl.2.2.2 rfl<|Rds.getU ((o.ri).frame0 h.fr) (nl.keys.length-1+1) rfl al fun ac A=>oB h fun ad ae _ _ h=>qaC (A _ _ (G (e0.now h)).ri) (h.cell 4 rfl rfl) (h.cell 3 rfl rfl) (h.cell 3 rfl rfl)<|oB h fun ag ah _ _ h=>?_;have e:=e0.now h;refine qaq (h.cell 4 rfl rfl) (h.cell 4 rfl rfl)<|e.insK h (i:=0) (yW _) rfl oJ 1 rfl (kw e) ao fun y B1 af e h _=>qam (A _ _ (G e).ri) (h.cell 5 rfl rfl) (h.cell 4 rfl rfl)<|e.insI h (i:=0) (yW _) rfl oN 0 rfl R fun z B2 ai e h _=>?_
  case' b3=>
   have h:=oF h;refine oA h 2 rfl xr.2.1 rfl<|oA h 2 rfl xr.2.2.2 rfl<|oA h 3 rfl xl.2.2.2 rfl<|Rds.getU ((o.ri).frame0 h.fr) (nl.keys.length-1+1) rfl al fun ac A=>oB h fun ad ae _ _ h=>qaq (h.cell 3 rfl rfl) (h.cell 3 rfl rfl)<|oB h fun ag ah _ _ h=>?_;have e:=e0.now h;refine qaC (A _ _ (G e).ri) (h.cell 5 rfl rfl) (h.cell 4 rfl rfl) (h.cell 4 rfl rfl)<|e.insK h (i:=0) (yW _) rfl oJ 0 rfl (kw e) ao fun y B1 af e h _=>qam (A _ _ (G e).ri) (h.cell 5 rfl rfl) (h.cell 4 rfl rfl)<|e.insI h (i:=0) (yW _) rfl oN 1 rfl R fun z B2 ai e h _=>?_
  all_goals
   refine oD h 4 rfl (ndV (xr.1,y,xr.2.2.1,xr.2.2.2)) fun aI h _=>oD h 4 rfl (ndV (xr.1,y,xr.2.2.1,z)) fun aJ h _=>?_;have h:=oF h;refine oA h 5 rfl xl.2.1 rfl<|RdK.upto ax (nl.keys.length-1) rfl oJ fun C aj=>oA h 5 rfl xl.2.2.2 rfl<|Rds.upto1 o.ri (nl.keys.length-1+1) rfl oJ fun E ak=>oD h 5 rfl (ndV (xl.1,C,xl.2.2.1,xl.2.2.2)) fun aK h _=>oD h 5 rfl (ndV (xl.1,C,xl.2.2.1,E)) fun aL h _=>?_;have h:=oF h;refine oC h 5 rfl (xl.1,C,xl.2.2.1,E) rfl<|oC h 4 rfl (xr.1,y,xr.2.2.1,z) rfl<|oD h 3 rfl (ndV (xl.1,C,xl.2.2.1,E)) fun aN h _=>qai (h.cells 4 rfl rfl)<|oD h 2 rfl (ndV (xr.1,y,xr.2.2.1,z)) fun au h _=>oC h 3 rfl (xl.1,C,xl.2.2.1,E) rfl<|oC h 2 rfl (xr.1,y,xr.2.2.1,z) rfl ?_;have e:=e.now h;have hR:=e.nodeR.weak (S':=Zo FD Y F) fun b u=>.inl (qi4 b u);rw[qgc,qgc] at hR;exact kk (xl.1,C,xl.2.2.1,E) (xr.1,y,xr.2.2.1,z) _ au (e.tw'.weakY fun b u=>by simp[u]) ⟨I.leaf,⟨fun a ha=>o.nb.1 a (yU ha),o.nb.2.1,fun a ha=>o.nb.2.2 a (yU ha)⟩,⟨_,aj.frame (aa e) ab,by rw[qcC,o.keys]⟩,⟨_,ay.frame (aa e) ab,o.vals⟩,ak.frame (aa e) ab⟩
    hR (((G e).ek _ (zW hi)).frame (.refl _ _) fun b u=>.inl (by simp only[Zo,zD,zG] at u⊢;rcases u with (u|u|u)|u<;>simp[u])) e.fr
end
end
section
section
variable {dbk pb j:Nat} {FD Y F Bl Br:List Nat} {D:DiskM} {w0:World} {M:PgM} {xl xr:NdC} {nl nr:NodeM} {ks:Sl} {key:Key}
def quQ{K:NdC×NdC×Sl->WP}(hT:TW dbk pb FD D j w0 (Bl++(Br++Y)) F M)(hl:NodeB (Zo FD (Bl++(Br++Y)) F) w0 xl nl Bl)(hr:NodeB (Zo FD (Bl++(Br++Y)) F) w0 xr nr Br)(d1:∀b∈Bl,b∉Br)(d2:∀b∈Bl,b∉Y)(d3:∀b∈Br,b∉Y)(hk:RdB (Zo FD (Bl++(Br++Y)) F) w0 ks key)(am:IsB key)(au:nl.leaf=nr.leaf)(h1:1<=nr.keys.length)(h2:nr.leaf=true->2<=nr.keys.length)(sl:ShapeN nl)(sr:ShapeN nr)(kk:∀yl yr av w',TW dbk pb FD D j w' Y F M->NodeR (Zo FD Y F) w' yl (takeN nl nr key).1->NodeR (Zo FD Y F) w' yr (takeN nl nr key).2.1->RdB (Zo FD Y F) w' av (takeN nl nr key).2.2->Fr (Bl++F) w0 w'->K (yl,yr,av) w'): cW 195 [.agg (ndV xl),.agg (ndV xr),ks.v] [.agg qab,.agg qab,.one .slice] w0 K:=by
 refine qpI ?_;unfold ql1 qdJ qdK;obtain⟨pk,pv,o⟩:=hr.opn (S0:=Bl++Zo FD Y F) fun b u R=>by rcases zD.1 R with R|R;exact d1 b R u;have h0:=hT.sep b (by simp[u]);simp only[Zo,zD,zG] at R;rcases R with (R|R|R)|R;exact h0.1 R;exact h0.2 R;exact d3 b u R;exact hT.yf b (by simp[u]) R
 have e0:Ed dbk pb FD D j (Bl++F) Bl w0 w0 [] (Br++Y) F M xl nl Bl:=⟨⟨.refl _ _,fun b u=>.inl (by simp[u]),fun _ h=>nomatch h⟩,hT,hl,fun _ h=>(nomatch h),fun b u=>.inl u,fun b u=>by simp[u],fun b u R=>(zD.1 R).elim (d1 b u) (d2 b u)⟩;have V:∀b∈Bl++Zo FD Y F,b∈Zo FD (Bl++(Br++Y)) F:=fun b u=>by simp only[Zo,zD,zG] at u⊢;rcases u with u|(u|u|u)|u<;>simp[u]
 have aa:∀b∈Bl++F,b∈Bl++Zo FD Y F:=fun b u=>by simp only[Zo,zD,zG] at u⊢;rcases u with u|u<;>simp[u]
 have nZ:∀ {w' T x' n' B'},Ed dbk pb FD D j (Bl++F) Bl w0 w' T (Br++Y) F M x' n' B'->NewZ (Zo FD (Bl++(Br++Y)) F) w0 (Zo FD (T++(B'++(Br++Y))) F):=fun e b u=>by simp only[Zo,zD,zG] at u;rcases u with (u|u|u|u|u|u)|u;exact .inl (by simp[u]);exact .inl (by simp[u]);exact (e.sg.own b u).imp (fun h=>V b (aa b h)) id;exact (e.bnew b u).imp (fun h=>V b (aa b (e.nsub b h))) id;exact .inl (by simp[u]);exact .inl (by simp[u]);exact .inl (by simp[u])
 have E:∀ {w' T x' n' B'},Ed dbk pb FD D j (Bl++F) Bl w0 w' T (Br++Y) F M x' n' B'->Opn (Bl++Zo FD Y F) (Zo FD (T++(B'++(Br++Y))) F) w' xr nr pk pv:=fun e=>o.frame e.fr aa (fun b u=>V b (aa b u)) (fun b u=>.inl u) (nZ e);have aw:=o.rdK V;have ax:=o.rdV V;have I:∀ {w' T x' n' B'},Ed dbk pb FD D j (Bl++F) Bl w0 w' T (Br++Y) F M x' n' B'->Fr (Bl++Zo FD Y F) w0 w':=fun e=>e.fr.mono fun b u _=>aa b u;have ab:∀b∈Zo FD Y F,b∈Bl++Zo FD Y F\/w0.heap.size<=b:=fun b u=>.inl (zI _ u);have ah:=o.lens;have kl:=o.klen;have vl:=o.vlen;have sk:=sr.keys;have bb:=sl.keys;have bc:=sl.vals;have bd:=sl.kids;have h:=oE [] w0;refine oB h fun r1 w2 _ _ h=>oB h fun r3 w4 _ _ h=>oB h fun r5 w6 _ _ h=>oB h fun r7 w8 _ _ h=>oA h 3 rfl xl.1 rfl ?_;apply qaa<;>intro hc
 ·rw[hl.1] at hc;have ay:nr.leaf=true:=(by rw[<- au];exact hc);have h2:=h2 ay;have bf:=sr.leaf ay;have hG:takeN nl nr key=({ nl with keys:=nl.keys++[nr.keys.getD 0 []],vals:=nl.vals++[nr.vals.getD 0 []] },{ nr with keys:=nr.keys.drop 1,vals:=nr.vals.drop 1 },(nr.keys.drop 1).getD 0 []):=(by unfold takeN;rw[if_pos hc]);have hi:0<pk.length:=oJ;have J:0<pv.length:=oJ;have ao:0<(pk.drop 1).length:=(by rw[yB];omega);have aP:(nr.keys.drop 1).getD 0 []=(pk.drop 1)[0].2:=(by rw[<- o.keys,<- qb6,qds ao]);rw[hG,o.keyAt hi,o.valAt J,aP] at kk;have U:IsB pk[0].2:=(by rw[<- o.keyAt hi];exact qa7 o.nb.1 _);have ap:IsB pv[0].2:=(by rw[<- o.valAt J];exact qa7 o.nb.2.1 _);refine⟨?a1,?a2,?a3⟩;case' a1=>
   have h:=oF h;refine oA h 3 rfl xl.2.1 rfl<|oA h 2 rfl xr.2.1 rfl<|Rds.getS ((o.rk).frame0 h.fr) 0 rfl hi fun az ac=>oA h 3 rfl xl.2.2.1 rfl<|oA h 2 rfl xr.2.2.1 rfl<|Rds.getS ((o.rv).frame0 h.fr) 0 rfl J fun aA O=>oB h fun aB aC _ _ h=>?_;have e:=e0.now h;refine qaC (O _ _ (E e).rv) (h.cell 3 rfl rfl) (h.cell 4 rfl rfl) (h.cell 4 rfl rfl)<|e.appK h oJ 0 rfl ((E e).ek _ (zW hi)) U fun y B1 aD e h _=>qam (O _ _ (E e).rv) (h.cell 3 rfl rfl) (h.cell 4 rfl rfl)<|oB h fun aE aF _ _ h=>?_;have e:=e.now h;refine qaC (h.cell 5 rfl rfl) (ac _ _ (E e).rk) (h.cell 4 rfl rfl) (h.cell 5 rfl rfl)<|e.appV h oN 0 rfl ((E e).ev _ (zW J)) ap fun z B2 aG e h _=>?_
  case' a2=>
   have h:=oF h;refine oA h 3 rfl xl.2.1 rfl<|oA h 2 rfl xr.2.1 rfl<|Rds.getS ((o.rk).frame0 h.fr) 0 rfl hi fun az ac=>oA h 3 rfl xl.2.2.1 rfl<|oA h 2 rfl xr.2.2.1 rfl<|Rds.getS ((o.rv).frame0 h.fr) 0 rfl J fun aA O=>oB h fun aB aC _ _ h=>qaC (O _ _ (E (e0.now h)).rv) (h.cell 3 rfl rfl) (h.cell 4 rfl rfl) (h.cell 4 rfl rfl)<|oB h fun aE aF _ _ h=>?_;have e:=e0.now h;refine qaC (h.cell 5 rfl rfl) (ac _ _ (E e).rk) (h.cell 4 rfl rfl) (h.cell 5 rfl rfl)<|e.appK h oJ 1 rfl ((E e).ek _ (zW hi)) U fun y B1 aD e h _=>qam (O _ _ (E e).rv) (h.cell 4 rfl rfl) (h.cell 5 rfl rfl)<|e.appV h oN 0 rfl ((E e).ev _ (zW J)) ap fun z B2 aG e h _=>?_
  case' a3=>
   have h:=oF h;refine oA h 3 rfl xl.2.1 rfl<|oA h 2 rfl xr.2.1 rfl<|Rds.getS ((o.rk).frame0 h.fr) 0 rfl hi fun az ac=>oA h 3 rfl xl.2.2.1 rfl<|oA h 2 rfl xr.2.2.1 rfl<|Rds.getS ((o.rv).frame0 h.fr) 0 rfl J fun aA O=>oB h fun aB aC _ _ h=>qaC (h.cell 4 rfl rfl) (ac _ _ (E (e0.now h)).rk) (h.cell 3 rfl rfl) (h.cell 4 rfl rfl)<|oB h fun aE aF _ _ h=>?_;have e:=e0.now h;refine qaC (O _ _ (E e).rv) (h.cell 4 rfl rfl) (h.cell 5 rfl rfl) (h.cell 5 rfl rfl)<|e.appK h oJ 0 rfl ((E e).ek _ (zW hi)) U fun y B1 aD e h _=>qam (O _ _ (E e).rv) (h.cell 4 rfl rfl) (h.cell 5 rfl rfl)<|e.appV h oN 1 rfl ((E e).ev _ (zW J)) ap fun z B2 aG e h _=>?_
  all_goals
   refine oD h 5 rfl (ndV (xl.1,y,xl.2.2.1,xl.2.2.2)) fun ag h _=>oD h 5 rfl (ndV (xl.1,y,z,xl.2.2.2)) fun aQ h _=>?_;have h:=oF h;refine oA h 4 rfl xr.2.1 rfl<|RdK.from aw 1 rfl oJ fun A G=>oA h 4 rfl xr.2.2.1 rfl<|RdK.from ax 1 rfl oJ fun C ad=>oD h 4 rfl (ndV (xr.1,A,xr.2.2.1,xr.2.2.2)) fun aR h _=>oD h 4 rfl (ndV (xr.1,A,C,xr.2.2.2)) fun aS h _=>?_;have h:=oF h;refine oC h 5 rfl (xl.1,y,z,xl.2.2.2) rfl<|oC h 4 rfl (xr.1,A,C,xr.2.2.2) rfl<|oA h 4 rfl A rfl<|Rds.getS (G.frame (I (e.now h)) fun b u=>.inl u).1 0 rfl ao fun bg aH=>oD h 3 rfl (ndV (xl.1,y,z,xl.2.2.2)) fun aT h _=>qam (aH _ _ (G.frame (I (e.now h)) fun b u=>.inl u).1) (h.cell 4 rfl rfl) (h.cells 4 rfl rfl)<|oD h 2 rfl (ndV (xr.1,A,C,xr.2.2.2)) fun aq h _=>qaq (aH _ _ (G.frame (I (e.now h)) fun b u=>.inl u).1) (h.cell 4 rfl rfl)<|oC h 3 rfl (xl.1,y,z,xl.2.2.2) rfl<|oC h 2 rfl (xr.1,A,C,xr.2.2.2) rfl ?_;have e:=e.now h;have hR:=e.nodeR.weak (S':=Zo FD Y F) fun b u=>.inl (qi4 b u);have ae:=G.frame (I e) ab;exact kk (xl.1,y,z,xl.2.2.2) (xr.1,A,C,xr.2.2.2) _ aq (e.tw'.weakY fun b u=>by simp[u]) hR ⟨ah.leaf,⟨fun a ha=>o.nb.1 a (yT ha),fun a ha=>o.nb.2.1 a (yT ha),o.nb.2.2⟩,⟨_,ae,by rw[qb6,o.keys]⟩,⟨_,ad.frame (I e) ab,by rw[qb6,o.vals]⟩,o.ri.frame (I e) ab⟩
    (ae.2 _ (zW ao)) e.fr
 ·rw[hl.1] at hc;have aV:¬nl.leaf=true:=(by rw[hc];decide);have il:=sr.inner (by rw[<- au];exact hc);have hG:takeN nl nr key=({ nl with keys:=nl.keys++[key],kids:=nl.kids++[nr.kids.getD 0 0] },{ nr with keys:=nr.keys.drop 1,kids:=nr.kids.drop 1 },nr.keys.getD 0 []):=(by unfold takeN;rw[if_neg aV]);have hi:0<pk.length:=oJ;have af:0<nr.kids.length:=oJ;rw[hG,o.keyAt hi,qdC af] at kk;have U:U32 nr.kids[0]:=o.nb.2.2 _ (zW af);have kw:∀ {w' T x' n' B'},Ed dbk pb FD D j (Bl++F) Bl w0 w' T (Br++Y) F M x' n' B'->RdB (Zo FD (T++(B'++(Br++Y))) F) w' ks key:=fun e=>hk.frame (e.fr.mono fun b u _=>V b (aa b u)) (nZ e);refine oA h 2 rfl xr.2.1 rfl<|Rds.getS ((o.rk).frame0 h.fr) 0 rfl hi fun a6 a7=>⟨?b1,?b2,?b3⟩;case' b1=>
   have h:=oF h;refine oA h 3 rfl xl.2.1 rfl<|oA h 3 rfl xl.2.2.2 rfl<|oA h 2 rfl xr.2.2.2 rfl<|Rds.getU ((o.ri).frame0 h.fr) 0 rfl af fun aI Q=>oB h fun ai aj _ _ h=>?_;have e:=e0.now h;refine qaC (Q _ _ (E e).ri) (h.cell 3 rfl rfl) (h.cell 4 rfl rfl) (h.cell 4 rfl rfl)<|e.appK h oJ 0 rfl (kw e) am fun y B1 aJ e h _=>qam (Q _ _ (E e).ri) (h.cell 3 rfl rfl) (h.cell 4 rfl rfl)<|oB h fun ak al _ _ h=>?_;have e:=e.now h;refine qaq (h.cell 5 rfl rfl) (h.cell 5 rfl rfl)<|e.appI h oN 0 rfl U fun z B2 ag e h _=>?_
  case' b2=>
   have h:=oF h;refine oA h 3 rfl xl.2.1 rfl<|oA h 3 rfl xl.2.2.2 rfl<|oA h 2 rfl xr.2.2.2 rfl<|Rds.getU ((o.ri).frame0 h.fr) 0 rfl af fun aI Q=>oB h fun ai aj _ _ h=>qaC (Q _ _ (E (e0.now h)).ri) (h.cell 3 rfl rfl) (h.cell 4 rfl rfl) (h.cell 4 rfl rfl)<|oB h fun ak al _ _ h=>?_;have e:=e0.now h;refine qaq (h.cell 5 rfl rfl) (h.cell 5 rfl rfl)<|e.appK h oJ 1 rfl (kw e) am fun y B1 aJ e h _=>qam (Q _ _ (E e).ri) (h.cell 4 rfl rfl) (h.cell 5 rfl rfl)<|e.appI h oN 0 rfl U fun z B2 ag e h _=>?_
  case' b3=>
   have h:=oF h;refine oA h 3 rfl xl.2.1 rfl<|oA h 3 rfl xl.2.2.2 rfl<|oA h 2 rfl xr.2.2.2 rfl<|Rds.getU ((o.ri).frame0 h.fr) 0 rfl af fun aI Q=>oB h fun ai aj _ _ h=>qaq (h.cell 4 rfl rfl) (h.cell 4 rfl rfl)<|oB h fun ak al _ _ h=>?_;have e:=e0.now h;refine qaC (Q _ _ (E e).ri) (h.cell 4 rfl rfl) (h.cell 5 rfl rfl) (h.cell 5 rfl rfl)<|e.appK h oJ 0 rfl (kw e) am fun y B1 aJ e h _=>qam (Q _ _ (E e).ri) (h.cell 4 rfl rfl) (h.cell 5 rfl rfl)<|e.appI h oN 1 rfl U fun z B2 ag e h _=>?_
  all_goals
   refine oD h 5 rfl (ndV (xl.1,y,xl.2.2.1,xl.2.2.2)) fun ag h _=>oD h 5 rfl (ndV (xl.1,y,xl.2.2.1,z)) fun aQ h _=>?_;have h:=oF h;refine oA h 4 rfl xr.2.1 rfl<|RdK.from aw 1 rfl oJ fun A G=>oA h 4 rfl xr.2.2.2 rfl<|Rds.from1 o.ri 1 rfl oJ fun C ad=>oD h 4 rfl (ndV (xr.1,A,xr.2.2.1,xr.2.2.2)) fun aR h _=>oD h 4 rfl (ndV (xr.1,A,xr.2.2.1,C)) fun aS h _=>?_;have h:=oF h;refine oC h 5 rfl (xl.1,y,xl.2.2.1,z) rfl<|oC h 4 rfl (xr.1,A,xr.2.2.1,C) rfl<|oD h 3 rfl (ndV (xl.1,y,xl.2.2.1,z)) fun aT h _=>qai (h.cells 4 rfl rfl)<|oD h 2 rfl (ndV (xr.1,A,xr.2.2.1,C)) fun aq h _=>oC h 3 rfl (xl.1,y,xl.2.2.1,z) rfl<|oC h 2 rfl (xr.1,A,xr.2.2.1,C) rfl ?_;have e:=e.now h;have hR:=e.nodeR.weak (S':=Zo FD Y F) fun b u=>.inl (qi4 b u);exact kk (xl.1,y,xl.2.2.1,z) (xr.1,A,xr.2.2.1,C) _ aq (e.tw'.weakY fun b u=>by simp[u]) hR ⟨ah.leaf,⟨fun a ha=>o.nb.1 a (yT ha),o.nb.2.1,fun a ha=>o.nb.2.2 a (yT ha)⟩,⟨_,G.frame (I e) ab,by rw[qb6,o.keys]⟩,⟨_,ax.frame (I e) ab,o.vals⟩,ad.frame (I e) ab⟩
    (((E e).ek _ (zW hi)).frame (.refl _ _) fun b u=>.inl (by simp only[Zo,zD,zG] at u⊢;rcases u with (u|u|u)|u<;>simp[u])) e.fr
end
end
section
section
variable {dbk pb j:Nat} {FD S S0 S1 N0 Y Y1 F F' T B Bl Br Bn:List Nat} {D:DiskM} {w0 wa w w':World} {M M':PgM} {L:List (Nat×Obj)} {x xl xr:NdC} {n nl nr:NodeM} {k v:Nat} {t:Int}
def qvP(g:Sg S0 w0 wa F T)(u:∀b∈S0,b∈S1):Sg S1 w0 wa F T:=⟨g.tot.mono fun b h _=>u b h,fun b h=>(g.new b h).imp (u b) id,fun b h=>(g.own b h).imp (u b) id⟩
structure Oth (FD F:List Nat) (w:World) (T R:List Nat) (x:NdC) (n:NodeM) (B:List Nat):Prop where
 node:NodeB (Zo FD (T++R) F) w x n B
 sep:∀ b∈T,b∉B
def Oth.now(o:Oth FD F wa T R x n B)(h:Own T wa w L):Oth FD F w (bks L) R x n B:=
 ⟨o.node.frame h.fr (fun b u y=>o.sep b y u) (fun b u=>.inl (by simp[u])) (ql5 h),fun b u y=>by
  obtain⟨q,A,rfl⟩:=mem_map.1 u;rcases h.own q A with z|z;exact o.sep _ z y
  have:=o.node.lt _ y;omega⟩
def Ed.base(e:Ed dbk pb FD D j S0 N0 w0 w T Y F M x n B)(y:∀b∈S0,b∈Z)(z:∀b∈FD,b∈Z)(A:HG∈Z)(C:∀b∈Y,b∈Z):NewZ Z w0 (Zo FD (T++(B++Y)) F):=fun b u=>by simp only[Zo,zD,zG] at u;rcases u with (u|u|u|u|u)|u;exact .inl (z b u);rw[u];exact .inl A;exact (e.sg.own b u).imp (y b) id;exact (e.bnew b u).imp (fun h=>y b (e.nsub b h)) id;exact .inl (C b u);exact (e.sg.new b u).imp (y b) id
def Ed.other(e:Ed dbk pb FD D j S0 N0 w0 w T Y F M x n B)(R:NodeB Z w0 xl nl Bn)(J:∀b∈Bn,b∉S0)(K:∀b∈S0,b∈Z)(A:∀b∈FD,b∈Z)(C:HG∈Z)(U:∀b∈Y,b∈Z)(y:∀b∈Bn++Y1,b∈Y)(E:∀b∈Bn,b∉Y1)(G:∀b∈Bn,b<w0.heap.size): Ed dbk pb FD D j (Bn++S0) Bn w0 w T Y1 F M xl nl Bn:=by
 have V:=e.base K A C U;have z:∀b∈Zo FD (T++(Bn++Y1)) F,b∈Zo FD (T++(B++Y)) F:=fun b u=>by simp only[Zo,zD,zG] at u⊢;have I:=fun h=>y b h;simp only[zD] at I;rcases u with (u|u|u|u|u)|u;simp[u];simp[u];simp[u];simp[I (.inl u)];simp[I (.inr u)];simp[u]
 refine⟨qvP e.sg fun b u=>zI _ u,e.tw.weakY fun b u=>?_,R.frame e.fr J (fun b u=>.inl (K b u)) fun b u=>V b (z b u),fun b u O=>?_,fun b u=>.inl u,fun b u=>zH _ u,E⟩;rcases zD.1 u with u|u;simp[u];exact zI _ (zI _ (y b u));rcases e.sg.own b u with Q|Q;exact J b O Q
 have:=G b O;omega
def qws:∀b∈Bn++(Br++Y),b∈Zo FD (Bl++(Bn++(Br++Y))) F:=fun b u=>by simp only[Zo,zD,zG] at u⊢;rcases u with h|h|h<;>simp[h]
def qv5:∀b∈Bn++Y,b∈Bn++(Br++Y):=fun b u=>by simp only[zD] at u⊢;rcases u with h|h<;>simp[h]
def qv6:∀b∈Zo FD (T++(Bn++Y)) F,b∈Zo FD (T++(Bn++(Br++Y))) F:=fun b u=>by simp only[Zo,zD,zG] at u⊢;rcases u with (h|h|h|h|h)|h<;>simp[h]
def qut{K:NdC×Int->WP}(hT:TW dbk pb FD D j w0 (Bl++(Bn++(Br++Y))) F M)(hl:NodeB (Zo FD (Bl++(Bn++(Br++Y))) F) w0 xl nl Bl)(hn:NodeB (Zo FD (Bl++(Bn++(Br++Y))) F) w0 x n Bn)(hr:NodeB (Zo FD (Bl++(Bn++(Br++Y))) F) w0 xr nr Br)(d1:∀b∈Bl,b∉Bn)(d2:∀b∈Bl,b∉Br)(d3:∀b∈Bl,b∉Y)(d4:∀b∈Bn,b∉Br)(d5:∀b∈Bn,b∉Y)(sl:ShapeN nl)(sr:ShapeN nr)(sn:ShapeN n)(hi:i<n.keys.length)(ax:n.leaf=false)(J:∀yn B' F' w',TW dbk pb FD D j w' (B'++Y) F' (joinM k v M n i nl nr).2->NodeB (Zo FD (B'++Y) F') w' yn (joinM k v M n i nl nr).1.1 B'->Fr (Bn++(Bl++F)) w0 w'->(∀b∈B',b∈Bn\/w0.heap.size<=b)->(∀b∈F',b∈Bn++(Bl++F)\/w0.heap.size<=b)->K (yn,(joinM k v M n i nl nr).1.2) w'): cW 193 [.agg (wkV (wkX k v pb t)),.agg (ndV x),.i i,.agg (ndV xl),.agg (ndV xr)] [.agg qab,.one .i] w0 K:=by
 refine qjy ?_;unfold qfP;have e0:Ed dbk pb FD D j (Bl++F) Bl w0 w0 [] (Bn++(Br++Y)) F M xl nl Bl:=⟨⟨.refl _ _,fun b u=>.inl (by simp[u]),fun _ h=>nomatch h⟩,hT,hl,fun _ h=>(nomatch h),fun b u=>.inl u,fun b u=>by simp[u],fun b u E=>by simp only[zD] at E;rcases E with E|E|E;exact d1 b u E;exact d2 b u E;exact d3 b u E⟩;have hF:∀ {Bx:List Nat},(∀b∈Bx,b∈Bn\/b∈Br)->(∀b∈Bx,b∉Bl)->∀b∈Bx,b∉Bl++F:=fun h1 h2 b u E=>(zD.1 E).elim (h2 b u) fun E=>hT.yf b (by rcases h1 b u with h|h<;>simp[h]) E;have dn:=hF (Bx:=Bn) (fun b u=>.inl u) fun b u E=>d1 b E u;obtain⟨nk,nv,on⟩:=hn.opn (S0:=Bl++F) dn;obtain⟨rk,rv,C⟩:=hr.opn (S0:=Bl++F) (hF (fun b u=>.inr u) fun b u E=>d2 b E u);have V:∀b∈Bl++F,b∈Zo FD (Bl++(Bn++(Br++Y))) F:=fun b u=>by rcases zD.1 u with u|u<;>simp[u]
 have nZ:∀ {w' T x' n' B'},Ed dbk pb FD D j (Bl++F) Bl w0 w' T (Bn++(Br++Y)) F M x' n' B'->NewZ (Zo FD (Bl++(Bn++(Br++Y))) F) w0 (Zo FD (T++(B'++(Bn++(Br++Y)))) F):=fun e=>e.base V (fun b u=>by simp[u]) oL fun b u=>by simp only[Zo,zD,zG] at u⊢;rcases u with h|h|h<;>simp[h]
 have nw:∀ {w' T x' n' B'},Ed dbk pb FD D j (Bl++F) Bl w0 w' T (Bn++(Br++Y)) F M x' n' B'->Opn (Bl++F) (Zo FD (T++(B'++(Bn++(Br++Y)))) F) w' x n nk nv:=fun e=>on.frame e.fr (fun b u=>u) V (fun b u=>.inl u) (nZ e);have Q:∀ {w' T x' n' B'},Ed dbk pb FD D j (Bl++F) Bl w0 w' T (Bn++(Br++Y)) F M x' n' B'->Opn (Bl++F) (Zo FD (T++(B'++(Bn++(Br++Y)))) F) w' xr nr rk rv:=fun e=>C.frame e.fr (fun b u=>u) V (fun b u=>.inl u) (nZ e);have aa:i<nk.length:=(by rw[on.klen];exact hi);have a0:=sn.inner ax;have ab:i<n.kids.length:=oJ;have ad:i+1<n.kids.length:=oJ;have z1:=sl.keys;have z2:=sl.vals;have z3:=sl.kids;have z4:=sr.keys;have z5:=sr.vals;have z6:=sr.kids;have z7:=sn.keys;have z8:=sn.kids;have a1:=C.klen;have a2:=C.vlen;have h:=oE [] w0;refine oB h fun r1 w2 _ _ h=>oB h fun r3 w4 _ _ h=>oB h fun r5 w6 _ _ h=>oB h fun r7 w8 _ _ h=>oB h fun r9 a3 _ _ h=>qaf (fun _ w'=>∃G B',Own [r9,r7,r5,r3,r1] w' w' [(r9,.cells (ndV zeroX) ND (0,0)),(r7,.cells (ndV xr) ND (0,0)),(r5,.cells (ndV (xl.1,G,xl.2.2)) ND (0,0)),(r3,.cells (ndV x) ND (0,0)),(r1,.cells (wkV (wkX k v pb t)) WK (0,0))]/\
  Ed dbk pb FD D j (Bl++F) Bl w0 w' [r9,r7,r5,r3,r1] (Bn++(Br++Y)) F M (xl.1,G,xl.2.2) { nl with keys:=if nl.leaf then nl.keys else nl.keys++[n.keys.getD i []] } B') ?_ ?_
 refine oA h 2 rfl xl.1 rfl ?_;apply qaa<;>intro z;have z:nl.leaf=false:=(by rw[hl.1,zT] at z;exact z);rw[if_neg (show ¬nl.leaf=true by rw[z];decide),on.keyAt aa];have h:=oF h;refine oA h 2 rfl xl.2.1 rfl<|oA h 3 rfl x.2.1 rfl<|Rds.get (on.rk.frame0 h.fr) i rfl (x:=nk[i].1) (by rw[zQ,zA aa];rfl) (y:=nk[i].1) rfl<|oB h fun a4 a5 _ _ h=>qai (h.cell 3 rfl rfl) ?_;have e:=e0.now h;exact e.appK h oJ 0 rfl ((nw e).ek _ (zW aa)) (by rw[<- on.keyAt aa];exact qa7 on.nb.1 _) fun G B1 a6 e h _=>oD h 3 rfl (ndV (xl.1,G,xl.2.2)) fun a7 h _=>⟨G,B1,qan h (.cons _ (.refl _)),(e.now h).sub oL⟩;have z:nl.leaf=true:=(by rw[hl.1,yD] at z;exact z);rw[if_pos z];exact⟨xl.2.1,Bl,qan h (.refl _),e0.now h⟩;rintro _ a8 ⟨G,B1,h,e⟩;have e:=e.now h;have h:=qan h (.refl _);refine oA h 2 rfl G rfl<|oA h 1 rfl xr.2.1 rfl ?_;have aP:(if nl.leaf then nl.keys else nl.keys++[n.keys.getD i []]).length<=2001:=by split;omega;rw[zF,xI];omega
 refine e.appAllK h oN (Q e).rk (Q e).ek (by rw[C.keys];exact C.nb.1) fun R B2 a9 e h _=>?_;rw[C.keys] at e;refine oD h 2 rfl (ndV (xl.1,R,xl.2.2.1,xl.2.2.2)) fun a' h _=>oA h 2 rfl xl.2.2.1 rfl<|oA h 1 rfl xr.2.2.1 rfl ?_;have e:=e.now h;refine e.appAllV h oN (Q e).rv (Q e).ev (by rw[C.vals];exact C.nb.2.1) fun ac B3 ba e h _=>?_;rw[C.vals] at e;refine oD h 2 rfl (ndV (xl.1,R,ac,xl.2.2.2)) fun bb h _=>oA h 2 rfl xl.2.2.2 rfl<|oA h 1 rfl xr.2.2.2 rfl ?_;have e:=e.now h;refine e.appAllI h oN (Q e).ri C.nb.2.2 fun ae B4 bc e h _=>oD h 2 rfl (ndV (xl.1,R,ac,ae)) fun bd h _=>?_;have h:=oF h;have e:=e.now h;have h:=qan h (.refl _);refine oC h 4 rfl (wkX k v pb t) rfl<|oA h 3 rfl x.2.2.2 rfl<|Rds.get (nw e).ri i rfl (x:=n.kids[i]) (zA ab) (y:=n.kids[i]) rfl<|oC h 2 rfl (xl.1,R,ac,ae) rfl ?_;have hJ:({ leaf:=nl.leaf,keys:=(if nl.leaf then nl.keys else nl.keys++[n.keys.getD i []])++nr.keys,vals:=nl.vals++nr.vals,kids:=nl.kids++nr.kids }:NodeM)=joinN nl nr (n.keys.getD i []):=rfl;have ay:n.kids.getD i 0=n.kids[i]:=qdC ab;have al:n.kids.getD (i+1) 0=n.kids[i+1]:=qdC ad;unfold joinM at J;rw[ay,al,<- hJ] at J;have az:=e.nodeR.weak (fun b u=>.inl (qv6 b u));have e:=e.other hn dn V (fun b u=>by simp[u]) oL qws (Y1:=Y) qv5 d5 hn.lt;refine qbn e.tw az (by dsimp only;rw[zF];omega) (by dsimp only;rw[zF];omega) (by dsimp only;rw[zF];omega) fun F1 bh am aA aB=>?_;obtain⟨e,h⟩:=e.next h am aA aB
 generalize aC:storeN k v M n.kids[i] { leaf:=nl.leaf,keys:=(if nl.leaf then nl.keys else nl.keys++[n.keys.getD i []])++nr.keys,vals:=nl.vals++nr.vals,kids:=nl.kids++nr.kids }=st at J e⊢;have hu:U32 st.1.1:=(by rw[<- aC];exact qbo hT.wf (hn.2.1.2.2 _ (zW ab)));obtain⟨⟨bi,I⟩,M1⟩:=st;dsimp only at J e hu⊢;refine qaf (fun er w'=>∃F2,er=(if I=0 then (dropV M1 n.kids[i+1]).1 else I)/\Own [r9,r7,r5,r3,r1] w' w' [(r9,.cells (ndV zeroX) ND (0,0)),(r7,.cells (ndV xr) ND (0,0)),(r5,.cells (ndV (xl.1,R,ac,ae)) ND (0,0)),(r3,.cells (ndV x) ND (0,0)),(r1,.cells (wkV (wkX k v pb t)) WK (0,0))]/\
  Ed dbk pb FD D j (Bn++(Bl++F)) Bn w0 w' [r9,r7,r5,r3,r1] Y F2 (if I=0 then (dropV M1 n.kids[i+1]).2 else M1) x n Bn) ?_ ?_
 apply qaa<;>intro z;have z:I=0:=yO.1 z;rw[if_pos z,if_pos z];have h:=oF h;refine oA h 4 rfl (pW pb) rfl<|oA h 3 rfl x.2.2.2 rfl ?_;have e:=e.now h;have ew:wrap .i64 ((i:Int)+1)=((i+1:Nat):Int):=qbx oJ;refine Rds.get e.kidsR (i+1) ew (x:=n.kids[i+1]) (zA ad) (y:=n.kids[i+1]) rfl<|TW.drop e.tw fun F2 bj an aD aE=>?_;obtain⟨e,h⟩:=e.next h an aD aE
 exact⟨F2,rfl,h,e⟩;have z:¬I=0:=zR.1 z;rw[if_neg z,if_neg z];exact⟨F1,rfl,h,e⟩;rintro er bk ⟨F2,rfl,h,e⟩;have e:=e.now h;have h:=qan h (.refl _);have aF:∀ {A B:(NodeM×Int)×PgM},(if I≠0 then A else B)=if I=0 then B else A:=by intro A B;by_cases h:I=0;rw[if_neg (fun h'=>h' h),if_pos h];rw[if_pos h,if_neg h]
 rw[aF] at J;apply qaa<;>intro z;have z:(if I=0 then (dropV M1 n.kids[i+1]).1 else I)≠0:=by rw[zT] at z;exact zR.1 z
 refine oD h 0 rfl (ndV zeroX) fun ao h _=>oC h 0 rfl zeroX rfl ?_;have e:=e.now h;by_cases h0:I=0;rw[if_pos h0] at J z e⊢;rw[if_pos z] at J;exact J zeroX [] F2 ao e.tw'.drop0 (.zero _ _) e.fr (fun _ h=>(nomatch h)) e.sg.new;rw[if_neg h0] at J z e⊢;exact J zeroX [] F2 ao e.tw'.drop0 (.zero _ _) e.fr (fun _ h=>(nomatch h)) e.sg.new;have z:(if I=0 then (dropV M1 n.kids[i+1]).1 else I)=0:=by rw[yD] at z;exact yO.1 z
 by_cases h0:I=0;rw[if_pos h0] at J z e;rw[if_neg (fun h=>h z)] at J;refine oA h 3 rfl x.2.2.2 rfl<|e.setI h (i:=i) ab rfl hu fun B1 bm e h _=>?_;have h:=oF h;refine oA h 3 rfl x.2.2.2 rfl<|oA h 3 rfl x.2.1 rfl ?_;have e:=e.now h;have ew:wrap .i64 ((i:Int)+1)=((i+1:Nat):Int):=qbx oJ;have aG:wrap .i64 ((i:Int)+2)=((i+1+1:Nat):Int):=(by rw[wi' _ oJ];omega);refine e.delI h (i:=i+1) (by dsimp only;rw[xE];omega) ew aG (by dsimp only;rw[xE];omega) fun O B2 bn e h _=>qai (h.cell 3 rfl rfl)<|e.delK h (i:=i) hi rfl ew oN fun U B3 bo e h _=>oD h 3 rfl (ndV (x.1,x.2.1,x.2.2.1,O)) fun bp h _=>oD h 3 rfl (ndV (x.1,U,x.2.2.1,O)) fun bq h _=>oC h 3 rfl (x.1,U,x.2.2.1,O) rfl<|oD h 0 rfl (ndV (x.1,U,x.2.2.1,O)) fun aH h _=>oC h 0 rfl (x.1,U,x.2.2.1,O) rfl ?_;have e:=e.now h;refine J (x.1,U,x.2.2.1,O) B3 F2 aH e.tw.drop0 (e.node.weak fun b u=>.inl (by simp only[Zo,zD,zG] at u⊢;rcases u with (u|u|u|u)|u<;>simp[u])) e.fr e.bnew e.sg.new;rw[if_neg h0] at z;exact absurd z h0
end
end
section
section
variable {D:DiskM} {M:PgM} {k v side c:Nat} {n nx ny:NodeM}
def quh{e:Int}(h:loadN D M k v (n.kids.getD side 0)=(ny,e))(u:e≠0):evenM D k v M n side c nx=((zeroN,e),M):=by unfold evenM;rw[h,if_pos u]
def qsQ(h:loadN D M k v (n.kids.getD side 0)=(ny,0))(u:¬spareN ny k v):evenM D k v M n side c nx=joinM k v M n (if side<c then side else c) (if side<c then ny else nx) (if side<c then nx else ny):=by unfold evenM;rw[h,if_neg (fun h=>h rfl)];by_cases hsd:side<c;rw[if_pos hsd,if_pos hsd,if_pos hsd,if_pos hsd,if_pos u];rw[if_neg hsd,if_neg hsd,if_neg hsd,if_neg hsd,if_pos u]
def qsP(h:loadN D M k v (n.kids.getD side 0)=(ny,0))(u:spareN ny k v):evenM D k v M n side c nx=bothM k v M n (if side<c then side else c) (if side<c then giveN ny nx (n.keys.getD side []) else takeN nx ny (n.keys.getD c [])):=by unfold evenM;rw[h,if_neg (fun h=>h rfl)];by_cases hsd:side<c;rw[if_pos hsd,if_pos hsd,if_pos hsd,if_neg (fun h=>h u)];rw[if_neg hsd,if_neg hsd,if_neg hsd,if_neg (fun h=>h u)]
def qj4{n:NodeM}{k v:Nat}(h:rightV n k v):ShapeN n:=by obtain⟨z,A,C,u,y⟩:=qev h;exact⟨fun h=>(u h).1,fun h=>(y h).1.symm,oJ,oJ,oJ⟩
def qsd(z:CapsOk k v)(u:spareN n k v)(sn:ShapeN n):1<=n.keys.length/\(n.leaf=true->2<=n.keys.length):=by
 have A:=z.leaf;have C:=z.inner;unfold spareN at u;unfold sizeN at u;cases y:n.leaf with
 | true=>rw[y,if_pos rfl] at u;dsimp only at u;exact⟨oJ,fun _=>oJ⟩
 | false=>
  have:=sn.inner y
  rw[y,if_neg oM] at u;dsimp only at u;exact⟨oJ,fun h=>nomatch h⟩
end
section
variable {dbk pb j:Nat} {FD S S0 N0 Y F F' T B Bl Br Bn Bx By:List Nat} {D:DiskM} {w0 wa w w' w7:World} {M M':PgM} {L:List (Nat×Obj)} {x xx xy:NdC} {n nx ny:NodeM} {k v:Nat} {t:Int}
def Ed.more(e:Ed dbk pb FD D j S0 N0 w0 w (bks L) Y F M x n B)(h:Own T wa w L)(E:TW dbk pb FD D j w7 (By++(bks L++(B++Y))) F M)(G:NodeB (Zo FD (By++(bks L++(B++Y))) F) w7 xy ny By)(f:Fr [] w w7)(z:∀c∈By,w.heap.size<=c): Ed dbk pb FD D j S0 N0 w0 w7 (bks L) (By++Y) F M x n B/\Own (bks L) w7 w7 L/\Oth FD F w7 (bks L) (B++(By++Y)) xy ny By:=by
 have y:∀b∈Zo FD (bks L++(B++(By++Y))) F,b∈Zo FD (By++(bks L++(B++Y))) F:=fun b u=>by simp only[Zo,zD,zG] at u⊢;rcases u with (u|u|u|u|u|u)|u<;>simp[u]
 have A:∀b∈Zo FD (bks L++(B++(By++Y))) F,b∈Zo FD (bks L++(B++Y)) F\/w.heap.size<=b:=fun b u=>by simp only[Zo,zD,zG] at u⊢;rcases u with (u|u|u|u|u|u)|u;simp[u];simp[u];simp[u];simp[u];exact .inr (z b u);simp[u];simp[u]
 refine⟨⟨⟨e.sg.tot.trans' f (fun _ h=>nomatch h),e.sg.new,e.sg.own⟩,E.weakY fun b u=>?_,e.node.frame f (fun _ _ h=>nomatch h) (fun _ h=>nomatch h) A,e.sep,e.bnew,e.nsub,fun b u y=>?_⟩,qaT h f (fun _ _ h=>nomatch h),G.weak fun b u=>.inl (y b u),fun b u y=>?_⟩;simp only[zD] at u⊢;rcases u with u|u|u|u<;>simp[u];rcases zD.1 y with C|C
 have:=e.node.lt b u;have:=z b C;omega
 exact e.ysep b u C
 have:=qiB h b u;have:=z b y;omega
def Oth.more(o:Oth FD F w (bks L) (B++Y) x n Bx)(f:Fr [] w w7)(y:∀c∈By,w.heap.size<=c):Oth FD F w7 (bks L) (B++(By++Y)) x n Bx:=
 ⟨o.node.frame f (fun _ _ h=>nomatch h) (fun _ h=>nomatch h) fun b u=>by simp only[Zo,zD,zG] at u⊢;rcases u with (u|u|u|u|u|u)|u;simp[u];simp[u];simp[u];simp[u];exact .inr (y b u);simp[u];simp[u],o.sep⟩
def Oth.frame0{R:List Nat}(o:Oth FD F w T R x n B)(f:Fr [] w w'):Oth FD F w' T R x n B:=⟨o.node.frame0 f,o.sep⟩
def qsT{nl nr:NodeM}(h:∀a∈nl.keys,IsB a)(sl:ShapeN nl)(u:ShapeN nr):IsB (giveN nl nr key).2.2/\(giveN nl nr key).1.keys.length<=9000/\(giveN nl nr key).1.vals.length<=9000/\(giveN nl nr key).1.kids.length<=9000/\(giveN nl nr key).2.1.keys.length<=9000/\(giveN nl nr key).2.1.vals.length<=9000/\(giveN nl nr key).2.1.kids.length<=9000:=by obtain⟨_,_,y,z,A⟩:=sl;obtain⟨_,_,C,E,G⟩:=u;unfold giveN;split;refine⟨qa7 h _,?_⟩;simp only[yK,yH];omega;refine⟨qa7 h _,?_⟩;simp only[yK,yH];omega
def qtJ{nl nr:NodeM}(h:∀a∈nr.keys,IsB a)(sl:ShapeN nl)(u:ShapeN nr):IsB (takeN nl nr key).2.2/\(takeN nl nr key).1.keys.length<=9000/\(takeN nl nr key).1.vals.length<=9000/\(takeN nl nr key).1.kids.length<=9000/\(takeN nl nr key).2.1.keys.length<=9000/\(takeN nl nr key).2.1.vals.length<=9000/\(takeN nl nr key).2.1.kids.length<=9000:=by obtain⟨_,_,z,A,C⟩:=sl;obtain⟨_,_,E,G,I⟩:=u;unfold takeN;split;refine⟨qa7 (fun a y=>h a (yT y)) _,?_⟩;simp only[zF,yB,yH,length_nil];omega;refine⟨qa7 h _,?_⟩;simp only[zF,yB,yH,length_nil];omega
def qbD{Y':List Nat}(h:∀b∈Y',b∈Y):∀b∈Zo FD Y' F,b∈Zo FD Y F:=fun b u=>by simp only[Zo,zD,zG] at u⊢;rcases u with (u|u|u)|u;simp[u];simp[u];simp[h b u];simp[u]
def Ed.nextS{Y1:List Nat}(e:Ed dbk pb FD D j S0 N0 w0 w (bks L) Y F M x n B)(h:Own T wa w L)(G:TW dbk pb FD D j w' (bks L++(B++Y1)) F M)(f:Fr S w w')(A:∀b∈S,b∈S0\/w0.heap.size<=b)(y:∀b∈S,b∉B/\b∉bks L)(C:∀b∈S,b∈Zo FD (bks L++(B++Y)) F)(E:∀b∈Y1,b∈Y): Ed dbk pb FD D j S0 N0 w0 w' (bks L) Y1 F M x n B/\Own (bks L) w' w' L:=
 ⟨⟨⟨e.sg.tot.trans' f A,e.sg.new,e.sg.own⟩,G,e.node.frame f (fun b u z=>(y b z).1 u) (fun b u=>.inl (C b u)) fun b u=>.inl (by simp only[Zo,zD,zG] at u⊢;rcases u with (u|u|u|u|u)|u;simp[u];simp[u];simp[u];simp[u];simp[E b u];simp[u]),e.sep,e.bnew,e.nsub,fun b u z=>e.ysep b u (E b z)⟩,qaT h f fun b u z=>(y b z).2 u⟩
set_option maxHeartbeats 4000000 in
def qui{side c:Nat}{K:NdC×Int->WP}(hT:TW dbk pb FD D j w0 (Bn++(Bx++Y)) F M)(hn:NodeB (Zo FD (Bn++(Bx++Y)) F) w0 x n Bn)(hx:NodeB (Zo FD (Bn++(Bx++Y)) F) w0 xx nx Bx)(d1:∀b∈Bn,b∉Bx)(d2:∀b∈Bn,b∉Y)(d3:∀b∈Bx,b∉Y)(sn:ShapeN n)(sx:ShapeN nx)(aY:n.leaf=false)(cj:side+1=c\/c+1=side)(hs:side<n.kids.length)(ck:c<n.kids.length)(bB:∀ny,loadN D M k v (n.kids.getD side 0)=(ny,0)->ny.leaf=nx.leaf)(aZ:CapsOk k v)(U:∀yn B' F' w',TW dbk pb FD D j w' (B'++Y) F' (evenM D k v M n side c nx).2->NodeB (Zo FD (B'++Y) F') w' yn (evenM D k v M n side c nx).1.1 B'->Fr (Bn++(Bx++F)) w0 w'->(∀b∈B',b∈Bn\/w0.heap.size<=b)->(∀b∈F',b∈Bn++(Bx++F)\/w0.heap.size<=b)->K (yn,(evenM D k v M n side c nx).1.2) w'): cW 153 [.agg (wkV (wkX k v pb t)),.agg (ndV x),.i side,.i c,.agg (ndV xx)] [.agg qab,.one .i] w0 K:=by
 refine qjx ?_;unfold qfO qcu qcv;have ei:(if (c:Int)<(side:Int) then (c:Int) else (side:Int))=(((if side<c then side else c):Nat):Int):=by by_cases h1:c<side;rw[iP,iN];rw[iN,iP]
 have aj:(if side<c then side else c)+1<n.kids.length:=(by split<;>omega);rw[ei];generalize ax:(if side<c then side else c)=i at aj⊢;have il:=sn.inner aY;have s1:=sn.keys;have s3:=sn.kids;have ay:i<n.keys.length:=oJ;have ew:wrap .i64 ((i:Int)+1)=((i+1:Nat):Int):=qbx oJ;rw[ew];have e0:Ed dbk pb FD D j (Bn++(Bx++F)) Bn w0 w0 [] (Bx++Y) F M x n Bn:=⟨⟨.refl _ _,fun b u=>.inl (by simp[u]),fun _ h=>nomatch h⟩,hT,hn,fun _ h=>(nomatch h),fun b u=>.inl u,fun b u=>by simp[u],fun b u E=>(zD.1 E).elim (d1 b u) (d2 b u)⟩;have o0:Oth FD F w0 [] (Bn++(Bx++Y)) xx nx Bx:=⟨hx,fun _ h=>nomatch h⟩;rcases ag:loadN D M k v (n.kids.getD side 0) with ⟨ny,ey⟩;have bD:n.kids.getD side 0=n.kids[side]:=qdC hs;have aG:loadN D M k v n.kids[side]=(ny,ey):=(by rw[<- bD];exact ag);have a0:=hx.lt;have a3:∀b∈Y,b<w0.heap.size:=fun b u=>hT.ylt b (by simp[u]);have a4:U32 n.kids[side]:=hn.2.1.2.2 _ (zW hs);have h:=oE [] w0;refine oB h fun r1 w2 _ _ h=>oB h fun G w4 _ _ h=>oB h fun I w6 _ _ h=>oB h fun J w8 _ _ h=>?_;have h:=oF h;refine⟨?a,?b⟩;case' a=>
  have e:=e0.now h;have o:=o0.now h;refine oC h 3 rfl (wkX k v pb t) rfl<|oA h 2 rfl x.2.2.2 rfl<|Rds.getU e.kidsR side rfl hs fun bE hh=>?_;have aL:=e.fr.size;refine qgg (k:=k) (v:=v) e.tw a4 fun xy By bG ak Q al R=>?_;rw[aG] at Q⊢;dsimp only at Q;obtain⟨e,h,oy⟩:=e.more h ak Q al R;have ox:=o.more (By:=By) al R;refine oB h fun z bH _ _ h=>qam (hh _ _ (e.now h).kidsR) (h.cell 3 rfl rfl) (h.cells 4 rfl rfl)<|oD h 0 rfl (ndV xy) fun bI h _=>?_;have oy:=oy.now h;have ox:=ox.now h;have e:=e.now h;have h:=qan h (.refl _);have az:∀b∈By,w0.heap.size<=b:=fun b u=>zL aL (R b u)
 case' b=>
  have e:=e0.now h;have o:=o0.now h;have h:=qan h (.refl _);refine oC h 3 rfl (wkX k v pb t) rfl<|oA h 2 rfl x.2.2.2 rfl<|Rds.getU e.kidsR side rfl hs fun bE hh=>oB h fun z bH _ _ h=>?_;have e:=e.now h;have o:=o.now h;refine qam (hh _ _ e.kidsR) (h.cell 3 rfl rfl) (h.cells 4 rfl rfl) ?_;have aL:=e.fr.size;refine qgg (k:=k) (v:=v) e.tw a4 fun xy By bG ak Q al R=>?_;rw[aG] at Q⊢;dsimp only at Q;obtain⟨e,h,oy⟩:=e.more h ak Q al R;have ox:=o.more (By:=By) al R;refine oD h 0 rfl (ndV xy) fun bI h _=>?_;have oy:=oy.now h;have ox:=ox.now h;have e:=e.now h;have h:=qan h (.refl _);have az:∀b∈By,w0.heap.size<=b:=fun b u=>zL aL (R b u)
 all_goals
  apply qaa<;>intro hc;have am:ey≠0:=by rw[zT] at hc;exact zR.1 hc
  rw[quh ag am] at U;refine oD h 1 rfl (ndV zeroX) fun bJ h _=>oC h 1 rfl zeroX rfl ?_;have e:=e.now h;exact U zeroX [] F bJ (e.tw'.weakY fun b u=>by simp at u⊢;simp[u]) (.zero _ _) e.fr (fun _ h=>(nomatch h)) e.sg.new;have bK:ey=0:=by rw[yD] at hc;exact yO.1 hc
  subst bK;have bL:=qes ag;have sy:=qj4 bL;have aH:=bB ny ag;have aM:∀b∈By,b∉Bx:=fun b u E=>by have:=az b u;have:=a0 b E;omega
  have a6:∀b∈By,b∉Y:=fun b u E=>by have:=az b u;have:=a3 b E;omega
  refine⟨?_,?_⟩;have h:=oF h;refine oC h 2 rfl xx rfl<|oC h 0 rfl xy rfl<|oB h fun A bM _ _ h=>qaq (h.cells 1 rfl rfl) (h.cells 3 rfl rfl)<|oB h fun C bN _ _ h=>qaq (h.cells 2 rfl rfl) (h.cells 4 rfl rfl)<|oD h 1 rfl (ndV xx) fun bO h _=>qai (h.cells 2 rfl rfl)<|oD h 0 rfl (ndV xy) fun bP h _=>?_;rotate_left;have h:=oF h;refine oC h 2 rfl xx rfl<|oC h 0 rfl xy rfl<|oB h fun C bM _ _ h=>qaq (h.cells 1 rfl rfl) (h.cells 3 rfl rfl)<|oB h fun A bN _ _ h=>qaq (h.cells 2 rfl rfl) (h.cells 4 rfl rfl)<|oD h 0 rfl (ndV xx) fun bO h _=>qai (h.cells 2 rfl rfl)<|oD h 1 rfl (ndV xy) fun bP h _=>?_;have h:=qg6 h (List.Perm.swap _ _ _);all_goals
   obtain⟨xl,nl,Bl,xr,nr,Br,hP⟩:∃xl nl Bl xr nr Br,(side<c/\xl=xy/\nl=ny/\Bl=By/\xr=xx/\nr=nx/\Br=Bx)\/(¬side<c/\xl=xx/\nl=nx/\Bl=Bx/\xr=xy/\nr=ny/\Br=By):=by by_cases O:side<c;exact⟨_,_,_,_,_,_,.inl ⟨O,rfl,rfl,rfl,rfl,rfl,rfl⟩⟩;exact⟨_,_,_,_,_,_,.inr ⟨O,rfl,rfl,rfl,rfl,rfl,rfl⟩⟩
   refine qaf (fun _ w'=>Own [C,A,z,J,I,G,r1] w' w' [(C,.cells (ndV xr) ND (0,0)),(A,.cells (ndV xl) ND (0,0)),(z,.cells (ndV xy) ND (0,0)),(J,.cells (ndV zeroX) ND (0,0)),(I,.cells (ndV xx) ND (0,0)),(G,.cells (ndV x) ND (0,0)),(r1,.cells (wkV (wkX k v pb t)) WK (0,0))]/\
    Ed dbk pb FD D j (Bn++(Bx++F)) Bn w0 w' [C,A,z,J,I,G,r1] (By++(Bx++Y)) F M x n Bn/\Oth FD F w' [C,A,z,J,I,G,r1] (Bn++(By++(Bx++Y))) xx nx Bx/\Oth FD F w' [C,A,z,J,I,G,r1] (Bn++(By++(Bx++Y))) xy ny By) ?_ ?_
   apply qaa<;>intro hc;have O:side<c:=(by have:=zC hc;omega);rcases hP with ⟨_,rfl,rfl,rfl,rfl,rfl,rfl⟩|⟨hn,_⟩;have h:=oF h;exact oC h 2 rfl xl rfl<|oC h 4 rfl xr rfl<|oD h 1 rfl (ndV xl) fun cn h _=>qai (h.cells 4 rfl rfl)<|oD h 0 rfl (ndV xr) fun co h _=>⟨qan h (.refl _),e.now h,ox.now h,oy.now h⟩;exact absurd O hn;have O:¬side<c:=(by have:=zB hc;omega);rcases hP with ⟨hn,_⟩|⟨_,rfl,rfl,rfl,rfl,rfl,rfl⟩;exact absurd hn O;exact⟨qan h (.refl _),e.now h,ox.now h,oy.now h⟩;rintro _ cp ⟨h,e,ox,oy⟩;refine oC h 6 rfl (shX k v) rfl<|oC h 2 rfl xy rfl ?_;have ly:NodeL xy ny:=(oy.node.rd (S:=[]) (fun _ _ h=>(nomatch h)) fun _ h=>nomatch h).lens;refine quO ly fun ah bQ=>?_;have h:=h.frame0 bQ;have e:=e.now h;have ox:=ox.now h;have oy:=oy.now h;have h:=qan h (.refl _);apply qaa<;>intro hc;have aB:¬spareN ny k v:=by rw[zT] at hc;exact zB hc
   rw[qsQ ag aB] at U;have hj:(if side<c then ny else nx)=nl/\(if side<c then nx else ny)=nr:=by rcases hP with ⟨h1,_,h2,_,_,h3,_⟩|⟨h1,_,h2,_,_,h3,_⟩;rw[if_pos h1,if_pos h1,h2,h3];exact⟨rfl,rfl⟩;rw[if_neg h1,if_neg h1,h2,h3];exact⟨rfl,rfl⟩
   rw[ax,hj.1,hj.2] at U;have e:=e.sub (T1:=[C,A,z,J,I,G,r1]) fun b u=>u;have aN:Oth FD F ah [C,A,z,J,I,G,r1] (Bn++(By++(Bx++Y))) xl nl Bl:=by rcases hP with ⟨_,rfl,rfl,rfl,_⟩|⟨_,rfl,rfl,rfl,_⟩<;>assumption
   have bT:Oth FD F ah [C,A,z,J,I,G,r1] (Bn++(By++(Bx++Y))) xr nr Br:=by rcases hP with ⟨_,_,_,_,rfl,rfl,rfl⟩|⟨_,_,_,_,rfl,rfl,rfl⟩<;>assumption
   have a7:ShapeN nl/\ShapeN nr:=by rcases hP with ⟨_,_,rfl,_,_,rfl,_⟩|⟨_,_,rfl,_,_,rfl,_⟩<;>exact⟨by assumption,by assumption⟩
   have bU:(∀b∈Bl,b∈By\/b∈Bx)/\(∀b∈Br,b∈By\/b∈Bx)/\∀b∈Bl,b∉Br:=by rcases hP with ⟨_,_,_,rfl,_,_,rfl⟩|⟨_,_,_,rfl,_,_,rfl⟩;exact⟨fun b u=>.inl u,fun b u=>.inr u,aM⟩;exact⟨fun b u=>.inr u,fun b u=>.inl u,fun b u E=>aM b E u⟩
   obtain⟨aC,a8,bV⟩:=bU;have aO:∀b,b∈By\/b∈Bx->b∉Bn/\b∉Y:=fun b u=>by rcases u with u|u;exact⟨fun E=>e.ysep b E (by simp[u]),a6 b u⟩;exact⟨fun E=>e.ysep b E (by simp[u]),d3 b u⟩
   have an:∀b∈Bl++(Bn++(Br++([C,A,z,J,I,G,r1]++Y))),b∈[C,A,z,J,I,G,r1]++(Bn++(By++(Bx++Y))):=fun b u=>by have a1:=aC b;have a2:=a8 b;rw[zD,zD,zD,zD] at u⊢;rcases u with u|u|u|u|u;rcases a1 u with h|h<;>simp[h];simp[u];rcases a2 u with h|h<;>simp[h];simp[u];simp[u]
   have hZ:∀b∈Zo FD (Bl++(Bn++(Br++([C,A,z,J,I,G,r1]++Y)))) F,b∈Zo FD ([C,A,z,J,I,G,r1]++(Bn++(By++(Bx++Y)))) F:=qbD an;refine oC h 6 rfl (wkX k v pb t) rfl<|oC h 5 rfl x rfl<|oC h 1 rfl xl rfl<|oC h 0 rfl xr rfl<|qut (Y:=[C,A,z,J,I,G,r1]++Y) (e.tw.weakY an) (aN.node.weak fun b u=>.inl (hZ b u)) (e.node.weak fun b u=>.inl (hZ b u)) (bT.node.weak fun b u=>.inl (hZ b u)) (fun b u=>(aO b (aC b u)).1) bV (fun b u E=>(zD.1 E).elim (fun E=>aN.sep b E u) (aO b (aC b u)).2) (fun b u E=>(aO b (a8 b E)).1 u) (fun b u E=>(zD.1 E).elim (fun E=>e.sep b E u) (d2 b u)) a7.1 a7.2 sn ay aY fun yn B' F' bY a9 a' ba nB nF=>?_;have bZ:∀b∈[C,A,z,J,I,G,r1],b<ah.heap.size:=fun b u=>e.tw.ylt b (zH _ u);have hS:∀b∈Bn++(Bl++F),b∈Bn++(Bx++F)\/w0.heap.size<=b:=fun b u=>by rcases zD.1 u with u|u;exact .inl (by simp[u]);rcases zD.1 u with u|u;rcases aC b u with h1|h1;exact .inr (az b h1);exact .inl (by simp[h1]);exact .inl (by simp[u])
   have h:=qaT h ba fun b u E=>by rcases zD.1 E with E|E;exact e.sep b u E;rcases zD.1 E with E|E;exact aN.sep b u E;exact e.tw.yf b (zH _ u) E
   refine oD h 3 rfl (ndV yn) fun b0 h _=>oC h 3 rfl yn rfl ?_;have bb:∀b∈[C,A,z,J,I,G,r1]++(B'++Y),b∈B'++([C,A,z,J,I,G,r1]++Y):=fun b u=>by rw[zD,zD] at u⊢;rcases u with u|u|u<;>simp[u]
   have o:Oth FD F' bY [C,A,z,J,I,G,r1] (B'++Y) yn _ B':=⟨a'.weak fun b u=>.inl (qbD bb b u),fun b u E=>(nB b E).elim (e.sep b u) fun h1=>by have:=bZ b u;omega⟩;have b1:=a9.weakY bb;exact U yn B' F' b0 (TW.now (T:=[C,A,z,J,I,G,r1]) b1 h).drop0 ((o.now h).node.weak fun b u=>.inl (qeF b u)) ((e.fr.trans' ba hS).trans' h.fr e.sg.own) (fun b u=>(nB b u).imp id fun h1=>zL e.fr.size h1) fun b u=>(nF b u).elim (hS b) fun h1=>.inr (zL e.fr.size h1);have aB:spareN ny k v:=(by rw[yD] at hc;exact zC hc);rw[qsP ag aB,ax] at U;obtain⟨y1,y2⟩:=qsd aZ aB sy;have e:=e.sub (T1:=[C,A,z,J,I,G,r1]) fun b u=>u;have ox:Oth FD F ah [C,A,z,J,I,G,r1] (Bn++(By++(Bx++Y))) xx nx Bx:=ox;have oy:Oth FD F ah [C,A,z,J,I,G,r1] (Bn++(By++(Bx++Y))) xy ny By:=oy;have bc:∀b∈Bx++(By++([C,A,z,J,I,G,r1]++(Bn++Y))),b∈[C,A,z,J,I,G,r1]++(Bn++(By++(Bx++Y))):=fun b u=>by rw[zD,zD,zD,zD] at u⊢;rcases u with u|u|u|u|u<;>simp[u]
   have aP:∀b∈Zo FD (Bx++(By++([C,A,z,J,I,G,r1]++(Bn++Y)))) F,b∈Zo FD ([C,A,z,J,I,G,r1]++(Bn++(By++(Bx++Y)))) F:=qbD bc;have bd:∀b∈Bx,b∉By:=fun b u E=>aM b E u;have aI:∀b∈Bx,b∉[C,A,z,J,I,G,r1]++(Bn++Y):=fun b u E=>by rcases zD.1 E with E|E;exact ox.sep b E u;rcases zD.1 E with E|E;exact d1 b E u;exact d3 b u E
   have aJ:∀b∈By,b∉[C,A,z,J,I,G,r1]++(Bn++Y):=fun b u E=>by rcases zD.1 E with E|E;exact oy.sep b E u;rcases zD.1 E with E|E;exact e.ysep b E (by simp[u]);exact a6 b u E
   obtain⟨nk,nv,on⟩:=e.node.opn (S0:=[]) fun _ _ h=>nomatch h;have ao:i<nk.length:=(by rw[on.klen];exact ay);have bf:IsB nk[i].2:=(by rw[<- on.keyAt ao];exact qa7 on.nb.1 _);have bg:=(on.ek _ (zW ao)).frame (.refl _ _) fun b u=>.inl (aP b u);have bh:n.keys.getD i []=nk[i].2:=on.keyAt ao;have bi:=e.tw.weakY bc;have bj:=ox.node.weak fun b u=>.inl (aP b u);have aE:=oy.node.weak fun b u=>.inl (aP b u);refine qaf (fun _ w'=>∃yl yr r B',Own [C,A,z,J,I,G,r1] w' w' [(C,.cells (ndV yr) ND (0,0)),(A,.cells (ndV yl) ND (0,0)),(z,.cells (ndV xy) ND (0,0)),(J,.cells (ndV zeroX) ND (0,0)),(I,.cells (ndV xx) ND (0,0)),(G,.cells (ndV x) ND (0,0)),(r1,.cells (wkV (wkX k v pb t)) WK (0,0))]/\
    Ed dbk pb FD D j (Bn++(Bx++F)) Bn w0 w' [C,A,z,J,I,G,r1] Y F M x { n with keys:=n.keys.set i r.2.2 } B'/\NodeR (Zo FD ([C,A,z,J,I,G,r1]++(B'++Y)) F) w' yl r.1/\NodeR (Zo FD ([C,A,z,J,I,G,r1]++(B'++Y)) F) w' yr r.2.1/\
    (if side<c then giveN ny nx (n.keys.getD side []) else takeN nx ny (n.keys.getD c []))=r/\r.1.keys.length<=9000/\r.1.vals.length<=9000/\r.1.kids.length<=9000/\r.2.1.keys.length<=9000/\r.2.1.vals.length<=9000/\r.2.1.kids.length<=9000) ?_ ?_
   have bk:∀b∈Bx++F,b∈Bn++(Bx++F)\/w0.heap.size<=b:=fun b u=>.inl (zI _ u);have bl:∀b∈Bx++F,b∉Bn/\b∉[C,A,z,J,I,G,r1]:=fun b u=>by rcases zD.1 u with u|u;exact⟨fun E=>d1 b E u,fun E=>ox.sep b E u⟩;exact⟨fun E=>e.tw.yf b (by simp[E]) u,fun E=>e.tw.yf b (zH _ E) u⟩
   have bm:∀b∈Bx++F,b∈Zo FD ([C,A,z,J,I,G,r1]++(Bn++(By++(Bx++Y)))) F:=fun b u=>by rcases zD.1 u with u|u<;>simp[u]
   have fd:=(Fr.refl [] ah).drew;apply qaa<;>intro aR;have O:side<c:=(by have:=zC aR;omega);have aS:side=i:=(by rw[<- ax,if_pos O]);rcases hP with ⟨_,rfl,rfl,rfl,rfl,rfl,rfl⟩|⟨hn,_⟩;have h:=oF h;have e:=e.now h;have h:=qan h (.refl _);refine oA h 5 rfl x.2.1 rfl<|oC h 1 rfl xl rfl<|oC h 0 rfl xr rfl<|oA h 5 rfl x.2.1 rfl<|Rds.get (on.rk.frame0 fd) i rfl (x:=nk[i].1) (by rw[zQ,zA ao];rfl) (y:=nk[i].1) rfl ?_;have gm:=qsT (key:=nk[i].2) aE.2.1.1 sy sx;refine qum (Y:=[C,A,z,J,I,G,r1]++(Bn++Y)) (bi.frame0 fd) (aE.frame0 fd) (bj.frame0 fd) bd aI aJ (bg.frame0 fd) bf aH y1 sy sx fun yl yr b2 b3 ap hL V af aT=>?_;obtain⟨e,h⟩:=e.nextS h ap aT bk bl bm fun b u=>by simp[u]
   refine qai (h.cell 5 rfl rfl)<|oD h 1 rfl (ndV yl) fun b4 h _=>qai (h.cell 5 rfl rfl)<|oD h 0 rfl (ndV yr) fun b5 h _=>qai (h.cell 5 rfl rfl) ?_;have e:=e.now h;have hL:=NodeR.now (T:=[C,A,z,J,I,G,r1]) hL h;have V:=NodeR.now (T:=[C,A,z,J,I,G,r1]) V h;have af:=qaQ (T:=[C,A,z,J,I,G,r1]) af h;have h:=qan h (.refl _);exact e.setK h (i:=i) ay rfl af gm.1 fun B1 b6 e h kp=>⟨yl,yr,_,B1,h,e,kp.node _ _ hL,kp.node _ _ V,by rw[if_pos O,aS,bh],gm.2.1,gm.2.2.1,gm.2.2.2.1,gm.2.2.2.2.1,gm.2.2.2.2.2.1,gm.2.2.2.2.2.2⟩;exact absurd O hn;have O:¬side<c:=(by have:=zB aR;omega);have aS:c=i:=(by rw[<- ax,if_neg O]);rcases hP with ⟨hn,_⟩|⟨_,rfl,rfl,rfl,rfl,rfl,rfl⟩;exact absurd hn O;have h:=oF h;have e:=e.now h;have h:=qan h (.refl _);refine oA h 5 rfl x.2.1 rfl<|oC h 1 rfl xl rfl<|oC h 0 rfl xr rfl<|oA h 5 rfl x.2.1 rfl<|Rds.get (on.rk.frame0 fd) i rfl (x:=nk[i].1) (by rw[zQ,zA ao];rfl) (y:=nk[i].1) rfl ?_;have gm:=qtJ (key:=nk[i].2) aE.2.1.1 sx sy;refine quQ (Y:=[C,A,z,J,I,G,r1]++(Bn++Y)) (bi.frame0 fd) (bj.frame0 fd) (aE.frame0 fd) bd aI aJ (bg.frame0 fd) bf aH.symm y1 y2 sx sy fun yl yr b2 b3 ap hL V af aT=>?_;obtain⟨e,h⟩:=e.nextS h ap aT bk bl bm fun b u=>by simp[u]
   refine qai (h.cell 5 rfl rfl)<|oD h 1 rfl (ndV yl) fun b4 h _=>qai (h.cell 5 rfl rfl)<|oD h 0 rfl (ndV yr) fun b5 h _=>qai (h.cell 5 rfl rfl) ?_;have e:=e.now h;have hL:=NodeR.now (T:=[C,A,z,J,I,G,r1]) hL h;have V:=NodeR.now (T:=[C,A,z,J,I,G,r1]) V h;have af:=qaQ (T:=[C,A,z,J,I,G,r1]) af h;have h:=qan h (.refl _);exact e.setK h (i:=i) ay rfl af gm.1 fun B1 b6 e h kp=>⟨yl,yr,_,B1,h,e,kp.node _ _ hL,kp.node _ _ V,by rw[if_neg O,aS,bh],gm.2.1,gm.2.2.1,gm.2.2.2.1,gm.2.2.2.2.1,gm.2.2.2.2.2.1,gm.2.2.2.2.2.2⟩;rintro _ ct ⟨yl,yr,r,B',h,e,hL,V,hr,q1,q2,q3,q4,q5,q6⟩;have aF:i<n.kids.length:=oJ;rw[hr] at U;unfold bothM at U;rw[qdC aF,qdC aj] at U;have h:=oF h;have e:=e.now h;have hL:=NodeR.now (T:=[C,A,z,J,I,G,r1]) hL h;have V:=NodeR.now (T:=[C,A,z,J,I,G,r1]) V h;have h:=qan h (.refl _);refine oA h 5 rfl x.2.2.2 rfl<|oC h 6 rfl (wkX k v pb t) rfl<|oA h 5 rfl x.2.2.2 rfl<|Rds.get e.kidsR i rfl (x:=n.kids[i]) (zA aF) (y:=n.kids[i]) rfl<|oC h 1 rfl yl rfl<|qbn e.tw hL oJ oJ oJ fun F1 cw bn bo bp=>?_;obtain⟨e,h⟩:=e.next h bn bo bp
   have V:=V.next bo bp
   have aV:U32 (storeN k v M n.kids[i] r.1).1.1:=qbo hT.wf (hn.2.1.2.2 _ (zW aF));generalize storeN k v M n.kids[i] r.1=b7 at U e aV⊢;obtain⟨⟨a1,bq⟩,M1⟩:=b7;dsimp only at U e aV⊢;refine qai (h.cell 5 rfl rfl)<|e.setI h (i:=i) aF rfl aV fun B1 cx e h kp=>?_;have V:=kp.node _ _ V;apply qaa<;>intro ar;have am:bq≠0:=(by rw[zT] at ar;exact zR.1 ar);rw[if_pos am] at U;refine oD h 3 rfl (ndV zeroX) fun br h _=>oC h 3 rfl zeroX rfl ?_;have e:=e.now h;exact U zeroX [] F1 br e.tw'.drop0 (.zero _ _) e.fr (fun _ h=>(nomatch h)) e.sg.new;have am:¬bq≠0:=(by rw[yD] at ar;exact fun h=>h (yO.1 ar));rw[if_neg am] at U;have bs:(n.kids.set i a1)[i+1]?=some n.kids[i+1]:=(by rw[List.getElem?_set_ne oJ,zA aj]);have h:=oF h;have e:=e.now h;have V:=NodeR.now V h;have h:=qan h (.refl _);refine oA h 5 rfl x.2.2.2 rfl<|oC h 6 rfl (wkX k v pb t) rfl<|oA h 5 rfl x.2.2.2 rfl<|Rds.get e.kidsR (i+1) rfl (x:=n.kids[i+1]) bs (y:=n.kids[i+1]) rfl<|oC h 0 rfl yr rfl<|qbn e.tw V oJ oJ oJ fun F2 ch aW bt bu=>?_;have aX:U32 (storeN k v M1 n.kids[i+1] r.2.1).1.1:=qbo e.tw.wf (hn.2.1.2.2 _ (zW aj));obtain⟨e,h⟩:=e.next h aW bt bu
   generalize storeN k v M1 n.kids[i+1] r.2.1=b8 at U e aX⊢;obtain⟨⟨a2,cz⟩,M2⟩:=b8;dsimp only at U e aX⊢;refine qai (h.cell 5 rfl rfl)<|e.setI h (i:=i+1) (by dsimp only;rw[xE];exact aj) rfl aX fun B2 ci e h _=>oC h 5 rfl x rfl<|oD h 3 rfl (ndV x) fun bv h _=>oC h 3 rfl x rfl ?_;have e:=e.now h;exact U x B2 F2 bv e.tw.drop0 (e.node.weak fun b u=>.inl (qeF b u)) e.fr e.bnew e.sg.new
end
end
section
section
variable {D:DiskM} {M M1:PgM} {k v f side c i:Nat} {key:Key} {p e0 e1:Int} {n nx N:NodeM}
def qfp{α:Type}{l:List α}{i:Nat}(h:i<l.length):(delAt l i).length+1=l.length:=by unfold delAt;rw[zF,yK,yB];omega
def qjQ{l r:NodeM}(sn:ShapeN n)(u:n.leaf=false)(hi:i<n.keys.length)(h:(joinM k v M n i l r).1.2=0):ShapeN (joinM k v M n i l r).1.1:=by have E:=sn.inner u;obtain⟨_,_,G,A,I⟩:=sn;unfold joinM at h⊢;split;rename_i y;rw[if_pos y] at h;exact absurd h y;rename_i y;rw[if_neg y] at h;split;rename_i z;rw[if_pos z] at h;exact absurd h z;have C:=qfp (l:=n.kids.set i (storeN k v M (n.kids.getD i 0) (joinN l r (n.keys.getD i []))).1.1) (i:=i+1) (by rw[xE];omega);have J:=qfp hi;rw[xE] at C;exact⟨(fun h=>by rw[u] at h;cases h),fun _=>by dsimp only;omega,by dsimp only;omega,A,by dsimp only;omega⟩
def qjC{r:NodeM×NodeM×Key}(sn:ShapeN n)(u:n.leaf=false)(h:(bothM k v M n i r).1.2=0):ShapeN (bothM k v M n i r).1.1:=by have z:=sn.inner u;obtain⟨_,_,A,C,E⟩:=sn;unfold bothM at h⊢;split;rename_i y;rw[if_pos y] at h;exact absurd h y;exact⟨(fun h=>by rw[u] at h;cases h),fun _=>by dsimp only;rw[xE,xE,xE];exact z,by dsimp only;rw[xE];exact A,C,by dsimp only;rw[xE,xE];exact E⟩
def qp0(sn:ShapeN n)(u:n.leaf=false)(C:side+1=c\/c+1=side)(G:side<n.kids.length)(E:c<n.kids.length)(h:(evenM D k v M n side c nx).1.2=0):ShapeN (evenM D k v M n side c nx).1.1:=by have I:=sn.inner u;unfold evenM at h⊢;split;rename_i A;rw[if_pos A] at h;exact absurd h A;rename_i A;rw[if_neg A] at h;split;rename_i y;rw[if_pos y] at h;split;rename_i z;rw[if_pos z] at h;exact qjQ sn u oJ h;rename_i z;rw[if_neg z] at h;exact qjC sn u h;rename_i y;rw[if_neg y] at h;split;rename_i z;rw[if_pos z] at h;exact qjQ sn u oJ h;rename_i z;rw[if_neg z] at h;exact qjC sn u h
def sideOf (c:Nat):Nat:=if c>0 then c-1 else c+1
def qub(h:loadN D M k v p=(n,e0))(u:e0≠0):cutN D k v key (f+1) M p=((zeroN,e0),M):=by unfold cutN;rw[h,if_pos u]
def quc(h:loadN D M k v p=(n,0))(u:n.leaf=true)(y:n.keys[placeV n.keys key]?=some key):cutN D k v key (f+1) M p=(({ n with keys:=delAt n.keys (placeV n.keys key),vals:=delAt n.vals (placeV n.keys key) },0),M):=by unfold cutN;rw[h,if_neg (fun h=>h rfl),if_pos u,if_pos y]
def qsF(h:loadN D M k v p=(n,0))(u:n.leaf=true)(y:¬n.keys[placeV n.keys key]?=some key):cutN D k v key (f+1) M p=((zeroN,5),M):=by unfold cutN;rw[h,if_neg (fun h=>h rfl),if_pos u,if_neg y]
def qsE(h:loadN D M k v p=(n,0))(u:¬n.leaf=true)(y:cutN D k v key f M (n.kids.getD (kidV n.keys key) 0)=((N,e1),M1))(z:e1≠0):cutN D k v key (f+1) M p=((zeroN,e1),M1):=by unfold cutN;rw[h,if_neg (fun h=>h rfl),if_neg u];dsimp only;rw[y,if_pos z]
def qsD(h:loadN D M k v p=(n,0))(u:¬n.leaf=true)(y:cutN D k v key f M (n.kids.getD (kidV n.keys key) 0)=((N,0),M1))(z:¬lowN N k v):cutN D k v key (f+1) M p = (({ n with kids:=n.kids.set (kidV n.keys key) (storeN k v M1 (n.kids.getD (kidV n.keys key) 0) N).1.1 },(storeN k v M1 (n.kids.getD (kidV n.keys key) 0) N).1.2),(storeN k v M1 (n.kids.getD (kidV n.keys key) 0) N).2):=by unfold cutN;rw[h,if_neg (fun h=>h rfl),if_neg u];dsimp only;rw[y,if_neg (fun h=>h rfl),if_pos z]
def qsC(h:loadN D M k v p=(n,0))(u:¬n.leaf=true)(y:cutN D k v key f M (n.kids.getD (kidV n.keys key) 0)=((N,0),M1))(z:lowN N k v):cutN D k v key (f+1) M p=evenM D k v M1 n (sideOf (kidV n.keys key)) (kidV n.keys key) N:=by unfold cutN sideOf;rw[h,if_neg (fun h=>h rfl),if_neg u];dsimp only;rw[y,if_neg (fun h=>h rfl),if_neg (fun h=>h z)];split<;>rfl
def cutSafe (D:DiskM) (k v:Nat) (key:Key):Nat->PgM->Int->Prop
 | 0,_,_=>False
 | f+1,M,p=>∀n,loadN D M k v p=(n,0)->n.leaf=false->cutSafe D k v key f M (n.kids.getD (kidV n.keys key) 0)/\
  ∀N M1,cutN D k v key f M (n.kids.getD (kidV n.keys key) 0)=((N,0),M1)->lowN N k v->∀ny,loadN D M1 k v (n.kids.getD (sideOf (kidV n.keys key)) 0)=(ny,0)->ny.leaf=N.leaf
end
section
variable {dbk pb j:Nat} {FD S S0 N0 Y Y1 F F' T B By:List Nat} {D:DiskM} {w0 wa w w' w7:World} {M M':PgM} {L:List (Nat×Obj)} {x xy:NdC} {n ny:NodeM} {k v:Nat} {t:Int}
def Ed.more2(e:Ed dbk pb FD D j S0 N0 w0 w (bks L) Y F M x n B)(h:Own T wa w L)(E:TW dbk pb FD D j w7 (By++(bks L++(B++Y))) F' M')(I:NodeB (Zo FD (By++(bks L++(B++Y))) F') w7 xy ny By)(f:Fr F w w7)(G:∀b∈F',b∈F\/w.heap.size<=b)(C:∀c∈By,w.heap.size<=c): Ed dbk pb FD D j S0 N0 w0 w7 (bks L) (By++Y) F' M' x n B/\Own (bks L) w7 w7 L/\Oth FD F' w7 (bks L) (B++(By++Y)) xy ny By:=by
 have y:∀b∈bks L++(B++(By++Y)),b∈By++(bks L++(B++Y)):=fun b u=>by simp only[zD] at u⊢;rcases u with u|u|u|u<;>simp[u]
 obtain⟨e1,z⟩:=e.next h (E.weakY fun b u=>zI _ u) f G
 refine⟨⟨e1.sg,E.weakY y,e.node.frame f (fun b u A=>e.tw.yf b (by simp[u]) A) (fun b u=>.inl (zoF u)) fun b u=>?_,e1.sep,e1.bnew,e1.nsub,fun b u A=>?_⟩,z,I.weak fun b u=>.inl (qbD y b u),fun b u A=>?_⟩;simp only[Zo,zD,zG] at u⊢;rcases u with (u|u|u|u|u|u)|u;simp[u];simp[u];simp[u];simp[u];exact .inr (C b u);simp[u];exact (G b u).imp (fun h=>.inr h) id;rcases zD.1 A with z|z
 have:=e.node.lt b u;have:=C b z;omega
 exact e.ysep b u z
 have:=qiB h b u;have:=C b A;omega
def Ed.less(e:Ed dbk pb FD D j S0 N0 w0 w T Y F M x n B)(y:∀b∈Y1,b∈Y):Ed dbk pb FD D j S0 N0 w0 w T Y1 F M x n B:=by
 have z:∀b∈T++(B++Y1),b∈T++(B++Y):=fun b u=>by simp only[zD] at u⊢;rcases u with u|u|u;simp[u];simp[u];simp[y b u]
 exact⟨e.sg,e.tw.weakY z,e.node.weak fun b u=>.inl (qbD z b u),e.sep,e.bnew,e.nsub,fun b u h=>e.ysep b u (y b h)⟩
def qvf(z:TW dbk pb FD D j w (B++(T++Y)) F M)(A:NodeB (Zo FD (B++(T++Y)) F) w x n B)(C:∀b∈T,b∉B)(h:Own T w w' L'): TW dbk pb FD D j w' (B++Y) F M/\NodeB (Zo FD (B++Y) F) w' x n B:=by
 have y:∀b∈T++(B++Y),b∈B++(T++Y):=fun b u=>by rw[zD,zD] at u⊢;rcases u with u|u|u<;>simp[u]
 have o:Oth FD F w T (B++Y) x n B:=⟨A.weak fun b u=>.inl (qbD y b u),C⟩;exact⟨(TW.now (z.weakY y) h).drop0,(o.now h).node.weak fun b u=>.inl (qeF b u)⟩
set_option maxHeartbeats 2000000 in
def qmb{ks:Sl}{key:Key}(ax:IsB key)(al:CapsOk k v):∀(f:Nat) {Y F:List Nat} {w0:World} {M:PgM} {p:Int} {K:NdC×Int->WP} (hT:TW dbk pb FD D j w0 Y F M) (hp:U32 p) (hk:RdB (Zo FD Y F) w0 ks key) (J:cutSafe D k v key f M p) (kk:∀yn B' F' w',((cutN D k v key f M p).1.2=0->ShapeN (cutN D k v key f M p).1.1)->TW dbk pb FD D j w' (B'++Y) F' (cutN D k v key f M p).2->NodeB (Zo FD (B'++Y) F') w' yn (cutN D k v key f M p).1.1 B'->Fr F w0 w'->(∀b∈B',w0.heap.size<=b)->(∀b∈F',b∈F\/w0.heap.size<=b)->K (yn,(cutN D k v key f M p).1.2) w'), cW 110 [.agg (wkV (wkX k v pb t)),.u p,ks.v] [.agg qab,.one .i] w0 K
 | 0,_,_,_,_,_,_,_,_,_,J,_=>J.elim
 | f+1,Y,F,w0,M,p,K,hT,hp,hk,J,kk=>by
  refine qkT ?_;unfold qgF;have h:=oE [] w0;have g:=Sg.start F w0;refine oB h fun r1 w2 _ _ h=>oB h fun r3 w4 _ _ h=>oC h 1 rfl (wkX k v pb t) rfl ?_;rcases O:loadN D M k v p with ⟨n,e0⟩;refine qgg (k:=k) (v:=v) (hT.now0 h) hp fun x B w7 bd aF f7 bf=>?_;rw[O] at aF⊢;dsimp only at aF;obtain⟨e,h⟩:=Ed.load (N0:=[]) (fun _ h=>nomatch h) g h bd aF f7 bf fun b A=>yC (hT.ylt b A) h.fr.size;refine oB h fun r8 w9 _ _ h=>oD h 0 rfl (ndV x) fun bM h _=>?_;have an:∀ {e:Int} {M':PgM} {F':List Nat} {w'},cutN D k v key (f+1) M p=((zeroN,e),M')->e≠0->TW dbk pb FD D j w' Y F' M'->Fr F w0 w'->(∀b∈F',b∈F\/w0.heap.size<=b)->K (zeroX,e) w':=fun he bg bh fr hF=>by
   have:=kk zeroX [] _ _ (fun h=>by rw[he] at h;exact absurd h bg) (by rw[he];exact bh) (by rw[he];exact .zero _ _) fr (fun _ h=>nomatch h) hF
   rw[he] at this;exact this
  apply qaa<;>intro Q;have aA:e0≠0:=by rw[zT] at Q;exact zR.1 Q
  refine oD h 1 rfl (ndV zeroX) fun bP h _=>oC h 1 rfl zeroX rfl ?_;have e:=e.now h;exact an (qub O aA) aA e.tw'.drop0 e.fr e.sg.new;have bi:e0=0:=by rw[yD] at Q;exact yO.1 Q
  subst bi;have hr:=qes O;have sn:=qj4 hr;obtain⟨l1,l2,l3,l4,l5⟩:=qev hr;have e:=e.now h;have h:=qan h (.refl _);have aQ:x.1=n.leaf:=e.node.1;refine oA h 0 rfl x.1 rfl ?_;apply qaa<;>intro Q;rw[aQ] at Q;obtain⟨l6,l7⟩:=l4 Q;refine oC h 0 rfl x rfl<|qkf e.nodeR (e.rdb hk) ax hr.2.2.1 oJ fun bU bj=>?_;obtain⟨e,h⟩:=e.next0 h bj;have bV:=qnh n.keys key;apply qaa<;>intro R;rw[zT] at R;have aR:=zB R;refine oD h 1 rfl (ndV zeroX) fun bW h _=>oC h 1 rfl zeroX rfl ?_;have e:=e.now h;exact an (qsF O Q aR) oM e.tw'.drop0 e.fr e.sg.new;rw[yD] at R;have aS:=zC R;have aT:=(zP.1 aS).1;have V:=quc (f:=f) O Q aS;have ew:wrap .i64 ((placeV n.keys key:Int)+1)=((placeV n.keys key+1:Nat):Int):=qbx oJ;rw[V] at kk;have h:=oF h;refine oA h 0 rfl x.2.1 rfl<|oA h 0 rfl x.2.2.1 rfl ?_;have e:=e.now h;dsimp only;refine e.delK h (i:=placeV n.keys key) aT rfl ew oJ fun ah B1 bX e h _=>qai (h.cell 0 rfl rfl)<|e.delV h (i:=placeV n.keys key) oN rfl ew oN fun ao B2 bY e h _=>oD h 0 rfl (ndV (x.1,ah,x.2.2.1,x.2.2.2)) fun bZ h _=>oD h 0 rfl (ndV (x.1,ah,ao,x.2.2.2)) fun b0 h _=>oC h 0 rfl (x.1,ah,ao,x.2.2.2) rfl<|oD h 1 rfl (ndV (x.1,ah,ao,x.2.2.2)) fun bk h _=>oC h 1 rfl (x.1,ah,ao,x.2.2.2) rfl ?_;have e:=e.now h;have k1:=qfp aT;have k2:=qfp (l:=n.vals) (i:=placeV n.keys key) oJ;exact kk (x.1,ah,ao,x.2.2.2) B2 F bk (fun _=>⟨fun _=>by dsimp only;omega,(fun h=>by dsimp only at h;rw[Q] at h;cases h),by dsimp only;omega,by dsimp only;omega,by dsimp only;omega⟩) e.tw.drop0 (e.node.weak fun b A=>.inl (qeF b A)) e.fr (fun b A=>(e.bnew b A).elim (fun h=>nomatch h) id) e.sg.new
  ·rw[aQ] at Q;have aG:¬n.leaf=true:=(by rw[Q];decide);obtain⟨l6,l7,l8⟩:=l5 Q;obtain⟨E,U⟩:=J n O Q;refine oC h 0 rfl x rfl<|qob e.nodeR (e.rdb hk) ax hr.2.2.1 oJ fun b1 bl=>?_;obtain⟨e,h⟩:=e.next0 h bl;have bm:=qi9 n.keys key;have ap:=fun N e1 M1 he=>qsE (key:=key) (f:=f) (N:=N) (e1:=e1) (M1:=M1) O aG he;have R:=fun N M1 he=>qsD (key:=key) (f:=f) (N:=N) (M1:=M1) O aG he;have aH:=fun N M1 he=>qsC (key:=key) (f:=f) (N:=N) (M1:=M1) O aG he;generalize b2:kidV n.keys key=c at bm E U ap R aH⊢;have aa:c<n.kids.length:=oJ;have bn:n.kids.getD c 0=n.kids[c]:=qdC aa;rw[bn] at E U ap R aH;have hu:U32 n.kids[c]:=e.node.2.1.2.2 _ (zW aa);rcases ai:cutN D k v key f M n.kids[c] with ⟨⟨N1,e1⟩,M1⟩;have ap:=ap N1 e1 M1 ai;refine⟨?a,?b⟩;case' a=>
    have h:=oF h;have e:=e.now h;refine oC h 2 rfl (wkX k v pb t) rfl<|oA h 0 rfl x.2.2.2 rfl<|Rds.getU e.kidsR c rfl aa fun bp hh=>?_;have hz:=e.fr.size;refine qmb ax al f e.tw hu (e.rdb hk) E fun xx Bx F1 br ak ab G aI ac aJ=>?_;rw[ai] at ak ab G⊢;dsimp only at ak G⊢;obtain⟨e,h,ox⟩:=e.more2 h ab G aI aJ ac;refine oB h fun I bs _ _ h=>qam (hh _ _ (e.now h).kidsR) (h.cell 1 rfl rfl) (h.cells 3 rfl rfl)<|oD h 0 rfl (ndV xx) fun bt h _=>?_;have az:∀b∈Bx,w0.heap.size<=b:=fun b A=>zL hz (ac b A);have ox:=ox.now h;have e:=e.now h;have h:=qan h (.refl _)
   case' b=>
    have h:=oF h;have e:=e.now h;have h:=qan h (.refl _);refine oC h 2 rfl (wkX k v pb t) rfl<|oA h 0 rfl x.2.2.2 rfl<|Rds.getU e.kidsR c rfl aa fun bp hh=>oB h fun I bs _ _ h=>?_;have e:=e.now h;refine qam (hh _ _ e.kidsR) (h.cell 1 rfl rfl) (h.cells 3 rfl rfl) ?_;have hz:=e.fr.size;refine qmb ax al f e.tw hu (e.rdb hk) E fun xx Bx F1 br ak ab G aI ac aJ=>?_;rw[ai] at ak ab G⊢;dsimp only at ak G⊢;obtain⟨e,h,ox⟩:=e.more2 h ab G aI aJ ac;refine oD h 0 rfl (ndV xx) fun bt h _=>?_;have az:∀b∈Bx,w0.heap.size<=b:=fun b A=>zL hz (ac b A);have ox:=ox.now h;have e:=e.now h;have h:=qan h (.refl _)
   all_goals
    apply qaa<;>intro hq;have aB:e1≠0:=by rw[zT] at hq;exact zR.1 hq
    refine oD h 2 rfl (ndV zeroX) fun b3 h _=>oC h 2 rfl zeroX rfl ?_;have e:=e.now h;exact an (ap aB) aB (e.tw'.weakY fun b A=>by simp[A]) e.fr e.sg.new;have bu:e1=0:=by rw[yD] at hq;exact yO.1 hq
    subst bu;have sx:=ak rfl;refine oC h 3 rfl (shX k v) rfl<|oC h 0 rfl xx rfl ?_;have lx:NodeL xx N1:=(ox.node.rd (S:=[]) (fun _ _ h=>(nomatch h)) fun _ h=>nomatch h).lens;refine qv9 lx fun ae aX=>?_;obtain⟨e,h⟩:=e.next0 h aX;have ox:=ox.frame0 aX;apply qaa<;>intro aq;have ag:¬lowN N1 k v:=by rw[zT] at aq;exact zB aq
    have V:=R N1 M1 ai ag;rw[V] at kk;have h:=oF h;have e:=e.now h;have ox:=ox.now h;have h:=qan h (.refl _);refine oA h 1 rfl x.2.2.2 rfl<|oC h 3 rfl (wkX k v pb t) rfl<|oA h 1 rfl x.2.2.2 rfl<|Rds.get e.kidsR c rfl (x:=n.kids[c]) (zA aa) (y:=n.kids[c]) rfl<|oC h 0 rfl xx rfl ?_;have z1:=sx.keys;have z2:=sx.vals;have z3:=sx.kids;have bv:NodeR (Zo FD (bks _++(B++Y)) F1) ae.drew xx N1:=ox.node.rd (fun b A C=>by
     have hs:=e.tw.sep b (by simp[A]);rcases zD.1 C with C|C;rcases zD.1 C with C|C;exact hs.1 C;rcases zG.1 C with C|C;exact hs.2 C;rcases zD.1 C with C|C;exact ox.sep b C A;rcases zD.1 C with C|C;exact e.ysep b C (by simp[A])
     have:=az b A;have:=hT.ylt b C;omega
     exact e.tw.yf b (by simp[A]) C) fun b A=>.inl (qbD (fun b A=>by
     rw[zD,zD] at A⊢;rcases A with A|A|A;exact .inl A;exact .inr (by simp[A]);exact .inr (by simp[A])) b A)
    have e:=e.less (Y1:=Y) fun b A=>zI _ A;refine qbn e.tw bv oJ oJ oJ fun F2 b6 aZ bw bx=>?_;have aK:U32 (storeN k v M1 n.kids[c] N1).1.1:=qbo e.tw.wf hu;obtain⟨e,h⟩:=e.next h aZ bw bx
    generalize storeN k v M1 n.kids[c] N1=st at kk e aK⊢;obtain⟨⟨a1,s1⟩,M2⟩:=st;dsimp only at kk e aK⊢;refine qai (h.cell 1 rfl rfl)<|e.setI h (i:=c) aa rfl aK fun B2 b7 e h _=>oC h 1 rfl x rfl<|oD h 2 rfl (ndV x) fun bz h _=>oC h 2 rfl x rfl ?_;have e:=e.now h;exact kk x B2 F2 bz (fun _=>⟨(fun h=>by dsimp only at h;rw[Q] at h;cases h),fun _=>by dsimp only;rw[xE];omega,by dsimp only;omega,by dsimp only;omega,by dsimp only;rw[xE];omega⟩) e.tw.drop0 (e.node.weak fun b A=>.inl (qeF b A)) e.fr (fun b A=>(e.bnew b A).elim (fun h=>nomatch h) id) e.sg.new;have ag:lowN N1 k v:=by rw[yD] at aq;exact zC aq
    have V:=aH N1 M1 ai ag;have bA:=U N1 M1 ai ag;rw[V] at kk;have e:=e.sub (T1:=[I,r8,r3,r1]) fun b A=>A;have ox:Oth FD F1 ae [I,r8,r3,r1] (B++(Bx++Y)) xx N1 Bx:=ox;have af:∀b∈B++(Bx++([I,r8,r3,r1]++Y)),b∈[I,r8,r3,r1]++(B++(Bx++Y)):=fun b A=>by rw[zD,zD,zD] at A⊢;rcases A with A|A|A|A<;>simp[A]
    have bB:∀b∈Bx,b∉Y:=fun b A C=>by have:=az b A;have:=hT.ylt b C;omega
    have a0:sideOf c+1=c\/c+1=sideOf c:=(by unfold sideOf;split<;>omega);have hs:sideOf c<n.kids.length:=(by unfold sideOf;split<;>omega);have aC:=fun {K':NdC×Int->WP} (bC)=>qui (t:=t) (pb:=pb) (j:=j) (dbk:=dbk) (Y:=[I,r8,r3,r1]++Y) (K:=K') (e.tw.weakY af) (e.node.weak fun b A=>.inl (qbD af b A)) (ox.node.weak fun b A=>.inl (qbD af b A)) (fun b A C=>e.ysep b A (zH _ C)) (fun b A C=>(zD.1 C).elim (fun C=>e.sep b C A) fun C=>e.ysep b A (zI _ C)) (fun b A C=>(zD.1 C).elim (fun C=>ox.sep b C A) (bB b A)) sn sx Q a0 hs aa bA al bC;have a2:=fun h0=>qp0 (D:=D) (M:=M1) (k:=k) (v:=v) (nx:=N1) sn Q a0 hs aa h0;have hS:∀b∈B++(Bx++F1),b∈F\/w0.heap.size<=b:=fun b A=>by rcases zD.1 A with A|A;exact (e.bnew b A).elim (fun h=>nomatch h) .inr;rcases zD.1 A with A|A;exact .inr (az b A);exact e.sg.new b A
    have bD:∀b∈[I,r8,r3,r1],b<ae.heap.size:=fun b A=>e.tw.ylt b (zH _ A);have a3:∀b∈[I,r8,r3,r1],b∉B++(Bx++F1):=fun b A C=>by rcases zD.1 C with C|C;exact e.sep b A C;rcases zD.1 C with C|C;exact ox.sep b A C;exact e.tw.yf b (zH _ A) C
    generalize evenM D k v M1 n (sideOf c) c N1=ev at kk a2 aC;have ar:∀ {z:Int},z=(sideOf c:Int)->(ldA qak ⟨r1,0,none⟩ ae fun a4=>ldA qab ⟨r8,0,none⟩ ae fun a5=>ldA qab ⟨I,0,none⟩ ae fun a6=>
      cW 153 [gAA qak a4,gAA qab a5,Value.int IntKind.i64 z,Value.int IntKind.i64 c,gAA qab a6] [Ty1.agg qab,Ty1.one (Cell.int IntKind.i64)] ae fun aD a7=>
      st ⟨r3,0,none⟩ (HL.mk qab aD.1) a7 fun aE=>ldA qab ⟨r3,0,none⟩ aE fun a8=>K (a8,aD.2) aE):=fun hz=>by
     subst hz;refine oC h 3 rfl (wkX k v pb t) rfl<|oC h 1 rfl x rfl<|oC h 0 rfl xx rfl<|aC fun yn B' F' b' a9 a' ba nB nF=>?_;have h:=qaT h ba a3;refine oD h 2 rfl (ndV yn) fun bE h _=>oC h 2 rfl yn rfl ?_;obtain⟨bF,bG⟩:=qvf (T:=[I,r8,r3,r1]) a9 a' (fun b A C=>(nB b C).elim (e.sep b A) fun h1=>by have:=bD b A;omega) h;exact kk yn B' F' bE a2 bF bG ((e.fr.trans' ba hS).trans' h.fr e.sg.own) (fun b A=>(nB b A).elim (fun h1=>(e.bnew b h1).elim (fun h=>nomatch h) id) fun h1=>zL e.fr.size h1) fun b A=>(nF b A).elim (hS b) fun h1=>.inr (zL e.fr.size h1)
    apply qaa<;>intro aL;have au:0<c:=(by have:=zC aL;omega);refine ar ?_;unfold sideOf;rw[if_pos au,wi' _ oJ];omega;have au:¬0<c:=(by have:=zB aL;omega);refine ar ?_;unfold sideOf;rw[if_neg au,wi' _ oJ];omega
end
end
section
abbrev RtC:=Int×Int×Int
def rtV (x:RtC):Array Value:=#[.u x.1,.u x.2.1,.u x.2.2]
abbrev RT:TypeId:=34
section
variable {S:List Nat} {w:World}
def qmm{h:Nat×Nat}(y:w.heap[vb]?=some (.cells #[elSl ks] T' h))(z:vb∉S)(A:RdB S w ks key):RdK S w ⟨pW vb,1,1⟩ [(ks,key)]:=
 ⟨⟨rfl,zM _,.inr ⟨vb,0,_,T',h,rfl,y,z,fun i x u=>by
  cases i with
  | zero=>cases u;rfl
  | succ i=>simp at u⟩⟩,fun p C=>by rw[zE.1 C];exact A⟩
def qvT{y:Nat×Nat}{a b:Int}(z:w.heap[vb]?=some (.cells #[.u a,.u b] T' y))(A:vb∉S):Rds encU 1 S w ⟨pW vb,2,2⟩ [a,b]:=
 ⟨rfl,zM _,.inr ⟨vb,0,_,T',y,rfl,z,A,fun i x h=>by
  match i,h with
  | 0,h=>cases h;rfl
  | 1,h=>cases h;rfl
  | i+2,h=>simp at h⟩⟩
end
section
variable {dbk pb j:Nat} {FD Y F F' T:List Nat} {D:DiskM} {w0 w w':World} {M M':PgM} {L L':List (Nat×Obj)} {k v:Nat} {t:Int}
def qlw{b:Nat}(h:TW dbk pb FD D j w Y F M)(y:w.heap.size<=b):b∉Zo FD Y F:=fun u=>by have:=h.zlt b u;omega
set_option maxHeartbeats 1000000 in
def qrD{f:Nat}{vs:Sl}{val:Key}{K:Int->WP}(ap:IsB key)(aq:IsB val)(hT:TW dbk pb FD D j w0 Y F M)(hk:RdB (Zo FD Y F) w0 ks key)(hv:RdB (Zo FD Y F) w0 vs val)(y:(rootM M t).1≠0->(putN D k v key val f M (rootM M t).1).1.2≠-1)(u:∀F' w',TW dbk pb FD D j w' Y F' (insertN D k v t key val f M).2->Fr F w0 w'->(∀b∈F',b∈F\/w0.heap.size<=b)->K (insertN D k v t key val f M).1 w'): cW 66 [.agg (wkV (wkX k v pb t)),ks.v,vs.v] [.one .i] w0 K:=by
 refine qhZ ?_;unfold qep;have g:=Sg.start F w0;have h:=oE [] w0;obtain⟨u1,u2,u3⟩:=qkM hT.wf t;refine oB h fun r1 w2 _ _ h=>oA h 0 rfl (pW pb) rfl<|oA h 0 rfl t rfl<|TW.root (hT.frame0 h.fr) fun w6 f6=>?_;have h:=h.frame0 f6;unfold insertN at u;generalize rootM M t=E at u y u1 u2 u3⊢;refine oB h fun r7 w8 _ _ h=>oD h 0 rfl (rtV E) fun w9 h _=>oA h 0 rfl E.1 rfl ?_;apply qaa<;>intro hc;have hc:E.1=0:=yO.1 hc;rw[if_pos hc] at u;refine oC h 1 rfl (wkX k v pb t) rfl ?_;have ad:=hT.now0 h;have aK:=qbL hk h;have aL:=qbL hv h;have g:=g.next0 h (.refl [] _);have h:=qan h (.refl _);refine oB h fun ar bh bi au h=>oB h fun av aM bj aN h=>?_;have bd:=au.size;have R:=au.trans aN;have ab:=ad.frame0 R;have aO:=qlw ad (b:=ar) oJ;have aP:=qlw ad (b:=av) oJ;have ae:=qmm (h.at (i:=1) rfl) aO (aK.frame0 R);have aQ:=qmm (h.at (i:=0) rfl) aP (aL.frame0 R);have hx:NodeR _ aM (true,⟨pW ar,1,1⟩,⟨pW av,1,1⟩,⟨none,0,0⟩) (lfOf [(key,val)]):=⟨rfl,⟨fun a V=>by rw[zE.1 V];exact ap,fun a V=>by rw[zE.1 V];exact aq,fun _ h=>nomatch h⟩,⟨_,ae,rfl⟩,⟨_,aQ,rfl⟩,.nil _ _ _ _⟩;refine qbn ab hx (zO rfl) (zO rfl) (zO rfl) fun F1 aS I aw aT=>?_;have g:=g.next h aw aT
 have h:=qaT (h.sub (.cons _ (.cons _ (.refl _)))) aw fun b hb=>ab.yf b (zH _ hb);have hu:U32 (storeN k v M 0 (lfOf [(key,val)])).1.1:=qbo hT.wf qdL;unfold rootTo at u;generalize storeN k v M 0 (lfOf [(key,val)])=st at u I hu⊢;obtain⟨⟨q,e⟩,M1⟩:=st;dsimp only at u I hu⊢;apply qaa<;>intro C;have y:e≠0:=by rw[zT] at C;exact zR.1 C
 rw[if_pos y] at u;exact u F1 aS I.drop0 g.tot g.new;have y:¬e≠0:=by rw[yD] at C;exact fun h=>h (yO.1 C)
 rw[if_neg y] at u;exact oA h 1 rfl (pW pb) rfl<|oA h 1 rfl t rfl<|TW.setRoot I hu ⟨oM,oM⟩ ⟨oM,oM⟩ fun aU ax aV=>u F1 aU ax.drop0 (g.tot.trans' aV g.new) g.new;have hc:E.1≠0:=zR.1 hc;rw[if_neg hc] at u;refine oC h 1 rfl (wkX k v pb t) rfl<|oA h 0 rfl E.1 rfl<|qmr ap aq f (hT.now0 h) u1 (qbL hk h) (qbL hv h) (y hc) fun gs F1 ay hG G ag az aW=>?_;have g:=g.next h az aW
 have h:=(hT.now0 h).own h az;generalize putN D k v key val f M E.1=pn at u hG G ag⊢;obtain⟨⟨A,e1⟩,M1⟩:=pn;dsimp only at hG G ag⊢;unfold growN at u;dsimp only at u;refine oB h fun aA bl _ _ h=>oD h 0 rfl (grV (grX A gs)) fun aX h _=>?_;apply qaa<;>intro C;have y:e1≠0:=by rw[zT] at C;exact zR.1 C
 rw[if_pos y] at u;exact u F1 aX (G.now h).drop0 (g.fr h) g.new;have y:¬e1≠0:=by rw[yD] at C;exact fun h=>h (yO.1 C)
 rw[if_neg y] at u;refine oA h 0 rfl A.page rfl<|oD h 1 rfl (rtV (A.page,E.2.1,E.2.2)) fun bm h _=>?_;have aB:U32 (if A.fresh then wrap .u32 (E.2.1+1) else E.2.1):=by split;exact qaR _;exact u2
 refine qaf (fun _ w'=>Own [r7,r1] ay w' [(aA,.cells (grV (grX A gs)) GR (0,0)),(r7,.cells (rtV (A.page,(if A.fresh then wrap .u32 (E.2.1+1) else E.2.1),E.2.2)) RT (0,0)),(r1,.cells (wkV (wkX k v pb t)) WK (0,0))]) ?_ ?_;refine oA h 0 rfl A.fresh rfl ?_;apply qaa<;>intro z;rw[if_pos z];refine oA h 1 rfl E.2.1 rfl<|oD h 1 rfl (rtV (A.page,wrap .u32 (E.2.1+1),E.2.2)) fun bn h _=>h;rw[if_neg (by rw[z];decide)];exact h;intro _ aY h;generalize (if A.fresh then wrap .u32 (E.2.1+1) else E.2.1)=Q at u aB h;refine qaf (fun _ w'=>∃(a c:Int) (F2 T:List Nat) (M2:PgM) (wa:World),Sg F w0 wa F2 T/\TW dbk pb FD D j wa (T++Y) F2 M2/\Own T wa w' [(aA,.cells (grV (grX A gs)) GR (0,0)),(r7,.cells (rtV (a,Q,c)) RT (0,0)),(r1,.cells (wkV (wkX k v pb t)) WK (0,0))]/\U32 a/\U32 c/\
  ∀F' w',TW dbk pb FD D j w' Y F' (setRootM M2 t a Q c).2->Fr F w0 w'->(∀b∈F',b∈F\/w0.heap.size<=b)->K (setRootM M2 t a Q c).1 w') ?_ ?_
 refine oA h 0 rfl A.other rfl ?_;apply qaa<;>intro z;have z:A.other≠0:=by rw[zT] at z;exact zR.1 z
 rw[if_pos z] at u;refine oC h 2 rfl (wkX k v pb t) rfl<|oA h 0 rfl gs rfl ?_;have J:=TW.now (T:=[r7,r1]) G h;have ai:=qaQ (T:=[r7,r1]) ag h;have g:Sg F w0 aY F1 (bks _):=g.next0 h (.refl [] _);have h:=qan h (.refl _);refine oB h fun aC bo bp aD h=>oA h 1 rfl A.page rfl<|oA h 1 rfl A.other rfl<|oB h fun aE aZ bq a0 h=>?_;have bf:=aD.size;have aF:=aD.trans a0;have ac:=J.frame0 aF;have a1:=qlw J (b:=aC) oJ;have a2:=qlw J (b:=aE) oJ;have ae:=qmm (h.at (i:=1) rfl) a1 (ai.frame0 aF);have a3:=qvT (h.at (i:=0) rfl) a2;have hx:NodeR _ aZ (false,⟨pW aC,1,1⟩,⟨none,0,0⟩,⟨pW aE,2,2⟩) ⟨false,[A.key],[],[A.page,A.other]⟩:=⟨rfl,⟨fun a V=>by rw[zE.1 V];exact hG.key,fun _ h=>(nomatch h),fun a V=>by simp only[zG,xT,or_false] at V;rcases V with rfl|rfl;exact hG.page;exact hG.other⟩,⟨_,ae,rfl⟩,⟨_,.nil _ _,rfl⟩,a3⟩;refine qbn ac hx (zO rfl) (zO rfl) (zO rfl) fun F2 aG O aH a4=>?_;have g:=g.next h aH a4
 have h:=qaT (h.sub (.cons _ (.cons _ (.refl _)))) aH fun b hb=>ac.yf b (zH _ hb);have hu:U32 (storeN k v M1 0 ⟨false,[A.key],[],[A.page,A.other]⟩).1.1:=qbo J.wf qdL;unfold rootTo at u;generalize storeN k v M1 0 ⟨false,[A.key],[],[A.page,A.other]⟩=st at u O hu⊢;obtain⟨⟨q,e⟩,M2⟩:=st;dsimp only at u O hu⊢;apply qaa<;>intro U;have y:e≠0:=by rw[zT] at U;exact zR.1 U
 rw[if_pos y] at u;exact u F2 aG O.drop0 g.tot g.new;have y:¬e≠0:=by rw[yD] at U;exact fun h=>h (yO.1 U)
 rw[if_neg y] at u;exact oA h 1 rfl E.2.2 rfl<|oD h 1 rfl (rtV (q,Q,E.2.2)) fun br h _=>oD h 1 rfl (rtV (q,Q,wrap .u32 (E.2.2+1))) fun bs h _=>⟨q,_,F2,_,M2,aG,⟨g.tot,g.new,fun b hb=>g.own b (by simp at hb⊢;rcases hb with h|h|h<;>simp[h])⟩,O,h,hu,qaR _,u⟩;have z:¬A.other≠0:=by rw[yD] at z;exact fun h=>h (yO.1 z)
 rw[if_neg z] at u;exact⟨A.page,E.2.2,F1,[r7,r1],M1,ay,g,G,h,hG.page,u3,u⟩;rintro _ bt ⟨a,c,F2,T,M2,wa,g,a5,h,V,a6,u⟩;exact oA h 2 rfl (pW pb) rfl<|oA h 2 rfl t rfl<|oC h 1 rfl (a,Q,c) rfl<|TW.setRoot (a5.now h) V aB a6 fun a7 aI a8=>u F2 a7 aI.drop0 ((g.fr h).trans' a8 g.new) g.new
end
end
section
section
variable {dbk pb j:Nat} {FD Y F F' T:List Nat} {D:DiskM} {w0 w w':World} {M M':PgM} {L L':List (Nat×Obj)} {k v:Nat} {t:Int}
def Oth.rd{x:NdC}{n:NodeM}{B:List Nat}(o:Oth FD F w T (B++Y) x n B)(z:TW dbk pb FD D j w (T++(B++Y)) F M)(y:∀b∈B,b∉Y):NodeR (Zo FD (T++Y) F) w x n:=
 o.node.rd (fun b h u=>by
  have A:=z.sep b (by simp[h]);simp only[Zo,zD,zG] at u;rcases u with (u|u|u|u)|u;exact A.1 u;exact A.2 u;exact o.sep b u h;exact y b h u;exact z.yf b (by simp[h]) u) fun b h=>.inl (qbD (fun b h=>by
  rw[zD] at h;simp only[zD];rcases h with h|h;exact .inl h;exact .inr (.inr h)) b h)
def Oth.next(o:Oth FD F w T R x n B)(f:Fr F w w')(h:∀b∈B,b∉F)(u:∀b∈F',b∈F\/w.heap.size<=b):Oth FD F' w' T R x n B:=⟨o.node.frame f h (fun b y=>.inl (zoF y)) (TW.znew u),o.sep⟩
def qtC{r:Int×Int×Int}{N:NodeM}:shrinkN k v t r ((N,0),M) = if N.leaf=true/\N.keys.length=0 then (if (dropV M r.1).1≠0 then ((dropV M r.1).1,(dropV M r.1).2) else setRootM (dropV M r.1).2 t 0 0 0) else if N.leaf=false/\N.kids.length=1 then (if (dropV M r.1).1≠0 then ((dropV M r.1).1,(dropV M r.1).2) else setRootM (dropV M r.1).2 t (N.kids.getD 0 0) (wrap .u32 (r.2.1-1)) (wrap .u32 (r.2.2-1))) else rootTo t (storeN k v M r.1 N) (wrap .u32 (r.2.1-1)) r.2.2:=by unfold shrinkN;rw[if_neg (fun h=>h rfl)]
set_option maxHeartbeats 1000000 in
def qr4{f:Nat}{K:Int->WP}(aC:IsB key)(aj:CapsOk k v)(hT:TW dbk pb FD D j w0 Y F M)(hk:RdB (Zo FD Y F) w0 ks key)(J:cutSafe D k v key f M (rootM M t).1)(A:∀F' w',TW dbk pb FD D j w' Y F' (removeN D k v t key f M).2->Fr F w0 w'->(∀b∈F',b∈F\/w0.heap.size<=b)->K (removeN D k v t key f M).1 w'): cW 71 [.agg (wkV (wkX k v pb t)),ks.v] [.one .i] w0 K:=by
 refine qh0 ?_;unfold qeq;have g:=Sg.start F w0;have h:=oE [] w0;obtain⟨u1,u2,u3⟩:=qkM hT.wf t;refine oB h fun r1 w2 _ _ h=>oA h 0 rfl (pW pb) rfl<|oA h 0 rfl t rfl<|TW.root (hT.frame0 h.fr) fun w6 f6=>?_;have h:=h.frame0 f6;unfold removeN at A;generalize rootM M t=C at A J u1 u2 u3⊢;refine oB h fun r7 w8 _ _ h=>oD h 0 rfl (rtV C) fun w9 h _=>oC h 1 rfl (wkX k v pb t) rfl<|oA h 0 rfl C.1 rfl<|qmb aC aj f (hT.now0 h) u1 (qbL hk h) J fun x B F1 am ae O Q an ab aE=>?_;have aF:=qiB h;have a0:=h.fr.size;have g:=g.next h an aE
 have h:=(hT.now0 h).own h an;generalize cutN D k v key f M C.1=cn at A ae O Q⊢;obtain⟨⟨N,e1⟩,M1⟩:=cn;dsimp only at ae O Q⊢;have ao:TW dbk pb FD D j am ([r7,r1]++(B++Y)) F1 M1:=O.weakY fun b u=>by rw[zD,zD] at u;simp only[zD];rcases u with u|u|u;exact .inr (.inl u);exact .inl u;exact .inr (.inr u)
 have o:Oth FD F1 am [r7,r1] (B++Y) x N B:=⟨Q.weak fun b u=>.inl (qbD (fun b u=>by rw[zD,zD] at u;simp only[zD];rcases u with u|u|u;exact .inr (.inl u);exact .inl u;exact .inr (.inr u)) b u),fun b u hm=>by have:=aF b u;have:=ab b hm;omega⟩;have aH:∀b∈B,b∉Y:=fun b u hm=>by have:=hT.ylt b hm;have:=ab b u;omega
 have E:∀ {T:List Nat},∀b∈T++Y,b∈T++(B++Y):=fun b u=>by rw[zD] at u;simp only[zD];rcases u with u|u;exact .inl u;exact .inr (.inr u)
 refine oB h fun aI a2 _ _ h=>oD h 0 rfl (ndV x) fun aJ h _=>?_;apply qaa<;>intro G;have R:e1≠0:=by rw[zT] at G;exact zR.1 G
 have e:shrinkN k v t C ((N,e1),M1)=(e1,M1):=(by unfold shrinkN;rw[if_pos R]);rw[e] at A;exact A F1 aJ ((TW.now (T:=[r7,r1]) ao h).weakY fun b u=>by simp[u]) (g.fr h) g.new;have aK:e1=0:=(by rw[yD] at G;exact yO.1 G);subst aK;rw[qtC] at A;have V:x.1=N.leaf:=o.node.1;have ap:NodeL x N:=(o.node.rd (S:=[]) (fun _ _ h=>(nomatch h)) fun _ h=>nomatch h).lens;have af:U32 (wrap .u32 (C.2.1-1)):=qaR _;refine oA h 1 rfl C.2.1 rfl<|oD h 1 rfl (rtV (C.1,wrap .u32 (C.2.1-1),C.2.2)) fun aq h _=>?_;generalize wrap .u32 (C.2.1-1)=aa at A af h;have z:=TW.now (T:=[r7,r1]) ao h;have o:=o.now h;have g:Sg F w0 aq F1 (bks _):=g.next0 h (.refl [] _);have h:=qan h (.refl _);refine qaf (fun e w'=>∃(a b c:Int) (U T:List Nat) (M2:PgM) (wa:World),Sg F w0 wa U T/\TW dbk pb FD D j wa (T++Y) U M2/\Own T wa w' [(aI,.cells (ndV x) ND (0,0)),(r7,.cells (rtV (a,b,c)) RT (0,0)),(r1,.cells (wkV (wkX k v pb t)) WK (0,0))]/\U32 a/\U32 b/\U32 c/\
  ∀F' w',TW dbk pb FD D j w' Y F' (if e≠0 then (e,M2) else setRootM M2 t a b c).2->Fr F w0 w'->(∀b∈F',b∈F\/w0.heap.size<=b)->K (if e≠0 then (e,M2) else setRootM M2 t a b c).1 w') ?_ ?_
 refine qaf (fun d w'=>d=decide (N.leaf=true/\N.keys.length=0)/\w'=aq) ?_ ?_;refine oA h 0 rfl x.1 rfl ?_;apply qaa<;>intro G;rw[V] at G;refine oA h 0 rfl x.2.1 rfl ⟨?_,rfl⟩;rw[ap.keys,Bool.eq_iff_iff,yO,yM];exact⟨fun h=>⟨G,oJ⟩,fun h=>by rw[h.2];rfl⟩;rw[V] at G;exact⟨(zU fun h=>by rw[G] at h;exact absurd h.1 oM).symm,rfl⟩;rintro d aL ⟨rfl,rfl⟩;apply qaa<;>intro hd;have hd:=zC hd;rw[if_pos hd] at A;refine oA h 2 rfl (pW pb) rfl<|oA h 1 rfl C.1 rfl<|TW.drop (z.weakY E) fun U aM ar au aN=>?_;have g:=g.next h au aN
 have h:=TW.own (z.weakY E) h au;exact oD h 1 rfl (rtV (0,0,0)) fun a3 h _=>⟨0,0,0,U,_,_,aM,g,ar,h,qdL,qdL,qdL,A⟩;have hd:=zB hd;rw[if_neg hd] at A;refine qaf (fun d w'=>d=decide (N.leaf=false/\N.kids.length=1)/\w'=aL) ?_ ?_;refine oA h 0 rfl x.1 rfl ?_;apply qaa<;>intro G;rw[V,zT] at G;refine oA h 0 rfl x.2.2.2 rfl ⟨?_,rfl⟩;rw[ap.kids,Bool.eq_iff_iff,yO,yM];exact⟨fun h=>⟨G,oJ⟩,fun h=>by rw[h.2];rfl⟩;rw[V,yD] at G;exact⟨(zU fun h=>by rw[G] at h;exact absurd h.1 oM).symm,rfl⟩;rintro d a4 ⟨rfl,rfl⟩;apply qaa<;>intro I;have I:=zC I;rw[if_pos I] at A;have ah:0<N.kids.length:=oJ;rw[qdC ah] at A;have aO:U32 N.kids[0]:=o.node.2.1.2.2 _ (zW ah);refine oA h 2 rfl (pW pb) rfl<|oA h 1 rfl C.1 rfl<|TW.drop z fun U aP av ai aw=>?_;have g:=g.next h ai aw
 have o:=o.next ai (fun b u=>z.yf b (by simp[u])) aw
 have h:=TW.own z h ai;have h:=oF h;refine oA h 0 rfl x.2.2.2 rfl ?_;have oR:NodeR [] _ x N:=(o.now h).node.rd (S:=[]) (fun _ _ h=>(nomatch h)) fun _ h=>nomatch h;exact Rds.get oR.2.2.2.2 0 rfl (x:=N.kids[0]) (zA ah) (y:=N.kids[0]) rfl<|oA h 1 rfl C.2.2 rfl<|oD h 1 rfl (rtV (N.kids[0],aa,C.2.2)) fun a6 h _=>oD h 1 rfl (rtV (N.kids[0],aa,wrap .u32 (C.2.2-1))) fun a7 h _=>⟨_,_,_,U,_,_,aP,g,av.weakY E,h,aO,af,qaR _,A⟩;have I:=zB I;rw[if_neg I] at A;have sx:=ae rfl;have z1:=sx.keys;have z2:=sx.vals;have z3:=sx.kids;refine oC h 2 rfl (wkX k v pb t) rfl<|oA h 1 rfl C.1 rfl<|oC h 0 rfl x rfl<|qbn (z.weakY E) (o.rd z aH) oJ oJ oJ fun U aR ad ax aS=>?_;have ay:U32 (storeN k v M1 C.1 N).1.1:=qbo z.wf u1;have g:=g.next h ax aS
 have h:=TW.own (z.weakY E) h ax;unfold rootTo at A;generalize storeN k v M1 C.1 N=st at A ad ay⊢;obtain⟨⟨q,e2⟩,M2⟩:=st;exact oD h 1 rfl (rtV (q,aa,C.2.2)) fun a8 h _=>⟨q,aa,C.2.2,U,_,M2,aR,g,ad,h,ay,af,u3,A⟩;rintro e aT ⟨a,b,c,U,T,M2,wa,g,az,h,ua,ub,uc,A⟩;apply qaa<;>intro I;have R:e≠0:=by rw[zT] at I;exact zR.1 I
 rw[if_pos R] at A;exact A U aT (az.now h).drop0 (g.fr h) g.new;have R:¬e≠0:=by rw[yD] at I;exact fun h=>h (yO.1 I)
 rw[if_neg R] at A;exact oA h 2 rfl (pW pb) rfl<|oA h 2 rfl t rfl<|oC h 1 rfl (a,b,c) rfl<|TW.setRoot (az.now h) ua ub uc fun aU aA aV=>A U aU aA.drop0 ((g.fr h).trans' aV g.new) g.new
end
end
end
section
open Go Go.Pt List
open Go.IntKind (wrap)
open Classical
def qta{S:Type}{B:(S->WP)->S->WP}(I:Nat->S->WP)(z:∀f s w (X:S->WP),I f s w->(∀u y w',u<f->I u y w'->X y w')->B X s w):∀(f:Nat) {s:S} {w:World},I f s w->loop S B s w:=fun f=>by
 induction f using Nat.strongRecOn with
 | ind f ih=>exact fun {s w} h=>qcE fun X A=>z f s w X h fun u y w' C hi=>A _ _ (ih u C hi)
attribute [local irreducible] ld ldA ldV fld fldA newZ st new idx idxS idxA slc slcS slcP mkS chk nn call callV inv run runQ runU join loop held ext rng undefer s2a nxt ent IntKind.wrap
noncomputable def getN (D:DiskM) (k v:Nat) (key:Key) (M:PgM):Nat->Int->Key×Int
 | 0,p=>if p=0 then ([],5) else ([],-1)
 | f+1,p=>if p=0 then ([],5)
  else if (loadN D M k v p).2≠0 then ([],(loadN D M k v p).2)
  else if (loadN D M k v p).1.leaf then
   if (loadN D M k v p).1.keys[placeV (loadN D M k v p).1.keys key]?=some key then ((loadN D M k v p).1.vals.getD (placeV (loadN D M k v p).1.keys key) [],0) else ([],5)
  else getN D k v key M f ((loadN D M k v p).1.kids.getD (kidV (loadN D M k v p).1.keys key) 0)
section
variable {dbk pb j:Nat} {FD Y F F' T:List Nat} {D:DiskM} {w0 w w':World} {M M':PgM} {k v:Nat} {t:Int}
def qu0{f:Nat}{ks:Sl}{key:Key}{K:Sl×Int->WP}(ac:IsB key)(hs:shp t=((k:Int),(v:Int)))(ar:k≠0)(aU:key.length=k)(hT:TW dbk pb FD D j w0 Y F M)(hk:RdB (Zo FD Y F) w0 ks key)(J:(getN D k v key M f (rootM M t).1).2≠-1)(kk:∀s w',(∀G:List Nat,(∀b∈G,b<w0.heap.size)->RdB G w' s (getN D k v key M f (rootM M t).1).1)->Fr [] w0 w'->K (s,(getN D k v key M f (rootM M t).1).2) w'): cW 37 [.pointer (pW pb),.i t,ks.v] [.one .slice,.one .i] w0 K:=by
 refine qqq ?_;unfold qnA;have aM:=hk.1;refine qkh (k:=k) (v:=v) hs (fun h=>absurd h ar) (fun _ h=>absurd oJ h) fun _ _ w2 f2=>?_;have h:=(oE [] w0).frame0 f2;refine oB h fun r3 w4 _ _ h=>oD h 0 rfl (wkV (wkX k v pb t)) fun w5 h _=>cond_false rfl<|TW.root (hT.frame0 h.fr) fun w7 f7=>?_;have h:=h.frame0 f7;have hu:=(qkM hT.wf t).1;generalize rootM M t=rt at kk J hu⊢;generalize ae:getN D k v key M f rt.1=af at kk J;refine qaf (fun _ w'=>af=([],5)/\Fr [] w0 w') ?_ ?_
 ·refine qta (fun f s w'=>getN D k v key M f s=af/\U32 s/\Own [] w0 w' [(r3,.cells (wkV (wkX k v pb t)) WK (0,0))]) ?_ f ⟨ae,hu,h⟩;rintro f s aZ X ⟨u,aw,h⟩ hX;apply qaa<;>intro R
  ·have O:s≠0:=(by rw[zT] at R;exact zR.1 R);cases f with
   | zero=>
    unfold getN at u;rw[if_neg O] at u;rw[<- u] at J;exact absurd rfl J
   | succ f=>
   unfold getN at u;rw[if_neg O] at u;refine oC h 0 rfl (wkX k v pb t) rfl ?_;rcases U:loadN D M k v s with ⟨n,e0⟩;rw[U] at u;dsimp only at u;refine qgg (k:=k) (v:=v) (hT.frame0 h.fr) aw fun x B ax aO z ay aP=>?_;rw[U] at z⊢;dsimp only at z⊢;have I:NodeR [] ax x n:=z.rd (fun _ _ h=>(nomatch h)) fun _ h=>nomatch h;have h:=h.frame0 ay;have aQ:=h.fr;refine oB h fun ag az a1 aA h=>?_;have I:NodeR [ag] az x n:=(I.weak (S':=[ag]) fun b hb=>by rw[zE.1 hb];exact .inr oJ).frame0 aA;refine oD h 0 rfl (ndV x) fun ah h aC=>?_;have I:=I.frame aC fun b hb=>.inl hb;apply qaa<;>intro A;have ai:e0≠0:=by rw[zT] at A;exact zR.1 A
   rw[if_pos ai] at u;subst u;exact kk ⟨none,0,0⟩ ah (fun _ _=>.nil _ _ _ _) h.fr;have aD:e0=0:=by rw[yD] at A;exact yO.1 A
   subst aD;rw[if_neg (fun h=>h rfl)] at u;have hr:=qes U;obtain⟨l1,l2,l3,l4,l5⟩:=qev hr;have aj:x.1=n.leaf:=I.1;refine oA h 0 rfl x.1 rfl ?_;apply qaa<;>intro C;have E:n.leaf=false:=(by rw[aj,zT] at C;exact C);rw[if_neg (by rw[E];decide)] at u;obtain⟨l6,l7,l8⟩:=l5 E;have aR:=qi9 n.keys key;have fd:=(Fr.refl [] ah).drew;have h:=oF h;refine oA h 0 rfl x.2.2.2 rfl<|oC h 0 rfl x rfl<|qob (I.frame0 fd) (hk.frame0 h.fr) ac hr.2.2.1 oJ fun aE ak=>?_;have h:=h.frame0 ak;refine qai (h.cell 0 rfl rfl) ?_;have V:kidV n.keys key<n.kids.length:=oJ;refine Rds.get ((I.frame0 fd).frame0 ak).2.2.2.2 (kidV n.keys key) rfl (zA V) (y:=n.kids[kidV n.keys key]) rfl ?_;rw[qdC V] at u;exact hX f _ aE (Nat.lt_succ_self f) ⟨u,I.2.1.2.2 _ (zW V),h.sub (sublist_cons_self _ _)⟩;have E:n.leaf=true:=(by rw[aj,yD] at C;exact C);rw[if_pos E] at u;obtain⟨l6,l7⟩:=l4 E;refine oC h 0 rfl x rfl<|qkf I (hk.frame0 h.fr) ac hr.2.2.1 oJ fun a6 al=>?_;have h:=h.frame0 al;apply qaa<;>intro aa;have am:=zC aa;rw[if_pos am] at u;have a7:=(zP.1 am).1;obtain⟨pv,an,ab⟩:=(I.frame0 al).2.2.2.1;have Q:placeV n.keys key<pv.length:=by
    have:=congrArg List.length ab
    rw[zK] at this;omega
   refine oA h 0 rfl x.2.2.1 rfl<|RdK.get an (placeV n.keys key) rfl Q ?_;have ao:n.vals.getD (placeV n.keys key) []=pv[placeV n.keys key].2:=(by rw[<- ab,qds Q]);rw[ao] at u;have aF:pv[placeV n.keys key].2.length<=1000000:=by have h1:=hr.2.1 pv[placeV n.keys key].2 (by rw[<- ab];exact zY (zW Q));have h2:=qkZ (k:=k) (v:=v) oJ;omega
   refine qf4 (an.2 _ (zW Q)) aF fun s' B' aG aH aI aJ _ _=>?_;subst u;have a9:=h.fr.size;exact kk s' aG (fun G hG=>aH.rds qas fun c R hm=>by have:=aJ c R;have:=hG c hm;omega) (h.fr.trans aI);have ap:=zB aa;rw[if_neg ap] at u;exact⟨u.symm,h.fr⟩
  have O:s=0:=(by rw[yD] at R;exact yO.1 R);refine⟨?_,h.fr⟩;rw[<- u];cases f<;>(unfold getN;rw[if_pos O])
 rintro _ aK ⟨rfl,aL⟩;exact kk ⟨none,0,0⟩ aK (fun _ _=>.nil _ _ _ _) aL
end
end
section
open Go Go.Pt List
open Go.IntKind (wrap)
open Classical
variable {L:Prs} {P:List Int} {key val:Key} {t:Int}
def getP (key:Key) (L:Prs):Option Key:=(L.find? fun x=>decide (x.1=key)).map (·.2)
def qkr{A B:Prs}:getP key (A++B)=match getP key A with|some v=>some v|none=>getP key B:=by unfold getP;rw[List.find?_append];cases A.find? (fun x=>decide (x.1=key))<;>rfl
def qdP(h:∀x∈L,x.1≠key):getP key L=none:=by unfold getP;rw[List.find?_eq_none.2 fun x u=>by simp[h x u]];rfl
def qsS(h:key∈keysP L):∃v,getP key L=some v:=by
 unfold getP;obtain⟨x,u,rfl⟩:=mem_map.1 h;cases e:L.find? (fun y=>decide (y.1=x.1)) with
 | none=>exact absurd (List.find?_eq_none.1 e x u) oL
 | some y=>exact⟨y.2,rfl⟩
section
variable {D:DiskM} {M M':PgM} {k v:Nat} {key:Key}
def Has.get:∀ {h:Nat} {s:Seg},Has D M k v h s->s.page≠0->M.Wf->M.over=false->getN D k v key M (h+1) s.page=match getP key s.prs with|some x=>(x,0)|none=>([],5)
 | 0,s,hs,V,hW,ho=>by
  obtain⟨h1,h2,Q,h4⟩:=hs;have hl:loadN D M k v s.page=(lfOf s.prs,0):=Q.load h4;have R:SortP s.prs:=Q.right.2.2.1;have ag:(lfOf s.prs).keys=keysP s.prs:=rfl;unfold getN;rw[if_neg V,hl];dsimp only;rw[if_neg (fun h=>h rfl),if_pos (show (lfOf s.prs).leaf=true from rfl),ag];by_cases hm:(keysP s.prs)[placeV (keysP s.prs) key]?=some key
  ·rw[if_pos hm];have hi:placeV (keysP s.prs) key<s.prs.length:=by
    have:=(zP.1 hm).1
    simpa using this
   have ah:=qdE (k:=key) R;have U:s.prs=s.prs.take (placeV (keysP s.prs) key)++s.prs[placeV (keysP s.prs) key]::s.prs.drop (placeV (keysP s.prs) key+1):=by rw[getElem_cons_drop,xC]
   have E:s.prs[placeV (keysP s.prs) key].1=key:=(by rw[zQ,zA hi] at hm;simpa using hm);have hg:getP key s.prs=some s.prs[placeV (keysP s.prs) key].2:=by
    conv=>lhs;rw[U]
    rw[qkr,qdP fun x u=>qge (ah.1 x u)];unfold getP;rw[List.find?_cons_of_pos (by simp[E])];rfl
   rw[hg];show ((List.map (·.2) s.prs).getD _ [],(0:Int))=_;rw[yQ,zQ,zA hi];rfl
  rw[if_neg hm];have hn:key∉keysP s.prs:=fun h=>hm ((qb8 R).2 h);rw[qdP fun x u e=>hn (by rw[<- e];exact zY u)]
 | h+1,⟨p,n,L,P⟩,⟨O,h0,h1,h2,Q,h4,h5,h6,h7⟩,V,hW,ho=>by
  dsimp only at h1 h2 Q h5 V;subst h1 h2 Q;have hl:loadN D M k v p=(inOf O,0):=h4.load h5;obtain⟨A,e,B,G,hA,E,ai,I⟩:=qgZ (key:=key) h0 h6;have J:(inOf O).kids.getD (kidV (inOf O).keys key) 0=e.2.page:=I;have aj:e∈O:=(by rw[G];simp);obtain⟨K,_⟩:=h7 e aj;have aw:=qa9 hW (K.used ho e.2.page K.mem);unfold getN;rw[if_neg V,hl];dsimp only;rw[if_neg (fun h=>h rfl),if_neg (show ¬(inOf O).leaf=true from fun e=>nomatch e),J,K.get oJ hW ho];have C:=h6;rw[G] at C;have y:=C.mid;have z:O.flatMap (·.2.prs)=A.flatMap (·.2.prs)++(e.2.prs++B.flatMap (·.2.prs)):=(by rw[G,qaH]);have ak:∀x∈A.flatMap (·.2.prs),x.1≠key:=fun x u=>by obtain⟨a,ha,u⟩:=yJ.1 u;exact qge (qbi (y.1 a ha x u) E)
  have al:∀x∈B.flatMap (·.2.prs),x.1≠key:=fun x u=>by obtain⟨b,hb,u⟩:=yJ.1 u;exact (qge (qbi (ai b hb) ((y.2 b hb).2.2 x u))).symm
  rw[z,qkr,qdP ak,qkr,qdP al];cases getP key e.2.prs<;>rfl
def Has.safe(hc:CapsOk k v):∀(h:Nat) (M:PgM) (s:Seg),Has D M k v h s->M.Wf->M.over=false->s.pages.Nodup->key∈keysP s.prs->2*h<=M.free.length->cutSafe D k v key (h+1) M s.page
 | 0,M,s,hs,hW,ho,V,G,hf=>fun n hn hl=>by have aa:loadN D M k v s.page=(lfOf s.prs,0):=hs.2.2.1.load hs.2.2.2;rw[aa] at hn;cases hn;cases hl
 | h+1,M,⟨p,n,L,P⟩,⟨C,h0,h1,h2,h3,h4,h5,h6,h7⟩,hW,ho,V,G,hf=>fun n' hn hl=>by
  dsimp only at h1 h2 h3 h5 V G hn;subst h1 h2 h3;have aq:loadN D M k v p=(inOf C,0):=h4.load h5;rw[aq] at hn;cases hn;obtain⟨A,e,B,z,hA,ar,au,ab⟩:=qgZ (key:=key) h0 h6;have ac:(inOf C).kids.getD (kidV (inOf C).keys key) 0=e.2.page:=ab;have av:kidV (inOf C).keys key=A.length:=hA.symm;have aw:e∈C:=(by rw[z];simp);obtain⟨ai,ax⟩:=h7 e aw;have ad:C.flatMap (·.2.pages)=A.flatMap (·.2.pages)++(e.2.pages++B.flatMap (·.2.pages)):=(by rw[z,qaH]);have K:C.flatMap (·.2.prs)=A.flatMap (·.2.prs)++(e.2.prs++B.flatMap (·.2.prs)):=(by rw[z,qaH]);have O:(A.flatMap (·.2.pages)++(e.2.pages++B.flatMap (·.2.pages))).Nodup:=(by rw[<- ad];exact (nodup_cons.1 V).2);have Q:e.2.pages.Nodup:=(yL.1 (yL.1 O).2.1).1;have R:=h6;rw[z] at R;have I:=R.mid;have J:key∈keysP e.2.prs:=by obtain⟨x,y,rfl⟩:=mem_map.1 G;rw[K] at y;rcases zD.1 y with y|y;obtain⟨a,ha,y⟩:=yJ.1 y;exact absurd (qbi (I.1 a ha x y) ar) qaD;rcases zD.1 y with y|y;exact zY y;obtain⟨b,E,y⟩:=yJ.1 y;exact absurd (qbi (au b E) ((I.2 b E).2.2 x y)) qaD
  obtain⟨N1,n1,M1,Re,aV,ec,ay,aj,st,aX,aY⟩:=treeCut hc h M e.2 ai hW ho Q J oJ;rw[ac];refine⟨ai.safe hc h M e.2 hW ho Q J oJ,fun N M2 U aO ny ae=>?_⟩;rw[ec] at U;cases U;have az:N1.leaf=decide (h=0):=by
   cases h with
   | zero=>rw[aj.1];rfl
   | succ h=>obtain⟨aZ,_,h',_⟩:=aj;rw[h'];rfl
  have u:∀b,(b∈A\/b∈B)->(inOf C).kids.getD (sideOf (kidV (inOf C).keys key)) 0=b.2.page->ny.leaf=N1.leaf:=fun b E aA=>by
   rw[aA] at ae;have aB:b∈C:=by rw[z];rcases E with E|E<;>simp[E]
   obtain⟨ak,_⟩:=h7 b aB;have al:Has D M1 k v h b.2:=ak.frame fun x y=>(st.rest x (ak.used ho x y) fun hm=>by have am:x∈e.2.pages:=(by rw[ay];exact zN _ hm);have hd:=yL.1 O;have aC:=yL.1 hd.2.1;rcases E with E|E;exact hd.2.2 x (yJ.2 ⟨b,E,y⟩) x (zH _ am) rfl;exact aC.2.2 x am x (yJ.2 ⟨b,E,y⟩) rfl).1;obtain⟨N2,R2,aa,_,_,an,_⟩:=al.load;rw[aa] at ae;cases ae;rw[an,az]
  have h2:=h4.right.innerTwo.1;rw[av] at u;have aD:(inOf C).kids=C.map (·.2.page):=rfl;rw[aD] at u;by_cases hA0:A.length>0;have hs:sideOf A.length=A.length-1:=(by unfold sideOf;rw[if_pos hA0]);obtain⟨A',b,rfl⟩:∃A' b,A=A'++[b]:=⟨A.dropLast,A.getLast (length_pos_iff.1 hA0),(dropLast_concat_getLast _).symm⟩;refine u b (.inl oL) ?_;rw[hs,z];simp[yQ];have hs:sideOf A.length=A.length+1:=(by unfold sideOf;rw[if_neg hA0]);have aE:A=[]:=eq_nil_of_length_eq_zero oJ;subst aE;cases B with
  | nil=>rw[z] at h2;simp at h2
  | cons b B=>
   refine u b (.inr oL) ?_;rw[hs,z];rfl
def TreeIs.get{t:Int}{L:Prs}{P:List Int}(y:TreeIs D M k v t L P)(z:M.Wf)(A:M.over=false):getN D k v key M (rootM M t).2.2.toNat (rootM M t).1=match getP key L with|some x=>(x,0)|none=>([],5):=by rcases y with ⟨e0,rfl,rfl⟩|⟨h,n,p,u,C,E⟩;rw[e0];rfl;rw[C];dsimp only;rw[zJ];exact E.get u z A
def TreeIs.safe(z:CapsOk k v){t:Int}{L:Prs}{P:List Int}(A:TreeIs D M k v t L P)(u:key∈keysP L)(C:M.Wf)(E:M.over=false)(G:P.Nodup)(y:2*(rootM M t).2.2.toNat+1<=M.free.length):cutSafe D k v key (rootM M t).2.2.toNat M (rootM M t).1:=by rcases A with ⟨e0,rfl,rfl⟩|⟨h,n,p,I,J,K⟩;cases u;rw[J] at y⊢;dsimp only at y⊢;rw[zJ] at y⊢;exact K.safe z h M _ C E G u oJ
end
section
def exM:Nat->Nat->List Int
 | _,0=>[]
 | b,c+1=>(b:Int)::exM (b+1) c
def qbS{x:Int}:∀ {c b:Nat},x∈exM b c↔(b:Int)<=x/\x<(b:Int)+c
 | 0,b=>by rw[exM];constructor;intro h;cases h;omega
 | c+1,b=>by rw[exM,zG,qbS (c:=c) (b:=b+1)];omega
def qlb:∀ {c b:Nat},(exM b c).Pairwise (· < ·)
 | 0,b=>.nil
 | c+1,b=>yI.2 ⟨fun x h=>by have:=(qbS.1 h).1;omega,qlb⟩
def qga:∀ {c b:Nat},(exM b c).length=c
 | 0,b=>rfl
 | c+1,b=>congrArg (·+1) qga
def qqR{b c:Nat}{n:Int}(h:n<b):∀l:List Int,ins n (l++exM b c)=ins n l++exM b c
 | []=>by
  cases c with
  | zero=>rfl
  | succ c=>
   show (if n<(b:Int) then n::(b:Int)::exM (b+1) c else _)=_;rw[if_pos h];rfl
 | a::l=>by show ins n (a::(l++exM b c))=_;rw[ins,ins];split;rfl;split;rfl;rw[qqR h l];rfl
def qoU{β:Type}{n x:Int}{v:β}{l:List (Int×β)}(h:x∈(setL n v l).map (·.1)):x=n\/x∈l.map (·.1):=Classical.byContradiction fun u=>
 qce.1 (by rw[qfx,if_neg (not_or.1 u).1,qce.2 (not_or.1 u).2]) h
def quv{β:Type}{n x:Int}{l:List (Int×β)}(h:x∈(delL n l).map (·.1)):x∈l.map (·.1):=by unfold delL at h;split at h;obtain⟨e,u,rfl⟩:=mem_map.1 h;exact zY (mem_of_mem_eraseIdx u);exact h
def extM (b c:Nat) (M:PgM):PgM:={ M with sup:=(M.sup.1,M.sup.2.set 0 ((b:Int)+c)),named:=M.named++exM b c,free:=M.free++exM b c }
structure Gd (N:PgM) (b:Nat) (M:PgM):Prop where
 over:M.over=false
 sup:M.sup=N.sup
 lists:M.lists=N.lists
 named:M.named=N.named
 turn:M.turn=N.turn
 blk:N.sup.2.getD 0 0=(b:Int)/\2<=b
 free:∀ x∈M.free,x<(b:Int)
 fresh:∀ x∈M.fresh.map (·.1),x<(b:Int)
def Sm {α:Type} (N:PgM) (b c:Nat) (r h:(α×Int)×PgM):Prop:=Gd N b r.2/\(r.1.2=6\/h=(r.1,extM b c r.2))
def Sq (N:PgM) (b c:Nat) (r h:Int×PgM):Prop:=Gd N b r.2/\(r.1=6\/h=(r.1,extM b c r.2))
section
variable {α β:Type} {N:PgM} {b c:Nat}
def Sm.ite{p:Prop}[Decidable p]{A u B B':(α×Int)×PgM}(y:p->Sm N b c A u)(z:¬p->Sm N b c B B'):Sm N b c (if p then A else B) (if p then u else B'):=by by_cases h:p;rw[if_pos h,if_pos h];exact y h;rw[if_neg h,if_neg h];exact z h
def Sq.ite{p:Prop}[Decidable p]{A u B B':Int×PgM}(y:p->Sq N b c A u)(z:¬p->Sq N b c B B'):Sq N b c (if p then A else B) (if p then u else B'):=by by_cases h:p;rw[if_pos h,if_pos h];exact y h;rw[if_neg h,if_neg h];exact z h
def Sm.err{r u:(α×Int)×PgM}{z:β}{X X':(β×Int)×PgM}(h:Sm N b c r u)(k:u=(r.1,extM b c r.2)->Gd N b r.2->Sm N b c X X'):Sm N b c (if r.1.2≠0 then ((z,r.1.2),r.2) else X) (if u.1.2≠0 then ((z,u.1.2),u.2) else X'):=by rcases h with ⟨g,y|rfl⟩;rw[if_pos (by rw[y];decide)];exact⟨g,.inl y⟩;exact Sm.ite (fun _=>⟨g,.inr rfl⟩) fun _=>k rfl g
def Sm.errq{r u:(α×Int)×PgM}{X X':Int×PgM}(h:Sm N b c r u)(k:u=(r.1,extM b c r.2)->Gd N b r.2->Sq N b c X X'):Sq N b c (if r.1.2≠0 then (r.1.2,r.2) else X) (if u.1.2≠0 then (u.1.2,u.2) else X'):=by rcases h with ⟨g,y|rfl⟩;rw[if_pos (by rw[y];decide)];exact⟨g,.inl y⟩;exact Sq.ite (fun _=>⟨g,.inr rfl⟩) fun _=>k rfl g
def Sq.errq{r u:Int×PgM}{X X':Int×PgM}(h:Sq N b c r u)(k:u=(r.1,extM b c r.2)->Gd N b r.2->Sq N b c X X'):Sq N b c (if r.1≠0 then (r.1,r.2) else X) (if u.1≠0 then (u.1,u.2) else X'):=by rcases h with ⟨g,y|rfl⟩;rw[if_pos (by rw[y];decide)];exact⟨g,.inl y⟩;exact Sq.ite (fun _=>⟨g,.inr rfl⟩) fun _=>k rfl g
def Sm.map{r u:(α×Int)×PgM}(h:Sm N b c r u)(F:α->β):Sm N b c ((F r.1.1,r.1.2),r.2) ((F u.1.1,u.1.2),u.2):=by rcases h with ⟨g,y|rfl⟩;exact⟨g,.inl y⟩;exact⟨g,.inr rfl⟩
end
section
variable {N:PgM} {b c k v:Nat} {D:DiskM} {M M':PgM}
def Gd.blks(g:Gd N b M):M.sup.2.getD 0 0=(b:Int):=by rw[g.sup];exact g.blk.1
def Gd.blkE(g:Gd N b M):(extM b c M).sup.2.getD 0 0=(b:Int)+c:=by
 have h:=g.blks;have u:=g.blk.2;show (M.sup.2.set 0 ((b:Int)+c)).getD 0 0=_;cases e:M.sup.2 with
 | nil=>rw[e] at h;exact absurd (show (0:Int)=b from h) oJ
 | cons x l=>rfl
def Gd.used(g:Gd N b M)(n:Int):usedV (extM b c M) n=usedV M n:=by rw[Bool.eq_iff_iff,qaw,qaw,g.blkE,g.blks];show 2<=n/\n<(b:Int)+c/\n∉M.lists/\n∉M.free++exM b c/\n∉M.deferred/\lookv n M.fresh=none↔_;rw[zD,qbS,not_or];constructor;rintro⟨h,A,u,y,z⟩;exact⟨h,oJ,u,y.1,z⟩;rintro⟨h,A,u,y,z⟩;exact⟨h,oJ,u,⟨y,oJ⟩,z⟩
def Gd.rd(g:Gd N b M)(n:Int):pagerReadM D (extM b c M) n=pagerReadM D M n:=qeB (extM b c M) g.over g.over rfl (g.used n)
def Gd.use(g:Gd N b M)(n:Int):InUse (extM b c M) n↔InUse M n:=qdx (extM b c M) rfl (g.used n)
def Gd.load(g:Gd N b M)(p:Int):loadN D (extM b c M) k v p=loadN D M k v p:=by unfold loadN;rw[g.rd]
def qoX(g:Gd N b M)(kd:Int)(l:List Int):Sm N b c (makeV M kd l) (makeV (extM b c M) kd l):=by
 have y:¬M.over=true:=(by rw[g.over];decide);have A:¬(extM b c M).over=true:=y;unfold makeV;rw[if_neg y,if_neg A];refine Sm.ite (fun _=>⟨g,.inr rfl⟩) fun _=>?_;have e:(extM b c M).free=M.free++exM b c:=rfl;rw[e];cases z:M.free with
 | nil=>exact⟨g,.inl rfl⟩
 | cons n r=>exact⟨⟨g.over,g.sup,g.lists,g.named,g.turn,g.blk,fun x u=>g.free x (by rw[z];exact zN _ u),fun x u=>(qoU u).elim (fun h=>g.free x (by rw[z,h];simp)) (g.fresh x)⟩,.inr rfl⟩
def qvL(g:Gd N b M)(n kd:Int)(l:List Int):Sq N b c (putV M n kd l) (putV (extM b c M) n kd l):=by
 have u:¬M.over=true:=(by rw[g.over];decide);have y:¬(extM b c M).over=true:=u;have e:(extM b c M).fresh=M.fresh:=rfl;unfold putV;rw[if_neg u,if_neg y,e];cases z:look n M.fresh with
 | none=>exact⟨g,.inr rfl⟩
 | some q=>
  refine Sq.ite (fun _=>⟨g,.inr rfl⟩) fun _=>⟨⟨g.over,g.sup,g.lists,g.named,g.turn,g.blk,g.free,fun x A=>(qoU A).elim (fun h=>g.fresh x ?_) (g.fresh x)⟩,.inr rfl⟩;rw[h];exact fresh_look.2 ⟨q.2,by unfold lookv;rw[z];rfl⟩
def qkm(g:Gd N b M)(n:Int):Sq N b c (dropV M n) (dropV (extM b c M) n):=by
 have y:¬M.over=true:=(by rw[g.over];decide);have A:¬(extM b c M).over=true:=y;have e:(extM b c M).fresh=M.fresh:=rfl;unfold dropV;rw[if_neg y,if_neg A,e];cases C:look n M.fresh with
 | none=>
  dsimp only;rw[g.used n];exact Sq.ite (fun _=>⟨⟨g.over,g.sup,g.lists,g.named,g.turn,g.blk,g.free,g.fresh⟩,.inr rfl⟩) fun _=>⟨g,.inr rfl⟩
 | some q=>
  have z:=g.fresh n (fresh_look.2 ⟨q.2,by unfold lookv;rw[C];rfl⟩);have E:ins n (extM b c M).free=ins n M.free++exM b c:=qqR z _;dsimp only;rw[E];exact⟨⟨g.over,g.sup,g.lists,g.named,g.turn,g.blk,fun x u=>(qdt.1 u).elim (fun h=>by rw[h];exact z) (g.free x),fun x u=>g.fresh x (quv u)⟩,.inr rfl⟩
def qbc(g:Gd N b M)(p:Int)(n:NodeM):Sm N b c (storeN k v M p n) (storeN k v (extM b c M) p n):=by unfold storeN;generalize writeNV n k v=x;refine Sm.ite (fun _=>⟨g,.inr rfl⟩) fun _=>?_;by_cases hp:p=0;rw[if_neg (fun h=>h.1 hp),if_neg (fun h=>h.2 hp),if_neg (fun h=>h.1 hp),if_neg (fun h=>h.2 hp)];exact qoX g _ _;rcases qvL (c:=c) g p x.1 x.2.1 with ⟨z,u|e⟩;rw[if_pos ⟨hp,by rw[u];decide⟩];exact⟨z,.inl u⟩;rw[e];refine Sm.ite (fun _=>⟨z,.inr rfl⟩) fun _=>?_;rcases qoX (c:=c) g x.1 x.2.1 with ⟨y,u|C⟩;rw[if_neg fun h=>absurd (u.symm.trans h.1) oM];exact⟨y,.inl u⟩;rw[C];refine Sm.ite (fun _=>?_) fun _=>⟨y,.inr rfl⟩;rcases qkm (c:=c) y p with ⟨A,u|E⟩;exact⟨A,.inl u⟩;dsimp only;rw[E];exact⟨A,.inr rfl⟩
def qiP(g:Gd N b M)(p:Int)(n:NodeM)(h:Bool):Sm N b c (splitN k v M p n h) (splitN k v (extM b c M) p n h):=by unfold splitN;refine Sm.ite (fun _=>?_) fun _=>(qbc g p n).map fun q=>(⟨q,h,[],0⟩:Grown);refine (qbc g _ _).err fun e u=>?_;rw[e];exact (qbc u p _).map fun q=>(⟨q,h,_,_⟩:Grown)
def qpk{key val:Key}:∀(f:Nat) (M:PgM) (p:Int),Gd N b M->Sm N b c (putN D k v key val f M p) (putN D k v key val f (extM b c M) p)
 | 0,M,p,g=>⟨g,.inr rfl⟩
 | f+1,M,p,g=>by unfold putN;rw[g.load];refine Sm.ite (fun _=>⟨g,.inr rfl⟩) fun _=>Sm.ite (fun _=>Sm.ite (fun _=>qiP g _ _ _) fun _=>qiP g _ _ _) fun _=>(qpk f M _ g).err fun e h=>?_;rw[e];exact Sm.ite (fun _=>⟨h,.inr rfl⟩) fun _=>qiP h _ _ _
def qoR(g:Gd N b M)(n:NodeM)(i:Nat)(l r:NodeM):Sm N b c (joinM k v M n i l r) (joinM k v (extM b c M) n i l r):=by unfold joinM;refine (qbc g _ _).err fun e y=>?_;rw[e];rcases qkm (c:=c) y (n.kids.getD (i+1) 0) with ⟨h,u|z⟩;rw[if_pos (by rw[u];decide)];exact⟨h,.inl u⟩;dsimp only;rw[z];exact Sm.ite (fun _=>⟨h,.inr rfl⟩) fun _=>⟨h,.inr rfl⟩
def qoo(g:Gd N b M)(n:NodeM)(i:Nat)(r:NodeM×NodeM×Key):Sm N b c (bothM k v M n i r) (bothM k v (extM b c M) n i r):=by unfold bothM;refine (qbc g _ _).err fun e h=>?_;rw[e];exact (qbc h _ _).map fun q=>({ n with keys:=n.keys.set i r.2.2,kids:=(n.kids.set i _).set (i+1) q }:NodeM)
def qoC(g:Gd N b M)(n:NodeM)(h i:Nat)(x:NodeM):Sm N b c (evenM D k v M n h i x) (evenM D k v (extM b c M) n h i x):=by unfold evenM;rw[g.load];exact Sm.ite (fun _=>⟨g,.inr rfl⟩) fun _=>Sm.ite (fun _=>Sm.ite (fun _=>qoR g _ _ _ _) fun _=>qoo g _ _ _) fun _=>Sm.ite (fun _=>qoR g _ _ _ _) fun _=>qoo g _ _ _
def qkk{key:Key}:∀(f:Nat) (M:PgM) (p:Int),Gd N b M->Sm N b c (cutN D k v key f M p) (cutN D k v key f (extM b c M) p)
 | 0,M,p,g=>⟨g,.inr rfl⟩
 | f+1,M,p,g=>by unfold cutN;rw[g.load];refine Sm.ite (fun _=>⟨g,.inr rfl⟩) fun _=>Sm.ite (fun _=>Sm.ite (fun _=>⟨g,.inr rfl⟩) fun _=>⟨g,.inr rfl⟩) fun _=>(qkk f M _ g).err fun e h=>?_;rw[e];exact Sm.ite (fun _=>(qbc h _ _).map fun q=>({ (loadN D M k v p).1 with kids:=(loadN D M k v p).1.kids.set (kidV (loadN D M k v p).1.keys key) q }:NodeM)) fun _=>Sm.ite (fun _=>qoC h _ _ _ _) fun _=>qoC h _ _ _ _
def qkL(g:Gd N b M)(t x y z:Int):Sq N b c (setRootM M t x y z) (setRootM (extM b c M) t x y z):=by have h:¬M.over=true:=(by rw[g.over];decide);have u:¬(extM b c M).over=true:=h;unfold setRootM;rw[if_neg h,if_neg u];exact Sq.ite (fun _=>⟨g,.inr rfl⟩) fun _=>⟨⟨g.over,g.sup,g.lists,g.named,g.turn,g.blk,g.free,g.fresh⟩,.inr rfl⟩
def qpF{r u:(Int×Int)×PgM}(h:Sm N b c r u)(t x y:Int):Sq N b c (rootTo t r x y) (rootTo t u x y):=by unfold rootTo;refine h.errq fun e g=>?_;rw[e];exact qkL g _ _ _ _
def qrC(f:Nat)(t:Int)(g:Gd N b M):Sq N b c (insertN D k v t key val f M) (insertN D k v t key val f (extM b c M)):=by unfold insertN;have e:rootM (extM b c M) t=rootM M t:=rfl;rw[e];refine Sq.ite (fun _=>qpF (qbc g _ _) _ _ _) fun _=>?_;unfold growN;refine (qpk f M _ g).errq fun e h=>?_;rw[e];exact Sq.ite (fun _=>qpF (qbc h _ _) _ _ _) fun _=>qkL h _ _ _ _
def qk7(g:Gd N b M)(x t p y z:Int):Sq N b c (if (dropV M x).1≠0 then ((dropV M x).1,(dropV M x).2) else setRootM (dropV M x).2 t p y z) (if (dropV (extM b c M) x).1≠0 then ((dropV (extM b c M) x).1,(dropV (extM b c M) x).2) else setRootM (dropV (extM b c M) x).2 t p y z):=by refine (qkm g x).errq fun e h=>?_;rw[e];exact qkL h _ _ _ _
def qr3(f:Nat)(t:Int)(g:Gd N b M):Sq N b c (removeN D k v t key f M) (removeN D k v t key f (extM b c M)):=by unfold removeN;have e:rootM (extM b c M) t=rootM M t:=rfl;rw[e];unfold shrinkN;refine (qkk f M _ g).errq fun e h=>?_;rw[e];exact Sq.ite (fun _=>qk7 h _ _ _ _ _) fun _=>Sq.ite (fun _=>qk7 h _ _ _ _ _) fun _=>qpF (qbc h _ _) _ _ _
def qpv{key:Key}:∀(f:Nat) (M:PgM) (p:Int),Gd N b M->cutSafe D k v key f (extM b c M) p->cutSafe D k v key f M p
 | 0,M,p,g,h=>h
 | f+1,M,p,g,h=>fun n z A=>by obtain⟨C,E⟩:=h n (by rw[g.load];exact z) A;refine⟨qpv f M _ g C,fun X M1 G u ny I=>?_⟩;obtain⟨y,e⟩:=qkk (c:=c) (D:=D) (k:=k) (v:=v) (key:=key) f M (n.kids.getD (kidV n.keys key) 0) g;rw[G] at e y;rcases e with e|e;cases e;exact E X _ e u ny (by rw[y.load];exact I)
def Wf.gd(u:M.Wf)(y:M.over=false)(z:M.sup.2.getD 0 0=(b:Int))(A:2<=b):Gd M b M:=
 ⟨y,rfl,rfl,rfl,rfl,⟨z,A⟩,fun x h=>by have:=(u.range x (by simp[h])).2;omega,fun x h=>by have:=(u.range x (by simp only[zD];exact .inr (.inr (.inr h)))).2;omega⟩
def Wf.ext(z:M.Wf)(g:Gd N b M)(G:b+c<=4096):(extM b c M).Wf:=by
 have I:=g.blks;have J:=g.blk.2;have C:∀x∈M.free++(M.deferred++(M.lists++M.fresh.map (·.1))),2<=x/\x<(b:Int):=fun x u=>by have:=z.range x u;omega
 have E:=yL.1 z.nodup;refine⟨by rw[g.blkE];omega,fun x u=>?_,z.roots,pairwise_append.2 ⟨z.namedS,qlb,fun x u y A=>?_⟩,fun x u=>?_,pairwise_append.2 ⟨z.freeS,qlb,fun x u y A=>?_⟩,z.defS,?_,fun x u=>?_,z.body⟩;rcases mem_or_eq_of_mem_set u with h|h;exact z.u32 x h;rw[h];exact⟨oJ,oJ⟩
 have:=(z.named x u).2
 have:=(qbS.1 A).1
 omega;rw[g.blkE];rcases zD.1 u with h|h
 have:=z.named x h
 omega
 have:=qbS.1 h
 omega
 have:=g.free x u
 have:=(qbS.1 A).1
 omega;show ((M.free++exM b c)++(M.deferred++(M.lists++M.fresh.map (·.1)))).Nodup;rw[zV];refine yL.2 ⟨E.1,yL.2 ⟨qbI qlb,E.2.1,fun x u y A e=>?_⟩,fun x u y A e=>?_⟩
 have:=(C y (zI _ A)).2
 have:=(qbS.1 u).1
 omega;rcases zD.1 A with h|h
 have:=g.free x u
 have:=(qbS.1 h).1
 omega;exact E.2.2 x u y h e;rw[g.blkE];rcases zD.1 u with h|h;rcases zD.1 h with h|h
 have:=C x (zH _ h)
 omega
 have:=qbS.1 h
 omega
 have:=C x (zI _ h)
 omega
def Wf.unext(h:(extM b c M').Wf)(g:Gd M b M')(y:M.Wf):M'.Wf:=by have A:=g.sup;have E:=g.named;have u:((M'.free++exM b c)++(M'.deferred++(M'.lists++M'.fresh.map (·.1)))).Nodup:=h.nodup;refine⟨by rw[A];exact y.n4,by rw[A];exact y.u32,h.roots,by rw[E];exact y.namedS,by rw[E,A];exact y.named,(pairwise_append.1 (show (M'.free++exM b c).Pairwise (· < ·) from h.freeS)).1,h.defS,u.sublist ((sublist_append_left _ _).append (.refl _)),fun x G=>?_,h.body⟩;rw[g.blks];have I:x∈(M'.free++exM b c)++(M'.deferred++(M'.lists++M'.fresh.map (·.1))):=(zD.1 G).elim (fun h=>zH _ (zH _ h)) fun h=>zI _ h;have z:=h.range x I;rw[g.blkE] at z;rcases zD.1 G with C|C;exact⟨z.1,g.free x C⟩;refine⟨z.1,Int.not_le.1 fun J=>(yL.1 u).2.2 x (zI _ (qbS.2 ⟨J,z.2⟩)) x C rfl⟩
def TreeIs.frameD{D':DiskM}{t:Int}{L:Prs}{P:List Int}(h:TreeIs D M k v t L P)(y:∀x∈P,pagerReadM D' M' x=pagerReadM D M x)(e:rootM M' t=rootM M t):TreeIs D' M' k v t L P:=by rcases h with ⟨z,A,C⟩|⟨h,n,p,E,u,G⟩;exact .inl ⟨e.trans z,A,C⟩;exact .inr ⟨h,n,p,E,e.trans u,G.frameD y⟩
def Step.unext{P P':List Int}(h:Step D (extM b c M) (extM b c M') P P')(g:Gd M b M)(u:Gd M b M')(C:M.Wf):Step D M M' P P':=by
 refine⟨Wf.unext h.wf u C,u.over,h.roots,u.sup,u.lists,u.named,fun E=>?_,u.turn,fun x y G=>?_,fun x y=>?_,fun x y=>(u.use x).1 (h.has x y),fun x y=>(h.new x y).imp id fun z A=>z ((g.use x).2 A),h.nodup,fun x y=>?_⟩;have sw:∀N:PgM,((N.free++exM b c)++N.fresh.map (·.1)).Perm ((N.free++N.fresh.map (·.1))++exM b c):=fun N=>by rw[zV,zV];exact perm_append_comm.append_left _
 have z:((M'.free++exM b c)++M'.fresh.map (·.1)).Perm (M'.named++exM b c):=h.Named ((sw M).trans (List.Perm.append_right _ E));exact (perm_append_right_iff _).1 ((sw M').symm.trans z);obtain⟨z,A,I⟩:=h.rest x ((g.use x).2 y) G;rw[g.rd,u.rd] at z;exact⟨z,(u.use x).1 A,I⟩;exact (h.use x ((u.use x).2 y)).imp id fun z=>⟨(g.use x).1 z.1,z.2⟩
 have:=h.old x (by rw[u.used];exact y)
 rw[g.used] at this;exact this
def RStep.unext{t:Int}{P P':List Int}(h:RStep D (extM b c M) (extM b c M') t P P')(g:Gd M b M)(u:Gd M b M')(y:M.Wf):RStep D M M' t P P':=
 ⟨Step.unext (M':={ M' with roots:=M.roots }) h.step g ⟨u.over,u.sup,u.lists,u.named,u.turn,u.blk,u.free,u.fresh⟩ y,Wf.unext h.wf u y,h.len,h.others⟩
def Gd.back(g:Gd M b M')(h:M.over=false):({ M' with free:=M.free,deferred:=M.deferred,fresh:=M.fresh,roots:=M.roots }:PgM)=M:=by obtain⟨u,y,z,A,C,_⟩:=g;cases M;cases M';cases u;cases y;cases z;cases A;cases C;cases h;rfl
def TreeIs.low(h:TreeIs D M k v t L P):(rootM M t).2.2.toNat<=L.length/\0<=(rootM M t).2.2:=by
 rcases h with ⟨u,A,C⟩|⟨h,n,p,E,y,z⟩;rw[u];exact⟨yW _,Int.le_refl _⟩
 have:=z.counts.1
 rw[y];exact⟨by dsimp only at this⊢;omega,by dsimp only;omega⟩
def qrB(I:CapsOk k v)(J:0<=t/\t<8)(K:key.length=k/\IsB key)(O:val.length=v/\IsB val)(y:TreeIs D M k v t L P)(u:M.Wf)(Q:M.over=false)(R:M.roots.length=24)(U:P.Nodup)(hL:L.length<=1000)(hb:M.sup.2.getD 0 0=(b:Int))(h2:2<=b/\b<=1000): ((insertN D k v t key val (rootM M t).2.2.toNat M).1=6/\Gd M b (insertN D k v t key val (rootM M t).2.2.toNat M).2/\M.free.length<2*(rootM M t).2.2.toNat+1)\/∃M' P',insertN D k v t key val (rootM M t).2.2.toNat M=(0,M')/\TreeIs D M' k v t (insP key val L) P'/\RStep D M M' t P P'/\M.free.length<=M'.free.length+(2*(rootM M t).2.2.toNat+1):=by
 have V:=y.low.1;have g:=Wf.gd u Q hb h2.1;rcases qrC (c:=2*(rootM M t).2.2.toNat+1) (D:=D) (k:=k) (v:=v) (key:=key) (val:=val) (rootM M t).2.2.toNat t g with ⟨A,C|e⟩;refine .inl ⟨C,A,Nat.not_le.1 fun hf=>?_⟩;obtain⟨M',P',e,_⟩:=qm0 I J K O y u Q R U oJ hf;rw[e] at C;cases C;obtain⟨M1,P',e1,E,G,h⟩:=qm0 (M:=extM b (2*(rootM M t).2.2.toNat+1) M) I J K O (y.frameD (fun x _=>g.rd x) rfl) (Wf.ext u g oJ) g.over R U oJ (by show 2*(rootM M t).2.2.toNat+1<=(M.free++exM b _).length;rw[zF,qga];exact Nat.le_add_left _ _)
 obtain⟨z,rfl⟩:=Prod.mk.inj (e.symm.trans e1);have h:(M.free++exM b (2*(rootM M t).2.2.toNat+1)).length<=((insertN D k v t key val (rootM M t).2.2.toNat M).2.free++exM b (2*(rootM M t).2.2.toNat+1)).length+(2*(rootM M t).2.2.toNat+1):=h;simp only[zF,qga] at h;exact .inr ⟨_,P',Prod.ext z rfl,E.frameD (fun x _=>(A.rd x).symm) rfl,G.unext g A u,Nat.le_of_add_le_add_right (by rw[Nat.add_right_comm];exact h)⟩
def qr2(G:CapsOk k v)(U:0<=t/\t<8)(I:TreeIs D M k v t L P)(h:key∈keysP L)(E:M.Wf)(V:M.over=false)(hr:M.roots.length=24)(J:P.Nodup)(hL:L.length<=1000)(hb:M.sup.2.getD 0 0=(b:Int))(h2:2<=b/\b<=1000): cutSafe D k v key (rootM M t).2.2.toNat M (rootM M t).1/\(((removeN D k v t key (rootM M t).2.2.toNat M).1=6/\Gd M b (removeN D k v t key (rootM M t).2.2.toNat M).2/\M.free.length<2*(rootM M t).2.2.toNat+1)\/∃M' P',removeN D k v t key (rootM M t).2.2.toNat M=(0,M')/\TreeIs D M' k v t (cutP key L) P'/\RStep D M M' t P P'/\M.free.length<=M'.free.length+(2*(rootM M t).2.2.toNat+1)):=by
 have ab:=I.low.1;have g:=Wf.gd E V hb h2.1;have y:TreeIs D (extM b (2*(rootM M t).2.2.toNat+1) M) k v t L P:=I.frameD (fun x _=>g.rd x) rfl;have A:=Wf.ext (c:=2*(rootM M t).2.2.toNat+1) E g oJ;have C:2*(rootM M t).2.2.toNat+1<=(extM b (2*(rootM M t).2.2.toNat+1) M).free.length:=by show 2*(rootM M t).2.2.toNat+1<=(M.free++exM b _).length;rw[zF,qga];exact Nat.le_add_left _ _
 refine⟨qpv _ _ _ g (y.safe G h A g.over J C),?_⟩;rcases qr3 (c:=2*(rootM M t).2.2.toNat+1) (D:=D) (k:=k) (v:=v) (key:=key) (rootM M t).2.2.toNat t g with ⟨K,O|e⟩;refine .inl ⟨O,K,Nat.not_le.1 fun hf=>?_⟩;obtain⟨M',P',e,_⟩:=qnq G U I h E V hr J oJ hf;rw[e] at O;cases O;obtain⟨M1,P',e1,Q,R,u⟩:=qnq (M:=extM b (2*(rootM M t).2.2.toNat+1) M) G U y h A g.over hr J oJ C;obtain⟨z,rfl⟩:=Prod.mk.inj (e.symm.trans e1);have u:(M.free++exM b (2*(rootM M t).2.2.toNat+1)).length<=((removeN D k v t key (rootM M t).2.2.toNat M).2.free++exM b (2*(rootM M t).2.2.toNat+1)).length+(2*(rootM M t).2.2.toNat+1):=u;simp only[zF,qga] at u;exact .inr ⟨_,P',Prod.ext z rfl,Q.frameD (fun x _=>(K.rd x).symm) rfl,R.unext g K E,Nat.le_of_add_le_add_right (by rw[Nat.add_right_comm];exact u)⟩
def quk{f:Nat}(h:(insertN D k v t key val f M).1≠-1):(rootM M t).1≠0->(putN D k v key val f M (rootM M t).1).1.2≠-1:=fun y u=>h (by unfold insertN;rw[if_neg y];unfold growN;rw[if_pos (by rw[u];decide),u])
end
end
section
def kv (t:Int):Nat×Nat:=((shp t).1.toNat,(shp t).2.toNat)
def qg0{t:Nat}(u:t<8):shp t=(((kv t).1:Int),((kv t).2:Int))/\CapsOk (kv t).1 (kv t).2/\1<=(kv t).1/\(kv t).1<=24/\1<=(kv t).2/\(kv t).2<=108:=by obtain⟨k,v,e,h⟩:=qvQ (t:=t) ⟨oJ,oJ⟩;have:kv t=(k,v):=(by unfold kv;rw[e];rfl);rw[this];exact⟨e,h⟩
abbrev Trees:=Nat->Prs×List Int
def setT (F:Trees) (t:Nat) (x:Prs×List Int):Trees:=fun u=>if u=t then x else F u
def qdu(F:Trees)(t:Nat)(x:Prs×List Int):setT F t x t=x:=if_pos rfl
def qcK{F:Trees}{t u:Nat}{x:Prs×List Int}(h:u≠t):setT F t x u=F u:=if_neg h
structure For (D:DiskM) (M:PgM) (F:Trees):Prop where
 tree:∀ t:Nat,t<8->TreeIs D M (kv t).1 (kv t).2 t (F t).1 (F t).2
 nodup:∀ t:Nat,t<8->(F t).2.Nodup
 apart:∀ t u:Nat,t<8->u<8->t≠u->∀ x∈(F t).2,x∉(F u).2
 use:∀ x,InUse M x->∃ t:Nat,t<8/\x∈(F t).2
section
variable {D D':DiskM} {M M':PgM} {F W:Trees} {b q t:Nat}
def TreeIs.used{k v:Nat}{t:Int}{L:Prs}{P:List Int}(u:M.over=false)(h:TreeIs D M k v t L P):∀x∈P,InUse M x:=by rcases h with ⟨_,_,rfl⟩|⟨h,n,p,_,_,y⟩;exact fun x z=>nomatch z;exact y.used u
def For.kept(h:For D M F)(A:M.over=false)(u:Kept D M D' M'):For D' M' F:=
 ⟨fun t z=>(h.tree t z).frameD (fun x y=>u.read x ((h.tree t z).used A x y)) (by unfold rootM;rw[u.roots]),h.nodup,h.apart,fun x y=>h.use x ((u.use x).1 y)⟩
def For.next{L':Prs}{P':List Int}(h:For D M F)(Q:M.over=false)(J:t<8)(R:TreeIs D M' (kv t).1 (kv t).2 t L' P')(E:RStep D M M' t (F t).2 P'):For D M' (setT F t (L',P')):=by have G:∀u:Nat,u<8->u≠t->∀x∈(F u).2,InUse M x/\x∉(F t).2:=fun u C A x y=>⟨(h.tree u C).used Q x y,h.apart u t C J A x y⟩;have K:∀u:Nat,u<8->u≠t->∀x∈(F u).2,x∉P':=fun u C A x y=>(E.step.rest x (G u C A x y).1 (G u C A x y).2).2.2;refine⟨fun u C=>?_,fun u C=>?_,fun u z C O A x y=>?_,fun x y=>?_⟩;by_cases e:u=t;subst e;rw[qdu];exact R;rw[qcK e];exact (h.tree u C).frameD (fun x y=>(E.step.rest x (G u C e x y).1 (G u C e x y).2).1) (E.others u oJ);by_cases e:u=t;subst e;rw[qdu];exact E.step.nodup;rw[qcK e];exact h.nodup u C;by_cases e:u=t;subst e;rw[qdu] at y;rw[qcK A.symm];exact fun U=>K z O A.symm x U y;rw[qcK e] at y;by_cases e2:z=t;subst e2;rw[qdu];exact K u C e x y;rw[qcK e2];exact h.apart u z C O A x y;rcases E.step.use x y with I|⟨I,V⟩;exact⟨t,J,by rw[qdu];exact I⟩;obtain⟨u,C,y⟩:=h.use x I;exact⟨u,C,by rw[qcK fun e=>V (by rw[<- e];exact y)];exact y⟩
def Calm.next{t:Int}{P':List Int}(h:Calm D M b q)(u:RStep D M M' t P P'):Calm D M' b q:=
 ⟨h.quiet,h.waits,h.size,by have:=u.step.sup;rw[<- h.blocks,<- this],h.b8,u.wf,u.step.Named h.named,u.step.over,u.len,by rw[show M'.sup=M.sup from u.step.sup];exact h.seq,by rw[show M'.turn=M.turn from u.step.turn];exact h.turn⟩
def baseM (t:Int) (M:PgM):PgM:=begunM M.sup M.lists M.named t false M.named
structure Wo (D:DiskM) (M:PgM) (b q:Nat) (F W:Trees):Prop where
 calm:Calm D M b q
 now:For D M F
 was:For D (baseM 0 M) W
 opens:Opens D M.sup M.lists M.named
 suplen:M.sup.2.length=27
 b4:8<=b/\b<=300
def Wo.next{L':Prs}{P':List Int}(h:Wo D M b q F W)(C:t<8)(E:TreeIs D M' (kv t).1 (kv t).2 t L' P')(u:RStep D M M' t (F t).2 P'):Wo D M' b q (setT F t (L',P')) W:=by have y:M'.sup=M.sup:=u.step.sup;have z:M'.lists=M.lists:=u.step.lists;have A:M'.named=M.named:=u.step.named;exact⟨h.calm.next u,h.now.next h.calm.over C E u,by have:=h.was;unfold baseM at this⊢;rw[y,z,A];exact this,by rw[y,z,A];exact h.opens,by rw[y];exact h.suplen,h.b4⟩
def Wo.put(h:Wo D M b q F W)(u:t<8)(y:key.length=(kv t).1/\IsB key)(z:val.length=(kv t).2/\IsB val)(A:(F t).1.length<=1000): ((insertN D (kv t).1 (kv t).2 t key val (rootM M t).2.2.toNat M).1=6/\Gd M b (insertN D (kv t).1 (kv t).2 t key val (rootM M t).2.2.toNat M).2/\M.free.length<2*(rootM M t).2.2.toNat+1)\/ ∃M' P',insertN D (kv t).1 (kv t).2 t key val (rootM M t).2.2.toNat M=(0,M')/\Wo D M' b q (setT F t (insP key val (F t).1,P')) W/\M.free.length<=M'.free.length+(2*(rootM M t).2.2.toNat+1):=by rcases qrB (qg0 u).2.1 ⟨oJ,oJ⟩ y z (h.now.tree t u) h.calm.wf h.calm.over h.calm.len (h.now.nodup t u) A h.calm.blocks ⟨by have:=h.b4;omega,by have:=h.b4;omega⟩ with C|⟨M',P',e,E,G,I⟩;exact .inl C;exact .inr ⟨M',P',e,h.next u E G,I⟩
def Wo.cut(h:Wo D M b q F W)(u:t<8)(y:key∈keysP (F t).1)(z:(F t).1.length<=1000): cutSafe D (kv t).1 (kv t).2 key (rootM M t).2.2.toNat M (rootM M t).1/\(((removeN D (kv t).1 (kv t).2 t key (rootM M t).2.2.toNat M).1=6/\Gd M b (removeN D (kv t).1 (kv t).2 t key (rootM M t).2.2.toNat M).2/\M.free.length<2*(rootM M t).2.2.toNat+1)\/ ∃M' P',removeN D (kv t).1 (kv t).2 t key (rootM M t).2.2.toNat M=(0,M')/\Wo D M' b q (setT F t (cutP key (F t).1,P')) W/\M.free.length<=M'.free.length+(2*(rootM M t).2.2.toNat+1)):=by obtain⟨A,C⟩:=qr2 (qg0 u).2.1 ⟨oJ,oJ⟩ (h.now.tree t u) y h.calm.wf h.calm.over h.calm.len (h.now.nodup t u) z h.calm.blocks ⟨by have:=h.b4;omega,by have:=h.b4;omega⟩;refine⟨A,?_⟩;rcases C with E|⟨M',P',e,G,I,J⟩;exact .inl E;exact .inr ⟨M',P',e,h.next u G I,J⟩
def Wo.back(h:Wo D M b q F W){s:Int}(y:0<=s/\s<=q):Wo D (baseM s M) b q W W:=by have u:M.sup.2.getD 0 0=D.size:=h.opens.blocks;refine⟨⟨h.calm.quiet,h.calm.waits,h.calm.size,h.calm.blocks,h.calm.b8,qgP (by rw[u];exact h.opens.ok) (by rw[u];exact h.opens.size.2) h.calm.wf.u32,qfR _ _ _ _ _,rfl,?_,h.calm.seq,y⟩,h.was.kept rfl ⟨rfl,fun _=>.rfl,fun _ _=>rfl⟩,h.was,h.opens,h.suplen,h.b4⟩;show (M.sup.2.drop 3).length=24;rw[yB,h.suplen]
def Wo.weak{q':Nat}(h:Wo D M b q F W)(u:q<=q'):Wo D M b q' F W:=
 ⟨⟨h.calm.quiet,h.calm.waits,h.calm.size,h.calm.blocks,h.calm.b8,h.calm.wf,h.calm.named,h.calm.over,h.calm.len,by have:=h.calm.seq;omega,by have:=h.calm.turn;omega⟩,h.now,h.was,h.opens,h.suplen,h.b4⟩
def Wo.commit(h:Wo D M b q F W)(hq:q<=1000000):commitM D M=((D,M),6)\/∃D' M',commitM D M=((D',M'),0)/\Wo D' M' b (q+1) F F:=by
 have u:=h.calm;have hO:=h.opens;unfold commitM;rw[if_neg (by rw[u.over];decide)];by_cases hx:M.fresh=[]/\M.deferred=[]/\M.roots=M.sup.2.drop 3;rw[if_pos hx];obtain⟨I,h2,h3⟩:=hx;have A:M.free.Perm M.named:=(by have:=u.named;unfold PgM.Named at this;rw[I,map_nil,xF] at this;exact this);have hu:∀x,usedV (baseM 0 M) x=usedV M x:=fun x=>by rw[Bool.eq_iff_iff,qaw,qaw,I,h2,A.mem_iff];exact .rfl
 have hl:∀x,lookv x (baseM 0 M).fresh=lookv x M.fresh:=fun x=>by rw[I];rfl
 have hw:=h.weak (Nat.le_succ q);refine .inr ⟨D,M,rfl,hw.calm,hw.now,h.now.kept u.over ⟨h3.symm,fun x=>qdx _ (hl x) (hu x),fun x _=>qeB _ u.over rfl (hl x) (hu x)⟩,hO,h.suplen,h.b4⟩;rw[if_neg hx];cases A:planM M with
 | none=>exact .inl rfl
 | some y=>
  obtain⟨pages,named⟩:=y;dsimp only;have R:=u.seq;have C:=quA (pages:=pages) (named:=named) u.wf A u.len ⟨R.1,oJ⟩;have K:M.sup.2.getD 0 0=D.size:=hO.blocks;have E:=u.quiet.flushed u.wf K hO.size.1 A C.1;rw[if_neg (by rw[E.1];simp)];have O:=qp4 (qqE u.waits) u.quiet.down u.wf A C.1 E.1;have ac:=E.2.1;have hz:=E.2.2;clear E;generalize (flushM D M.fresh pages named (nextS M pages named)).1=D' at O ac hz⊢;have G:∀x,x∈(begunM (nextS M pages named) pages named (M.turn+1) false named).all↔x∈M.free\/x∈M.deferred\/x∈M.lists:=fun x=>by rw[<- qkD A x];show x∈named++([]++(pages++[]))↔_;simp only[xG,xF,zD];exact Or.comm
  have ae:∀x,usedV (begunM (nextS M pages named) pages named (M.turn+1) false named) x=true↔InUse M x:=fun x=>by
   rw[qdz,G];show (2<=x/\x<M.sup.2.getD 0 0)/\_↔_;unfold InUse;rw[qdz];simp only[PgM.all,zD];constructor;rintro⟨I,h2⟩;by_cases J:x∈M.fresh.map (·.1);exact .inl J;exact .inr ⟨I,fun z=>h2 (z.imp id fun z=>z.imp id fun z=>z.elim id fun z=>absurd z J)⟩;rintro (I|⟨I,h2⟩);refine⟨u.wf.keys x I,fun z=>?_⟩
   have:=qlG u.wf A x I
   exact ((qkD A x).2 z).elim this.1 this.2;exact⟨I,fun z=>h2 (z.imp id fun z=>z.imp id .inl)⟩
  have hk:Kept D M D' (begunM (nextS M pages named) pages named (M.turn+1) false named):=(by refine⟨rfl,fun x=>?_,fun x hx=>?_⟩;rw[<- ae x];exact⟨fun h=>h.resolve_left (by simp[begunM]),.inr⟩;have af:=(ae x).2 hx;have Q:2<=x/\x<M.sup.2.getD 0 0:=(qdz.1 af).1;have U:=(qdz.1 af).2;rw[K] at Q;rw[qnn rfl O.down ⟨Q.1,by rw[hz];exact Q.2⟩ (by rw[hz];exact K) U];by_cases J:x∈M.fresh.map (·.1);obtain⟨e,he,rfl⟩:=mem_map.1 J;rw[qrY u.over u.wf he,qp5 u.wf O.fresh he];have ah:x∉pages:=fun ai=>U ((G x).2 ((qkD A x).1 (.inl ai)));rw[O.rest x oJ J ah oJ,qnn u.over u.quiet.down Q K fun z=>?_];simp only[PgM.all,zD] at z;exact U ((G x).2 (z.imp id fun z=>z.imp id fun z=>z.elim id fun z=>absurd z J)));have aq:=u.turn;have V:Calm D' (begunM (nextS M pages named) pages named (M.turn+1) false named) b (q+1):=⟨ac,O.waits,hz.trans u.size,u.blocks,u.b8,qq3 u.wf A rfl (qiv u.wf A),qfR _ _ _ _ _,rfl,u.len,by show 0<=(nextS M pages named).1/\(nextS M pages named).1<=_;rw[C.2];omega,by show 0<=M.turn+1/\M.turn+1<=_;omega⟩;have hF:=h.now.kept u.over hk;refine .inr ⟨D',_,rfl,V,hF,hF.kept rfl ⟨rfl,fun _=>.rfl,fun _ _=>rfl⟩,?_,?_,h.b4⟩;exact hO.next u.wf A C.1 C.2 R.1 O.down hz O.listed O.super (O.rest _ oJ (fun J=>by have:=(u.wf.keys _ J).1;omega) (fun J=>by have:=((qbT u.wf A).pgs _ J).1;omega) (by rw[C.2];omega))
  show ([M.sup.2.getD 0 0,pages.headD 0,wrap .u32 named.length]++M.roots).length=27;rw[zF,u.len];rfl
end
def Wo.made{D:DiskM}{n:Nat}(y:8<=n)(I:n<=300)(A:(madeM n).Wf)(h:Made D n):Wo D (madeM n) n 1 (fun _=>([],[])) (fun _=>([],[])):=by have e:(madeM n).sup.2.getD 0 0=n:=(by show wrap .u32 (n:Int)=_;exact qaS _);have C:∀t:Nat,t<8->Sole D (madeM n) (kv t).1 (kv t).2 ((n-2)-needP (n-2)) t [] []:=fun t E=>qtE ⟨oJ,oJ⟩ y oJ A;have u:=C 0 oM;have G:For D (madeM n) (fun _=>([],[])):=⟨fun t E=>(C t E).tree,fun _ _=>.nil,fun _ _ _ _ _ _ z=>(nomatch z),fun x z=>nomatch u.use x z⟩;exact⟨⟨h.quiet,h.waits,h.size,e,y,A,u.named,u.over,u.len,⟨(by decide:(0:Int)<=1),(by decide:(1:Int)<=1)⟩,⟨(by decide:(0:Int)<=1),(by decide:(1:Int)<=1)⟩⟩,G,G.kept rfl ⟨rfl,fun _=>.rfl,fun _ _=>rfl⟩,h.opens,by show ([_,_,_]++zs 24).length=27;simp[zs],y,I⟩
end
def quC{A R:List Int}(u:A.Nodup)(y:R.Nodup)(h:∀x,x∈A↔x∈R):A.length=R.length:=((perm_ext_iff_of_nodup u y).2 h).length_eq
def qua{M:PgM}(A:M.Wf)(Q:2<=M.sup.2.getD 0 0)(R:P.Nodup)(C:∀x,x∈P↔InUse M x): (P.length:Int)+M.free.length+M.deferred.length+M.lists.length=M.sup.2.getD 0 0-2:=by
 have I:=A.nodup;have E:=A.range;have e:M.free++(M.deferred++(M.lists++M.fresh.map (·.1)))=(M.free++(M.deferred++M.lists))++M.fresh.map (·.1):=(by simp only[zV]);rw[e] at I E;obtain⟨U,n2,V⟩:=yL.1 I;generalize J:M.sup.2.getD 0 0=b at Q E⊢;have K:∀x,x∈M.free++(M.deferred++M.lists)↔x∈M.free\/x∈M.deferred\/x∈M.lists:=fun x=>by simp only[zD]
 have hA:(P++(M.free++(M.deferred++M.lists))).Nodup:=yL.2 ⟨R,U,fun x hx y O e=>by subst e;rcases (C x).1 hx with h|h;exact V x O x h rfl;have h:=qaw.1 h;rcases (K x).1 O with z|z|z;exact h.2.2.2.1 z;exact h.2.2.2.2.1 z;exact h.2.2.1 z⟩;have hR:((List.range (b-2).toNat).map fun i:Nat=>(i:Int)+2).Nodup:=List.Pairwise.map _ (fun a c G h=>G oJ) nodup_range
 have:=quC hA hR fun x=>by
  rw[zD,mem_map];constructor;intro h;have h:2<=x/\x<b:=by
   rcases h with h|h
   have:=qdy A ((C x).1 h);rw[J] at this;exact this
   exact E x (zH _ h)
  exact⟨(x-2).toNat,mem_range.2 oJ,oJ⟩;rintro⟨i,hi,rfl⟩;have hi:=mem_range.1 hi;by_cases u:(i:Int)+2∈M.free++(M.deferred++M.lists);exact .inr u;refine .inl ((C _).2 ?_);by_cases hf:(i:Int)+2∈M.fresh.map (·.1);exact .inl hf;have u:=fun h=>u ((K _).2 h);refine .inr (qaw.2 ⟨oJ,by rw[J];omega,fun h=>u (.inr (.inr h)),fun h=>u (.inl h),fun h=>u (.inr (.inl h)),qce.2 hf⟩)
 simp only[zF,zK,length_range] at this;omega
def qvl{D:DiskM}{M:PgM}{k v:Nat}:∀(h:Nat) (s:Seg),Has D M k v h s->2^(h+1)<=s.pages.length+1:=by
 intro h;induction h with
 | zero=>rintro s ⟨A,_⟩;rw[A];simp
 | succ h ih=>
  rintro s ⟨C,G,A,I,y,E,J,K,u⟩;have z:=rightV.innerTwo E.right;match C,z,y,u with
  | a::b::r,_,y,u=>
   have O:=ih a.2 (u a oL).1;have Q:=ih b.2 (u b oL).1;rw[y];simp only[yG,yH,zF];rw[Nat.pow_succ];omega
  | [_],h,_,_=>simp at h
  | [],h,_,_=>simp at h
end
section
open Go Go.Pt List
open Go.IntKind (wrap)
open Classical
attribute [local irreducible] ld ldA ldV fld fldA newZ st new idx idxS idxA slc slcS slcP mkS chk nn call callV inv run runQ runU join loop held ext rng undefer s2a nxt ent IntKind.wrap
variable {K:Option Addr×Option Addr->WP} {w:World}
def qm7{n:Nat}(Y:List Nat)(C:∀b∈Y,b<w.heap.size)(hY:HG∉Y)(hv:Hv w)(h8:8<=n)(O:n<=4096)(hk:∀dbk pb FD F D w',TW dbk pb FD D 5000 w' Y F (madeM n)->Made D n->Fr [] w w'->(∀b∈FD++F,w.heap.size<=b)->K (pW dbk,pW pb) w'): cW 27 [.i n] [.one .ptr,.one .ptr] w K:=by
 refine qf7 ?_;unfold qdg;refine quX (fun h=>oJ) fun _ _ dbk FD w1 d1 J Q=>?_;rw[zJ] at d1;obtain⟨D',e1,q1,s1,R,o1,z1⟩:=qoH (qrO n) (qtg n) h8 O;have E:=hv.frame0 J;have hg:HG∉FD:=fun U=>by have:=Q _ U;have:=hv.lt;omega
 have an:(newM n).safe.length=n:=(by simp[newM]);refine qaf (fun b w'=>b=false/\∃F',DS dbk w1 FD w' F' D' (0+5000)) ?_ ?_;refine cond_false rfl (cond_false rfl ?_);refine qre d1 (Lim.new O) oM oJ E hg fun w' F' d'=>?_;rw[e1] at d'⊢;exact⟨rfl,F',d'⟩;rintro b w2 ⟨rfl,V,y⟩;refine cond_false rfl ?_;have z:∀b∈V,w.heap.size<=b:=fun b u=>by rcases y.nw b u with h|h;exact Q b h;exact zL J.size h
 have G:=o1.open;have A:=(y.hv E hg).1;have I:w.heap.size<=w2.heap.size:=zL J.size y.fr.size;refine qmG (V++HG::Y) (fun b u=>?_) y.at_ y.lim.ok A (fun h=>by rw[G] at h;cases h) fun pb F M w3 hM hp f3 n3=>?_;rcases zD.1 u with u|u;exact y.at_.lt b u;rcases zG.1 u with rfl|u;exact A.lt;exact yC (C b u) I;rw[G] at hM;cases hM;refine cond_false rfl<|hk dbk pb V F D' w3 ⟨y.at_.frame0 f3,y.lim,hp,A.frame0 f3,qvB h8 O,fun b u=>⟨fun U=>?_,fun e=>hY (e▸u)⟩⟩ ⟨q1,s1,R,o1,e1,z1⟩ ((J.trans' y.fr fun b u=>.inr (Q b u)).trans' f3 oL) fun b u=>?_
 have:=z b U
 have:=C b u
 omega;rcases zD.1 u with u|u;exact z b u;exact zL I (n3 b u)
def qrh{s:Key}{n:Nat}{y:Int}{K:ByteArray->WP}(O:IsB s)(hl:s.length<=1000000)(hn:n<=24)(Q:0<=y/\y<256)(R:∀x w',x.length=n->IsB x->Fr [] w w'->K (strL x) w'): cW 69 [.string (strL s),.i n,.b y] [.one .str] w K:=by
 refine qfc ?_;unfold qcz;refine qdr (n:Int) w (fun M C=>cond_false (zU oJ) C)<|qdr (n:Int) w (fun M C=>cond_false (zU oJ) C)<|qaj (fun x w'=>Fr [] w w'/\∃l,x=strL l/\IsB l/\l.length<=1000000+24) (fun x _=>n-x.size) ⟨.refl _ _,s,rfl,O,oJ⟩ ?_;rintro x U ⟨G,l,rfl,I,V⟩ X hX;rw[qcR];apply qaa<;>intro h;have h:=zC h;have h1:=oE [] U;refine oB h1 fun r w2 _ f2 h2=>?_;have E:RdB [] w2 ⟨pW r,1,1⟩ [y]:=by
  refine⟨rfl,zM _,.inr ⟨r,0,_,_,_,rfl,h2.at (i:=0) rfl,(fun h=>nomatch h),fun i x J=>?_⟩⟩;cases i with
  | zero=>cases J;rfl
  | succ i=>cases J
 have u:IsB [y]:=fun z A=>by rw[zE.1 A];exact Q
 refine qpr (s:=⟨pW r,1,1⟩) (src:=27) (dst:=9) (e:=5) E u oK oK oK ?_;rw[qcR];refine qaP (by show ((_:Nat):Int)<=9223372036854775807;rw[xI];omega) ?_;rw[quP];refine hX _ _ ⟨G.trans f2,l++[y],rfl,fun z A=>?_,by rw[zF,xI];omega⟩ (by rw[qcR,qcR,zF,xI];omega);rcases zD.1 A with h|h;exact I z h;exact u z h;have h:=zB h;exact qwj 0 n rfl rfl (yW _) oJ<|R _ _ (by rw[xD,yK];omega) (fun z A=>I z (yU A)) G
def encPr (x:Key×Key):List Value:=[.string (strL x.1),.string (strL x.2)]
def PrB (L:Prs):Prop:=∀x∈L,IsB x.1/\IsB x.2/\x.1.length<=1000000/\x.2.length<=1000000
def upto1{F:(Int->WP)->Int->WP}(m:Nat)(I:Nat->WP)(G:m<=100000)(u:I 0 w)(z:∀i w (X:Int->WP),i<=m->I i w->(∀w',i<m->I (i+1) w'->X (wrap .i64 ((i:Int)+1)) w')->F X (i:Int) w):loop Int F 0 w:=by refine qaj (fun y w'=>∃i:Nat,y=i/\i<=m/\I i w') (fun y _=>m-y.toNat) ⟨0,rfl,yW _,u⟩ ?_;rintro y w ⟨i,rfl,hi,h⟩ X A;exact z i w X hi h fun w' C E=>A _ _ ⟨i+1,by rw[wi' _ oJ];rfl,C,E⟩ (by rw[wi' _ oJ];omega)
def upto{S:Type}{F:(S×Int->WP)->S×Int->WP}(m:Nat)(I:Nat->S->WP){s:S}(J:m<=100000)(z:I 0 s w)(A:∀i s w (X:S×Int->WP),i<=m->I i s w->(∀u w',i<m->I (i+1) u w'->X (u,wrap .i64 ((i:Int)+1)) w')->F X (s,(i:Int)) w):loop (S×Int) F (s,0) w:=by refine qaj (fun y w'=>∃i:Nat,y.2=i/\i<=m/\I i y.1 w') (fun y _=>m-y.2.toNat) ⟨0,rfl,yW _,z⟩ ?_;rintro⟨s,y⟩ w ⟨i,rfl,hi,h⟩ X C;exact A i s w X hi h fun u w' E G=>C _ _ ⟨i+1,by rw[wi' _ oJ];rfl,E,G⟩ (by rw[wi' _ oJ];omega)
def encT (x:Key):List Value:=[.string (strL x)]
abbrev RdT (S:List Nat) (w:World) (s:Sl) (l:List Key):Prop:=Rds encT 1 S w s l
structure NodeT (S:List Nat) (w:World) (x:Bool×Sl×Sl×Sl) (n:NodeM):Prop where
 leaf:x.1=n.leaf
 keys:RdT S w x.2.1 n.keys
 vals:RdT S w x.2.2.1 n.vals
 kids:Rds encU 1 S w x.2.2.2 n.kids
def ntV (x:Bool×Sl×Sl×Sl):Array Value:=#[.bool x.1,x.2.1.v,x.2.2.1.v,x.2.2.2.v]
end
section
open Go Go.Pt List
open Go.IntKind (wrap)
open Classical
attribute [local irreducible] ld ldA ldV fld fldA newZ st new idx idxS idxA slc slcS slcP mkS chk nn call callV inv run runQ runU join loop held ext rng undefer s2a nxt ent IntKind.wrap
end
section
open Go Go.Pt List
open Go.IntKind (wrap)
open Classical
attribute [local irreducible] ld ldA ldV fld fldA newZ st new idx idxS idxA slc slcS slcP mkS chk nn call callV inv run runQ runU join loop held ext rng undefer s2a nxt ent IntKind.wrap
abbrev NTy:TypeId:=105
abbrev x0:Bool×Sl×Sl×Sl:=(false,⟨none,0,0⟩,⟨none,0,0⟩,⟨none,0,0⟩)
structure Nst (w0 w:World) (r1 r:Nat) (x:Bool×Sl×Sl×Sl) (n:NodeM) (B1 B2 B3:List Nat):Prop where
 own:Own [] w0 w [(r,.cells (ntV x) NTy (0,0)),(r1,.cells (ntV x0) NTy (0,0))]
 leaf:x.1=n.leaf
 keys:Buf encT 1 w x.2.1 n.keys B1
 vals:Buf encT 1 w x.2.2.1 n.vals B2
 kids:Buf encU 1 w x.2.2.2 n.kids B3
 d12:∀ b∈B1,b∉B2
 d13:∀ b∈B1,b∉B3
 d23:∀ b∈B2,b∉B3
 new:∀ b,b∈B1\/b∈B2\/b∈B3->w0.heap.size<=b/\b≠r/\b≠r1
section
variable {w0 w:World} {r1 r:Nat} {x:Bool×Sl×Sl×Sl} {n:NodeM} {B1 B2 B3:List Nat}
def out{B C:List Nat}(y:r∉C)(z:∀b∈C,b∉B):∀b∈C,b∉r::B:=fun b u A=>(zG.1 A).elim (fun h=>y (h▸u)) (z b u)
def sw{B C:List Nat}(h:∀b∈B,b∉C):∀b∈C,b∉B:=fun b u y=>h b y u
end
end
section
open Go Go.Pt List
open Go.IntKind (wrap)
open Classical
attribute [local irreducible] ld ldA ldV fld fldA newZ st new idx idxS idxA slc slcS slcP mkS chk nn call callV inv run runQ runU join loop held ext rng undefer s2a nxt ent IntKind.wrap
end
end Go.Proofs.YtgjidjnaigkdfaaGreatDoor
