/- Conditions: those that stand in each line. -/
import Derived.Test.YtmmkegapckbomaaGreatDoorCTL4
import Derived.Test.YtmmkegapckbomaaGreatDoorCTL2
import Derived.Test.YtmmkegapckbomaaGreatDoorCTL3
set_option linter.unusedVariables false
set_option linter.unusedSimpArgs false
set_option linter.defProp false
namespace Go.Proofs.YtmmkegapckbomaaGreatDoor
open Go.Proofs.Tryz (prog)
section
open Go Go.Pt List
open Go.IntKind (wrap)
attribute [local irreducible] ld ldA ldV fld fldA newZ st new idx idxS idxA slc slcS slcP mkS chk nn call callV inv run runQ runU join loop held ext rng undefer s2a nxt ent IntKind.wrap
variable {B:List Nat} {D:DiskM} {K:Sl->WP} {cs:Array Value} {f:DiskM->DiskM×Int} {fresh:List (Int×Int×List Int)} {i:Nat} {ii:Int} {l named numbers pages:List Int} {ls:List (Int×Int)} {r:DiskM×Int} {s:Sl} {w:World}
def qfy{α:Type}{p:α->Bool}:∀ {l:List α} {r:Nat},r<=l.length->(∀(i:Nat) a,i<r->l[i]?=some a->p a=true)->(∀a,l[r]?=some a->p a=false)->(l.takeWhile p).length=r
 | [],r,h,_,_=>by simp at h;simp[h]
 | x::l,0,h,_,u=>by
  have:=u x rfl
  rw[takeWhile_cons,this];rfl
 | x::l,r+1,h,z,u=>by
  have A:=z 0 x (Nat.succ_pos r) rfl
  have:=qfy (p:=p) (l:=l) (r:=r) (by simpa using h) (fun i a C y=>z (i+1) a (by omega) (by simpa using y)) (fun a y=>u a (by simpa using y))
  rw[takeWhile_cons,A];simp[this]
def qwP{l:List Key}{k:Key}{r:Nat}(y:r<=l.length)(z:∀(i:Nat) a,i<r->l[i]?=some a->KLe a k)(A:∀a,l[r]?=some a->KLt k a):kidV l k=r:=
 qfy y (fun i a C u=>zZ (z i a C u)) fun a u=>zU fun h=>h (A a u)
def quy{l:List Key}{k:Key}{r:Nat}(u:r<=l.length)(y:∀(i:Nat) a,i<r->l[i]?=some a->KLt a k)(z:∀a,l[r]?=some a->KLe k a):placeV l k=r:=
 qfy u (fun i a A h=>zZ (y i a A h)) fun a h=>zU (z a h)
def qjn{l:List Key}(h:Rising l){j:Nat}{a b:Key}(u:i<j)(y:l[i]?=some a)(z:l[j]?=some b):KLt a b:=by obtain⟨A,rfl⟩:=zP.1 y;obtain⟨C,rfl⟩:=zP.1 z;exact pairwise_iff_getElem.1 h i j A C u
abbrev NdC:=Bool×Sl×Sl×Sl
def ndV (x:NdC):Array Value:=#[.bool x.1,x.2.1.v,x.2.2.1.v,x.2.2.2.v]
def zeroX:NdC:=(false,⟨none,0,0⟩,⟨none,0,0⟩,⟨none,0,0⟩)
def NB (n:NodeM):Prop:=(∀a∈n.keys,IsB a)/\(∀a∈n.vals,IsB a)/\∀x∈n.kids,U32 x
def NodeR (S:List Nat) (w:World) (x:NdC) (n:NodeM):Prop:=
 x.1=n.leaf/\NB n/\(∃pk,RdK S w x.2.1 pk/\keyP pk=n.keys)/\(∃pv,RdK S w x.2.2.1 pv/\keyP pv=n.vals)/\Rds encU 1 S w x.2.2.2 n.kids
def BufK (Z:List Nat) (w:World) (s:Sl) (l:List Key) (B:List Nat):Prop:=∃pk:Kps,Buf encSl 1 w s (slsP pk) B/\keyP pk=l/\∀p∈pk,RdB Z w p.1 p.2
def NodeB (Z:List Nat) (w:World) (x:NdC) (n:NodeM) (B:List Nat):Prop:=
 x.1=n.leaf/\NB n/\∃Bk h u,B=Bk++(h++u)/\B.Nodup/\BufK Z w x.2.1 n.keys Bk/\BufK Z w x.2.2.1 n.vals h/\Buf encU 1 w x.2.2.2 n.kids u
def BufK.nil(Z:List Nat)(w:World):BufK Z w ⟨none,0,0⟩ [] []:=⟨[],.nil _ _ _,rfl,fun p h=>nomatch h⟩
def NodeB.zero(Z:List Nat)(w:World):NodeB Z w zeroX zeroN []:=⟨rfl,⟨fun _ h=>(nomatch h),fun _ h=>(nomatch h),fun _ h=>(nomatch h)⟩,[],[],[],rfl,nodup_nil,.nil _ _,.nil _ _,.nil _ _ _⟩
section
variable {Z Z' S:List Nat} {w w':World} {s:Sl} {l:List Key} {B:List Nat} {x:NdC} {n:NodeM}
def BufK.lt(h:BufK Z w s l B):∀b∈B,b<w.heap.size:=by obtain⟨pk,u,rfl,_⟩:=h;exact u.lt
def BufK.frame(h:BufK Z w s l B)(f:Fr S w w')(u:∀b∈B,b∉S)(y:∀b∈S,b∈Z\/w.heap.size<=b)(z:∀b∈Z',b∈Z\/w.heap.size<=b):BufK Z' w' s l B:=by obtain⟨pk,A,C,E⟩:=h;exact⟨pk,A.frame f u,C,fun p G=>(E p G).frame (f.mono fun i I J=>(y i I).elim id fun h=>absurd J (by omega)) z⟩
def BufK.frame0(h:BufK Z w s l B)(f:Fr [] w w'):BufK Z w' s l B:=h.frame f (fun _ _ h=>nomatch h) (fun _ h=>nomatch h) fun _ h=>.inl h
def NodeB.lt(h:NodeB Z w x n B):∀b∈B,b<w.heap.size:=by obtain⟨_,_,Bk,C,E,rfl,_,y,z,A⟩:=h;intro b u;rcases zD.1 u with u|u;exact y.lt b u;rcases zD.1 u with u|u;exact z.lt b u;exact A.lt b u
def NodeB.frame(h:NodeB Z w x n B)(f:Fr S w w')(y:∀b∈B,b∉S)(z:∀b∈S,b∈Z\/w.heap.size<=b)(A:∀b∈Z',b∈Z\/w.heap.size<=b):NodeB Z' w' x n B:=by obtain⟨C,u,Bk,E,G,rfl,I,J,K,O⟩:=h;exact⟨C,u,Bk,E,G,rfl,I,J.frame f (fun b u=>y b (by simp[u])) z A,K.frame f (fun b u=>y b (by simp[u])) z A,O.frame f fun b u=>y b (by simp[u])⟩
def NodeB.frame0(h:NodeB Z w x n B)(f:Fr [] w w'):NodeB Z w' x n B:=h.frame f (fun _ _ h=>nomatch h) (fun _ h=>nomatch h) fun _ h=>.inl h
def NodeB.weak(h:NodeB Z w x n B)(u:∀b∈Z',b∈Z\/w.heap.size<=b):NodeB Z' w x n B:=h.frame (.refl [] _) (fun _ _ h=>nomatch h) (fun _ h=>nomatch h) u
def BufK.rd(h:BufK Z w s l B)(u:∀b∈B,b∉S)(y:∀b∈S,b∈Z\/w.heap.size<=b):∃pk,RdK S w s pk/\keyP pk=l:=by obtain⟨pk,z,A,C⟩:=h;exact⟨pk,⟨z.rds qcW u,fun p E=>(C p E).frame (.refl _ _) y⟩,A⟩
def NodeB.rd(h:NodeB Z w x n B)(y:∀b∈B,b∉S)(z:∀b∈S,b∈Z\/w.heap.size<=b):NodeR S w x n:=by obtain⟨A,u,Bk,I,J,rfl,K,C,E,G⟩:=h;exact⟨A,u,C.rd (fun b u=>y b (by simp[u])) z,E.rd (fun b u=>y b (by simp[u])) z,G.rds (fun _=>rfl) fun b u=>y b (by simp[u])⟩
def NodeR.frame{S':List Nat}(h:NodeR S w x n)(f:Fr S w w')(u:∀b∈S',b∈S\/w.heap.size<=b):NodeR S' w' x n:=by obtain⟨y,z,⟨pk,A,C⟩,⟨pv,E,G⟩,I⟩:=h;exact⟨y,z,⟨pk,A.frame f u,C⟩,⟨pv,E.frame f u,G⟩,I.frame f u⟩
def NodeR.frame0(h:NodeR S w x n)(f:Fr [] w w'):NodeR S w' x n:=h.frame (f.mono fun b u=>nomatch u) fun b u=>.inl u
def NodeR.weak{S':List Nat}(h:NodeR S w x n)(u:∀b∈S',b∈S\/w.heap.size<=b):NodeR S' w x n:=h.frame (.refl _ _) u
end
def qjo:∀ {l:List Key},(∀(i:Nat) a b,l[i]?=some a->l[i+1]?=some b->KLt a b)->Rising l
 | [],_=>.nil
 | [x],_=>pairwise_singleton _ _
 | x::y::r,h=>by have ih:Rising (y::r):=qjo fun i a b u A=>h (i+1) a b (by simpa using u) (by simpa using A);have z:KLt x y:=h 0 x y rfl rfl;refine yI.2 ⟨fun a u=>?_,ih⟩;rcases zG.1 u with rfl|u;exact z;exact qaB z (qbG ih a u)
def qf7{α:Type}{l:List α}{x y:α}(h:y∈insAt l i x):y=x\/y∈l:=by unfold insAt at h;simp only[zD,zE] at h;rcases h with (h|h)|h;exact .inr (yU h);exact .inl h;exact .inr (yT h)
def qi8{k v:Nat}:∀(c:Nat) {b:List Int},IsB b->(∀a∈(leafR k v c b).1,IsB a)/\∀a∈(leafR k v c b).2,IsB a
 | 0,_,_=>⟨fun _ h=>(nomatch h),fun _ h=>(nomatch h)⟩
 | c+1,b,h=>by have ih:=qi8 (k:=k) (v:=v) c (b:=b.drop (k+v)) (h.drop _);refine⟨fun a u=>?_,fun a u=>?_⟩;rcases zG.1 u with rfl|u;exact h.take _;exact ih.1 a u;rcases zG.1 u with rfl|u;exact (h.drop _).take _;exact ih.2 a u
def qnT{k:Nat}:∀(c:Nat) {b:List Int},IsB b->∀a∈keysR k c b,IsB a
 | 0,_,_=>fun _ h=>(nomatch h)
 | c+1,b,h=>fun a u=>by rcases zG.1 u with rfl|u;exact h.take _;exact qnT c (h.drop _) a u
def qma:∃i,prog.info? 23=some i/\i.zero=some (.slice none 0 0)/\i.size=1/\i.bytes=24:=qe1 (by kernel_rfl)
abbrev elSl (s:Sl):Value:=s.v
abbrev elU (n:Int):Value:=.u n
def qjP{α:Type}(e:α->Value)(l:List α)(i:Nat)(x:α):(l.take i++[x]++l.drop i).map e=(l.map e).take i++[e x]++(l.map e).drop i:=by rw[xJ,xJ,xL,xM];rfl
def qrM{α:Type}(e:α->Value)(l:List α)(i:Nat):(l.take i++l.drop (i+1)).map e=(l.map e).take i++(l.map e).drop (i+1):=by rw[xJ,xL,xM]
def qe6{a:Addr}{len cap:Nat}{hi:Int}{u:Nat}{K:Sl->Prop}(n:Nat)(y:hi=n)(h:n<=cap)(k:K ⟨some a,n,cap⟩):slc ⟨some a,len,cap⟩ none (some hi) none u K:=by subst y;refine qjr ⟨by omega,by dsimp only;omega⟩ ?_;rw[zJ];exact k
def qaP{b len cap:Nat}{lo:Int}{K:Sl->Prop}(n:Nat)(h:lo=n)(y:n<=len)(u:len<=cap)(z:n<cap)(k:K ⟨some ⟨b,n,none⟩,len-n,cap-n⟩):slc ⟨pW b,len,cap⟩ (some lo) none none 1 K:=by subst h;refine qlB (by omega) (by omega) u (by omega) ?_;rw[zJ,xQ,xO];exact k
def quS{lo hi mx:Int}{u:Nat}{K:Sl->Prop}(h:0<=lo/\lo<=hi/\hi<=mx/\mx<=s.cap)(k:∀y,K y):slc s (some lo) (some hi) (some mx) u K:=by unfold slc;exact⟨by simpa using h,k _⟩
def qc4{α:Type}{e:α->Value}{b:Nat}{T:TypeId}{z:Nat×Nat}{l:List α}(A:w.heap[b]?=some (.cells cs T z))(C:cs.toList.take l.length=l.map e)(i:Nat):∀(j:Nat) u,((l.map e).drop i)[j]?=some u->w.cell? (Addr.add ⟨b,i,none⟩ j)=some u:=fun j u y=>by rw[Addr.add_mk,qag A];rw[yZ] at y;have h:=(zP.1 y).1;rw[zK] at h;rw[<- C,xA,if_pos h] at y;simpa using y
def qkC{α:Type}{e:α->Value}{l:List α}(h:cs.toList.take l.length=l.map e)(hi:i<=l.length):cs.toList.take i=(l.map e).take i:=by rw[<- h,take_take,xN hi]
def qjN{α:Type}{enc:α->List Value}{e:α->Value}(u:∀x,enc x=[e x]){l:List α}(h:cs.toList.take l.length=l.flatMap enc):cs.toList.take l.length=l.map e:=by rw[h,qdM u]
def qsi{l:List Sl}{x:Sl}{vb:Nat}{T':TypeId}(h:Buf encSl 1 w s l B)(hi:i<=l.length)(he:ii=i)(hl:l.length<=100000)(hv:w.heap[vb]?=some (.cells #[elSl x] T' (0,0)))(ah:vb∉B)(kk:∀s' B' w',Buf encSl 1 w' s' (insAt l i x) B'->Fr B w w'->(∀b∈B',b∈B\/w.heap.size<=b)->K s' w'): cW 138 [s.v,.i ii,.slice (pW vb) 1 1] [.one .slice] w K:=by
 obtain⟨aE,U,hz,ai,aj⟩:=qma;refine qke (s:=s) (i:=ii) (v:=⟨pW vb,1,1⟩) ?_;unfold qgj;subst he;have ak:=h.len;have V:∀w',Fr B w w'->∀(j:Nat) u,([elSl x]:List Value)[j]?=some u->w'.cell? (Addr.add ⟨vb,0,none⟩ j)=some u:=fun w' f j u hj=>by rw[Addr.add_mk,qag (by rw[f.block vb (qab hv) ah];exact hv),xO];simpa using hj
 refine Rds.part (S:=[]) (Buf.rds (enc:=encSl) (k:=1) (fun _=>rfl) h (fun _ _ h=>nomatch h)) (lo:=some (i:Int)) (hi:=none) i l.length rfl (by rw[xT,ak]) hi (zM _) fun s1 _ _ _=>cond_false rfl ?_;apply qaa<;>intro hc;have G:i=l.length:=(by have:=yO.1 hc;omega);have al:Src prog 1 22 (.slice (pW vb) 1 1) 1 ([x].flatMap encSl) w:=.ofSlice w (e':=23) (by kernel_rfl) _ 1 1 _ rfl (V w (.refl _ _)) (fun u hu=>by rw[yG,flatMap_nil,xF] at hu;rw[zE.1 hu];rfl);refine Buf.appSrc (ys:=[x]) (e:=23) h (fun _=>rfl) (by kernel_rfl) U hz ai rfl al rfl (by rw[aj];omega) (by omega) fun s' B' w' b' f' n' _=>kk s' B' w' ?_ f' n';have e:insAt l i x=l++[x]:=(by unfold insAt;rw[G,xX,drop_length,xF]);rw[e];exact b';have G:i<l.length:=by
  have:=(zR.1 hc)
  omega
 have aG:l≠[]:=fun e=>by rw[e] at G;exact absurd G (xW _)
 obtain⟨b,cs,T,rfl,ha,hb,hn,am,an,aH⟩:=h.ptr aG;have hM:=qjN (e:=elSl) (fun _=>rfl) aH;obtain⟨sa,sn,sc⟩:=s;dsimp only at ha hn am an;subst ha hn;have aI:vb≠b:=(by simpa using ah);have A:(l.map elSl).length=l.length:=zK ..;have ao:∀v∈(l.map elSl).drop i,Value.oneCell' v=true:=fun v E=>by obtain⟨y,_,rfl⟩:=mem_map.1 (yT E);rfl
 have I:((l.map elSl).drop i).length=l.length-i:=(by rw[yB,A]);have J:wrap .i64 ((l.length:Int)+1)=((l.length+1:Nat):Int):=(by rw[wi' _ (by omega)];rfl);have ap:wrap .i64 ((i:Int)+1)=((i+1:Nat):Int):=(by rw[wi' _ (by omega)];rfl);have aJ:wrap .i64 (((l.length+1:Nat):Int)-(i:Int))=((l.length+1-i:Nat):Int):=(by rw[wi' _ (by omega)];omega);apply qaa<;>intro hc;have hg:sc<l.length+1:=by
  have:=zC hc
  dsimp only at this;rw[show (((1:Nat):Int))=1 from rfl,J] at this;omega
 refine qe6 i rfl (by omega) ?_;dsimp only;rw[show (((1:Nat):Int))=1 from rfl,J,aJ,ap];have aq:i+(l.length+1-i)=l.length+1:=(by omega);refine qk5 (e:=23) (i:=aE) (kn:=.i64) (olds:=(l.map elSl).take i) (by kernel_rfl) (by kernel_rfl) U hz ai rfl (by rw[yK,A];omega) (fun h=>nomatch h) (fun a ha j u hj=>?_) (by omega) (by omega) (by rw[aq,aj];omega) (by omega) fun b2 aL c w2 e2 ac R O aM aN=>?_;cases ha;have ar:=qc4 hb hM 0 j u;rw[xD] at ar;rw[xA] at hj;split at hj;exact ar hj;cases hj;rw[aq] at O⊢;have au:=qab hb;have aX:Fr [b2] w w2:=R.mono fun _ h _=>nomatch h;refine qaP i rfl (by omega) O (by omega)<|qea (vs:=[elSl x]) (src:=⟨pW vb,1,1⟩) ac (el:=23) (by kernel_rfl) (by kernel_rfl) ?_ (fun _=>⟨_,rfl,V w2 (R.mono fun _ h _=>nomatch h)⟩) (fun v E=>by rw[zE.1 E];rfl) (by simp;omega) fun w3 ad f3=>?_;show 1=min 1 (l.length+1-i);omega;refine qaP (i+1) rfl (by omega) O (by omega)<|qaP i rfl (by omega) (by omega) (by omega) ?_;have aO:w3.heap[b]?=some (.cells cs T (0,0)):=by rw[f3.block b (yC au R.size) (by simp;omega),R.block b au (fun h=>nomatch h)];exact hb
 refine qea (w:=w3.drew) (vs:=(l.map elSl).drop i) (src:=⟨some ⟨b,i,none⟩,l.length-i,sc-i⟩) ad (el:=23) (by kernel_rfl) (by kernel_rfl) ?_ (fun _=>⟨_,rfl,qc4 (w:=w3.drew) aO hM i⟩) ao (by rw[qaq,I];omega) fun w4 aP f4=>?_;rw[I];show l.length-i=min (l.length-i) (l.length+1-(i+1));omega;have C:=qt7 (cs:=aL) (M:=l.map elSl) (i:=i) (v:=elSl x) (by rw[A];omega) (by rw[A];omega) aN;have z:(insAt l i x).length=l.length+1:=(by unfold insAt;simp;omega);refine kk _ [b2] w4 (Buf.one (e:=elSl) (fun _=>rfl) aP z.symm O (by rw[qaq,qaq];exact aM) ?_) ?_ (fun b' ae=>?_);rw[z];rw[A] at C;rw[C];exact (qjP elSl l i x).symm;refine Fr.trans' (S:=[b]) (T:=[b2]) (R.mono fun _ h _=>nomatch h) (f3.drew.trans f4) fun i hi=>.inr ?_;rw[zE.1 hi,e2];exact zM _;rw[zE.1 ae,e2];exact .inr (zM _);have hg:l.length+1<=sc:=by
  have:=zB hc
  dsimp only at this;rw[show (((1:Nat):Int))=1 from rfl,J] at this;omega
 dsimp only;rw[show (((1:Nat):Int))=1 from rfl,J,ap];refine qe6 (l.length+1) rfl hg<|qaP (i+1) rfl (by omega) hg (by omega)<|qiU (e:=Extern.SlicesOverlaps.overlaps #[22,22] #[4]) Tryz.func172 (by kernel_rfl) (by kernel_rfl) (by kernel_rfl) (by kernel_rfl) false w (qmq (by kernel_rfl) U hv hb aI)<|cond_true rfl<|qaP (i+1) rfl (by omega) hg (by omega)<|qaP i rfl (by omega) hg (by omega)<|qea (w:=w.drew) (vs:=(l.map elSl).drop i) (src:=⟨some ⟨b,i,none⟩,l.length+1-i,sc-i⟩) hb (el:=23) (by kernel_rfl) (by kernel_rfl) ?_ (fun _=>⟨_,rfl,qc4 (w:=w.drew) hb hM i⟩) ao (by rw[I];omega) fun w2 ac R=>?_;rw[I];show l.length-i=min (l.length+1-i) (l.length+1-(i+1));omega;refine qaP i rfl (by omega) hg (by omega)<|qea (vs:=[elSl x]) (src:=⟨pW vb,1,1⟩) ac (el:=23) (by kernel_rfl) (by kernel_rfl) ?_ (fun _=>⟨_,rfl,V w2 ((Fr.refl [b] w).drew.trans R)⟩) (fun v E=>by rw[zE.1 E];rfl) (by rw[qaq];simp;omega) fun w3 ad f3=>?_;show 1=min 1 (l.length+1-i);omega;have C:=qt9 (cs:=cs) (M:=l.map elSl) (i:=i) (v:=elSl x) (by rw[A];omega) (by rw[A];omega) (qkC hM (by omega));have z:(insAt l i x).length=l.length+1:=(by unfold insAt;simp;omega);refine kk _ [b] w3 (Buf.one (e:=elSl) (fun _=>rfl) ad z.symm hg (by rw[qaq,qaq];exact an) ?_) (((Fr.refl [b] w).drew.trans R).trans f3) (fun b' ae=>.inl ae);rw[z];rw[A] at C;rw[C];exact (qjP elSl l i x).symm
def qsf{l:List Sl}{jj:Int}(h:Buf encSl 1 w s l B)(hi:i<l.length)(he:ii=i)(hj:jj=((i+1:Nat):Int))(hl:l.length<=100000)(kk:∀s' w',Buf encSl 1 w' s' (delAt l i) B->Fr B w w'->K s' w'): cW 141 [s.v,.i ii,.i jj] [.one .slice] w K:=by
 obtain⟨au,aa,hz,ab,av⟩:=qma;refine qkc ?_;unfold qgh;subst he hj;have ac:l≠[]:=fun e=>by rw[e] at hi;exact absurd hi (xW _)
 obtain⟨b,cs,T,rfl,ha,hb,hn,O,E,ad⟩:=h.ptr ac;have hM:=qjN (e:=elSl) (fun _=>rfl) ad;obtain⟨sa,sn,sc⟩:=s;dsimp only at ha hn O E;subst ha hn;have A:(l.map elSl).length=l.length:=zK ..;have ay:∀v∈(l.map elSl).drop (i+1),Value.oneCell' v=true:=fun v ae=>by obtain⟨y,_,rfl⟩:=mem_map.1 (yT ae);rfl
 have az:((l.map elSl).drop (i+1)).length=l.length-(i+1):=(by rw[yB,A]);refine quS (by dsimp only;omega) fun _=>cond_false (zR.2 (by omega))<|qe6 i rfl (by omega) ?_;have af:∀J,J.heap[b]?=some (.cells (splice cs i ((l.map elSl).drop (i+1))) T (0,0))->Fr [b] w J->slc ⟨pW b,l.length-1,sc⟩ (some (((l.length-1:Nat)):Int)) (some ((l.length:Nat):Int)) none 1 fun (G:Sl)=>
  run [] ((Builtin.clear_ #[22] 0 (#[Value.slice G.a G.len G.cap])).run prog J)<|
  fun (aA:PUnit) (ag:World)=>
  K ⟨pW b,l.length-1,sc⟩ ag:=fun J I f5=>by
  refine qjX (by omega) (by omega) (by omega) (by omega) ?_;rw[zJ,zJ,xQ,xO];have h1:l.length-(l.length-1)=1:=(by omega);rw[h1];dsimp only;refine qrL (e:=23) (z:=(Value.slice none 0 0)) I (by kernel_rfl) (by kernel_rfl) rfl rfl (by omega) (by rw[qaq];omega) fun w6 ai f6=>?_;have C:=qtQ (cs:=cs) (M:=l.map elSl) (i:=i) (z:=(Value.slice none 0 0)) (by rw[A];omega) (by rw[A];exact hM);have R:(delAt l i).length=l.length-1:=(by unfold delAt;simp;omega);refine kk _ w6 (Buf.one (e:=elSl) (fun _=>rfl) ai R.symm (by omega) (by rw[qaq,qaq];exact E) ?_) (f5.trans f6);rw[R];rw[A] at C;rw[show List.replicate 1 ((Value.slice none 0 0))=[(Value.slice none 0 0)] from rfl,C];exact (qrM elSl l i).symm
 refine Rds.part (S:=[]) (Buf.rds (enc:=encSl) (k:=1) (fun _=>rfl) h (fun _ _ h=>nomatch h)) (lo:=some ((i+1:Nat):Int)) (hi:=none) (i+1) l.length rfl rfl (by omega) (zM _) fun s3 U h3 aF=>?_;have V:Src prog 1 22 s3.v s3.len ((l.map elSl).drop (i+1)) w.drew:=by
  have:=qe5 (P:=prog) (tx:=22) (e':=23) (h3.same (Same.refl w).drew) (fun _=>rfl) (fun x u hu=>by rw[zE.1 hu];rfl)
  rw[qdM (enc:=encSl) (e:=elSl) (fun _=>rfl),xX,xM] at this;exact this
 dsimp only;refine qrH (w:=w.drew) (e:=23) hb (by kernel_rfl) aa ab V (by rw[U];omega) E fun J I f5=>?_;have e:i+s3.len=l.length-1:=(by rw[U];omega);rw[e];exact af J I ((Fr.refl [b] w).drew.trans f5)
def qsj{x:Int}{vb:Nat}{T':TypeId}(h:Buf encU 1 w s l B)(hi:i<=l.length)(he:ii=i)(hl:l.length<=100000)(hv:w.heap[vb]?=some (.cells #[elU x] T' (0,0)))(ah:vb∉B)(kk:∀s' B' w',Buf encU 1 w' s' (insAt l i x) B'->Fr B w w'->(∀b∈B',b∈B\/w.heap.size<=b)->K s' w'): cW 140 [s.v,.i ii,.slice (pW vb) 1 1] [.one .slice] w K:=by
 obtain⟨aE,U,hz,ai,aj⟩:=qed;refine qkf (s:=s) (i:=ii) (v:=⟨pW vb,1,1⟩) ?_;unfold qgk;subst he;have ak:=h.len;have V:∀w',Fr B w w'->∀(j:Nat) u,([elU x]:List Value)[j]?=some u->w'.cell? (Addr.add ⟨vb,0,none⟩ j)=some u:=fun w' f j u hj=>by rw[Addr.add_mk,qag (by rw[f.block vb (qab hv) ah];exact hv),xO];simpa using hj
 refine Rds.part (S:=[]) (Buf.rds (enc:=encU) (k:=1) (fun _=>rfl) h (fun _ _ h=>nomatch h)) (lo:=some (i:Int)) (hi:=none) i l.length rfl (by rw[xT,ak]) hi (zM _) fun s1 _ _ _=>cond_false rfl ?_;apply qaa<;>intro hc;have G:i=l.length:=(by have:=yO.1 hc;omega);have al:Src prog 1 92 (.slice (pW vb) 1 1) 1 ([x].flatMap encU) w:=.ofSlice w (e':=37) (by kernel_rfl) _ 1 1 _ rfl (V w (.refl _ _)) (fun u hu=>by rw[yG,flatMap_nil,xF] at hu;rw[zE.1 hu];rfl);refine Buf.appSrc (ys:=[x]) (e:=37) h (fun _=>rfl) (by kernel_rfl) U hz ai rfl al rfl (by rw[aj];omega) (by omega) fun s' B' w' b' f' n' _=>kk s' B' w' ?_ f' n';have e:insAt l i x=l++[x]:=(by unfold insAt;rw[G,xX,drop_length,xF]);rw[e];exact b';have G:i<l.length:=by
  have:=(zR.1 hc)
  omega
 have aG:l≠[]:=fun e=>by rw[e] at G;exact absurd G (xW _)
 obtain⟨b,cs,T,rfl,ha,hb,hn,am,an,aH⟩:=h.ptr aG;have hM:=qjN (e:=elU) (fun _=>rfl) aH;obtain⟨sa,sn,sc⟩:=s;dsimp only at ha hn am an;subst ha hn;have aI:vb≠b:=(by simpa using ah);have A:(l.map elU).length=l.length:=zK ..;have ao:∀v∈(l.map elU).drop i,Value.oneCell' v=true:=fun v E=>by obtain⟨y,_,rfl⟩:=mem_map.1 (yT E);rfl
 have I:((l.map elU).drop i).length=l.length-i:=(by rw[yB,A]);have J:wrap .i64 ((l.length:Int)+1)=((l.length+1:Nat):Int):=(by rw[wi' _ (by omega)];rfl);have ap:wrap .i64 ((i:Int)+1)=((i+1:Nat):Int):=(by rw[wi' _ (by omega)];rfl);have aJ:wrap .i64 (((l.length+1:Nat):Int)-(i:Int))=((l.length+1-i:Nat):Int):=(by rw[wi' _ (by omega)];omega);apply qaa<;>intro hc;have hg:sc<l.length+1:=by
  have:=zC hc
  dsimp only at this;rw[show (((1:Nat):Int))=1 from rfl,J] at this;omega
 refine qe6 i rfl (by omega) ?_;dsimp only;rw[show (((1:Nat):Int))=1 from rfl,J,aJ,ap];have aq:i+(l.length+1-i)=l.length+1:=(by omega);refine qk5 (e:=37) (i:=aE) (kn:=.i64) (olds:=(l.map elU).take i) (by kernel_rfl) (by kernel_rfl) U hz ai rfl (by rw[yK,A];omega) (fun h=>nomatch h) (fun a ha j u hj=>?_) (by omega) (by omega) (by rw[aq,aj];omega) (by omega) fun b2 aL c w2 e2 ac R O aM aN=>?_;cases ha;have ar:=qc4 hb hM 0 j u;rw[xD] at ar;rw[xA] at hj;split at hj;exact ar hj;cases hj;rw[aq] at O⊢;have au:=qab hb;have aX:Fr [b2] w w2:=R.mono fun _ h _=>nomatch h;refine qaP i rfl (by omega) O (by omega)<|qea (vs:=[elU x]) (src:=⟨pW vb,1,1⟩) ac (el:=37) (by kernel_rfl) (by kernel_rfl) ?_ (fun _=>⟨_,rfl,V w2 (R.mono fun _ h _=>nomatch h)⟩) (fun v E=>by rw[zE.1 E];rfl) (by simp;omega) fun w3 ad f3=>?_;show 1=min 1 (l.length+1-i);omega;refine qaP (i+1) rfl (by omega) O (by omega)<|qaP i rfl (by omega) (by omega) (by omega) ?_;have aO:w3.heap[b]?=some (.cells cs T (0,0)):=by rw[f3.block b (yC au R.size) (by simp;omega),R.block b au (fun h=>nomatch h)];exact hb
 refine qea (w:=w3.drew) (vs:=(l.map elU).drop i) (src:=⟨some ⟨b,i,none⟩,l.length-i,sc-i⟩) ad (el:=37) (by kernel_rfl) (by kernel_rfl) ?_ (fun _=>⟨_,rfl,qc4 (w:=w3.drew) aO hM i⟩) ao (by rw[qaq,I];omega) fun w4 aP f4=>?_;rw[I];show l.length-i=min (l.length-i) (l.length+1-(i+1));omega;have C:=qt7 (cs:=aL) (M:=l.map elU) (i:=i) (v:=elU x) (by rw[A];omega) (by rw[A];omega) aN;have z:(insAt l i x).length=l.length+1:=(by unfold insAt;simp;omega);refine kk _ [b2] w4 (Buf.one (e:=elU) (fun _=>rfl) aP z.symm O (by rw[qaq,qaq];exact aM) ?_) ?_ (fun b' ae=>?_);rw[z];rw[A] at C;rw[C];exact (qjP elU l i x).symm;refine Fr.trans' (S:=[b]) (T:=[b2]) (R.mono fun _ h _=>nomatch h) (f3.drew.trans f4) fun i hi=>.inr ?_;rw[zE.1 hi,e2];exact zM _;rw[zE.1 ae,e2];exact .inr (zM _);have hg:l.length+1<=sc:=by
  have:=zB hc
  dsimp only at this;rw[show (((1:Nat):Int))=1 from rfl,J] at this;omega
 dsimp only;rw[show (((1:Nat):Int))=1 from rfl,J,ap];refine qe6 (l.length+1) rfl hg<|qaP (i+1) rfl (by omega) hg (by omega)<|qiU (e:=Extern.SlicesOverlaps.overlaps #[92,92] #[4]) Tryz.func176 (by kernel_rfl) (by kernel_rfl) (by kernel_rfl) (by kernel_rfl) false w (qmq (by kernel_rfl) U hv hb aI)<|cond_true rfl<|qaP (i+1) rfl (by omega) hg (by omega)<|qaP i rfl (by omega) hg (by omega)<|qea (w:=w.drew) (vs:=(l.map elU).drop i) (src:=⟨some ⟨b,i,none⟩,l.length+1-i,sc-i⟩) hb (el:=37) (by kernel_rfl) (by kernel_rfl) ?_ (fun _=>⟨_,rfl,qc4 (w:=w.drew) hb hM i⟩) ao (by rw[I];omega) fun w2 ac R=>?_;rw[I];show l.length-i=min (l.length+1-i) (l.length+1-(i+1));omega;refine qaP i rfl (by omega) hg (by omega)<|qea (vs:=[elU x]) (src:=⟨pW vb,1,1⟩) ac (el:=37) (by kernel_rfl) (by kernel_rfl) ?_ (fun _=>⟨_,rfl,V w2 ((Fr.refl [b] w).drew.trans R)⟩) (fun v E=>by rw[zE.1 E];rfl) (by rw[qaq];simp;omega) fun w3 ad f3=>?_;show 1=min 1 (l.length+1-i);omega;have C:=qt9 (cs:=cs) (M:=l.map elU) (i:=i) (v:=elU x) (by rw[A];omega) (by rw[A];omega) (qkC hM (by omega));have z:(insAt l i x).length=l.length+1:=(by unfold insAt;simp;omega);refine kk _ [b] w3 (Buf.one (e:=elU) (fun _=>rfl) ad z.symm hg (by rw[qaq,qaq];exact an) ?_) (((Fr.refl [b] w).drew.trans R).trans f3) (fun b' ae=>.inl ae);rw[z];rw[A] at C;rw[C];exact (qjP elU l i x).symm
def qsg{jj:Int}(h:Buf encU 1 w s l B)(hi:i<l.length)(he:ii=i)(hj:jj=((i+1:Nat):Int))(hl:l.length<=100000)(kk:∀s' w',Buf encU 1 w' s' (delAt l i) B->Fr B w w'->K s' w'): cW 214 [s.v,.i ii,.i jj] [.one .slice] w K:=by
 obtain⟨au,aa,hz,ab,av⟩:=qed;refine qkd ?_;unfold qgi;subst he hj;have ac:l≠[]:=fun e=>by rw[e] at hi;exact absurd hi (xW _)
 obtain⟨b,cs,T,rfl,ha,hb,hn,O,E,ad⟩:=h.ptr ac;have hM:=qjN (e:=elU) (fun _=>rfl) ad;obtain⟨sa,sn,sc⟩:=s;dsimp only at ha hn O E;subst ha hn;have A:(l.map elU).length=l.length:=zK ..;have ay:∀v∈(l.map elU).drop (i+1),Value.oneCell' v=true:=fun v ae=>by obtain⟨y,_,rfl⟩:=mem_map.1 (yT ae);rfl
 have az:((l.map elU).drop (i+1)).length=l.length-(i+1):=(by rw[yB,A]);refine quS (by dsimp only;omega) fun _=>cond_false (zR.2 (by omega))<|qe6 i rfl (by omega) ?_;have af:∀J,J.heap[b]?=some (.cells (splice cs i ((l.map elU).drop (i+1))) T (0,0))->Fr [b] w J->slc ⟨pW b,l.length-1,sc⟩ (some (((l.length-1:Nat)):Int)) (some ((l.length:Nat):Int)) none 1 fun (G:Sl)=>
  run [] ((Builtin.clear_ #[92] 0 (#[Value.slice G.a G.len G.cap])).run prog J)<|
  fun (aA:PUnit) (ag:World)=>
  K ⟨pW b,l.length-1,sc⟩ ag:=fun J I f5=>by
  refine qjX (by omega) (by omega) (by omega) (by omega) ?_;rw[zJ,zJ,xQ,xO];have h1:l.length-(l.length-1)=1:=(by omega);rw[h1];dsimp only;refine qrL (e:=37) (z:=(Value.int .u32 0)) I (by kernel_rfl) (by kernel_rfl) rfl rfl (by omega) (by rw[qaq];omega) fun w6 ai f6=>?_;have C:=qtQ (cs:=cs) (M:=l.map elU) (i:=i) (z:=(Value.int .u32 0)) (by rw[A];omega) (by rw[A];exact hM);have R:(delAt l i).length=l.length-1:=(by unfold delAt;simp;omega);refine kk _ w6 (Buf.one (e:=elU) (fun _=>rfl) ai R.symm (by omega) (by rw[qaq,qaq];exact E) ?_) (f5.trans f6);rw[R];rw[A] at C;rw[show List.replicate 1 ((Value.int .u32 0))=[(Value.int .u32 0)] from rfl,C];exact (qrM elU l i).symm
 refine Rds.part (S:=[]) (Buf.rds (enc:=encU) (k:=1) (fun _=>rfl) h (fun _ _ h=>nomatch h)) (lo:=some ((i+1:Nat):Int)) (hi:=none) (i+1) l.length rfl rfl (by omega) (zM _) fun s3 U h3 aF=>?_;have V:Src prog 1 92 s3.v s3.len ((l.map elU).drop (i+1)) w.drew:=by
  have:=qe5 (P:=prog) (tx:=92) (e':=37) (h3.same (Same.refl w).drew) (fun _=>rfl) (fun x u hu=>by rw[zE.1 hu];rfl)
  rw[qdM (enc:=encU) (e:=elU) (fun _=>rfl),xX,xM] at this;exact this
 dsimp only;refine qrH (w:=w.drew) (e:=37) hb (by kernel_rfl) aa ab V (by rw[U];omega) E fun J I f5=>?_;have e:i+s3.len=l.length-1:=(by rw[U];omega);rw[e];exact af J I ((Fr.refl [b] w).drew.trans f5)
section
structure Grew (P:Int×Blk->Prop) (D D':DiskM):Prop where
 safe:D'.safe=D.safe
 waits:∃ W,D'.waits=D.waits++W/\∀ x∈W,P x
section
variable {P Q:Int×Blk->Prop} {D D1 D2:DiskM}
def Grew.refl(P:Int×Blk->Prop)(D:DiskM):Grew P D D:=⟨rfl,[],by simp,fun x h=>nomatch h⟩
def Grew.trans(h:Grew P D D1)(g:Grew P D1 D2):Grew P D D2:=by obtain⟨u,W,y,z⟩:=h;obtain⟨A,V,C,E⟩:=g;exact⟨A.trans u,W++V,by rw[C,y,zV],fun x G=>(zD.1 G).elim (z x) (E x)⟩
def Grew.mono(h:Grew P D D1)(y:∀x,P x->Q x):Grew Q D D1:=⟨h.safe,h.waits.imp fun W u=>⟨u.1,fun x z=>y x (u.2 x z)⟩⟩
def qh4{n:Int}:Grew (fun x=>x.1=n/\x.2.1=l) D (writeM D n l).1:=by unfold writeM;split;exact .refl _ _;split;exact .refl _ _;split;rename_i h;have u:=qbU (addW D n ⟨l,h⟩);refine⟨u.1,[(n,⟨l,h⟩)],u.2,fun x y=>?_⟩;rw[zE.1 y];exact⟨rfl,rfl⟩;exact .refl _ _
def qop(h:(syncM D).2≠0):Grew P D (syncM D).1:=by have u:=qbU D;unfold syncM at h⊢;split;exact .refl _ _;rename_i y;rw[if_neg y] at h;split;exact⟨u.1,[],by rw[u.2];simp,fun x z=>nomatch z⟩;rename_i A;rw[if_neg A] at h;exact absurd rfl h
def quY(u:Grew P D r.1)(y:r.2=0->Grew P r.1 (f r.1).1):Grew P D (andThen r f).1:=by unfold andThen;by_cases h:r.2=0;rw[if_pos h];exact u.trans (y h);rw[if_neg h];exact u
def qgF:∀ {l:List (Int×List Int)} {D:DiskM},(∀x∈l,∀b:Blk,P (x.1,b))->Grew P D (writesM l D).1
 | [],D,_=>.refl _ _
 | y::l,D,h=>quY (f:=writesM l) (qh4.mono fun x u=>by obtain⟨a,b⟩:=x;obtain⟨rfl,_⟩:=u;exact h y (by simp) b) fun _=>qgF fun x u=>h x (zN _ u)
def qjY(h:(andThen r f).2≠0):r.2≠0/\andThen r f=r\/r.2=0/\(f r.1).2≠0/\andThen r f=f r.1:=by unfold andThen at h⊢;by_cases h0:r.2=0;rw[if_pos h0] at h⊢;exact .inr ⟨h0,h,rfl⟩;rw[if_neg h0] at h⊢;exact .inl ⟨h0,rfl⟩
def qrs(z:∀x∈pages,∀b:Blk,P (x,b))(h:(spreadM D numbers pages).2≠0):Grew P D (spreadM D numbers pages).1:=by
 unfold spreadM at h⊢;split;exact .refl _ _;rename_i A;rw[if_neg A] at h;have u:Grew P D (writesM ((pages.zip (bodiesV numbers pages).1).map fun x=>(x.1,sealV x.1 2 x.2)) D).1:=qgF fun x C b=>by obtain⟨y,E,rfl⟩:=mem_map.1 C;exact z y.1 (of_mem_zip E).1 b
 rcases qjY h with ⟨_,e⟩|⟨_,G,e⟩;rw[e];exact u;rw[e];exact u.trans (qop G)
end
def qhE{next:Sup}(h:(flushM D fresh pages named next).2≠0): Grew (fun x=>x.1∈fresh.map (·.1)\/x.1∈pages) D (flushM D fresh pages named next).1\/ ((writesM (freshW fresh) D).2=0/\(spreadM (writesM (freshW fresh) D).1 named pages).2=0/\ Grew (fun x=>x.1=(superP next).1/\x.2.1=(superP next).2) (spreadM (writesM (freshW fresh) D).1 named pages).1 (flushM D fresh pages named next).1):=by
 have C:Grew (fun x=>x.1∈fresh.map (·.1)\/x.1∈pages) D (writesM (freshW fresh) D).1:=qgF fun x u b=>.inl (by have:x.1∈(freshW fresh).map (·.1):=zY u;rw[qa6] at this;exact qaS.1 this);rcases qjY (show (andThen (writesM (freshW fresh) D) fun D=>andThen (spreadM D named pages) fun D=>sealM D next).2≠0 from h) with ⟨_,e⟩|⟨E,G,e⟩
 ·left;rw[show flushM D fresh pages named next=writesM (freshW fresh) D from e];exact C
 rcases qjY G with ⟨y,z⟩|⟨y,I,z⟩
 ·left;rw[show flushM D fresh pages named next=spreadM (writesM (freshW fresh) D).1 named pages from e.trans z];exact C.trans (qrs (fun x u b=>.inr u) y)
 ·right;refine⟨E,y,?_⟩;rw[show flushM D fresh pages named next=sealM (spreadM (writesM (freshW fresh) D).1 named pages).1 next from e.trans z];rcases qjY (show (andThen (writeM _ (superP next).1 (superP next).2) syncM).2≠0 from I) with ⟨_,A⟩|⟨_,J,A⟩
  ·rw[show sealM (spreadM (writesM (freshW fresh) D).1 named pages).1 next=_ from A];exact qh4
  ·rw[show sealM (spreadM (writesM (freshW fresh) D).1 named pages).1 next=_ from A];exact qh4.trans (qop J)
def qlS(m:Nat):∀(l:List ((Int×Blk)×(Int×Int))) (s:List Blk),(∀x∈l,x.1.1.toNat≠m)->(l.foldl crashStep s).getD m .zero=s.getD m .zero
 | [],s,_=>rfl
 | x::l,s,h=>by rw[foldl_cons,qlS m l _ fun y u=>h y (zN _ u),crashStep,yQ,List.getElem?_set_ne (h x (by simp)),yQ]
def qlT{m:Int}(h:∀x∈D.waits,x.1.toNat≠m.toNat):view (crashM D ls) m=(D.safe.getD m.toNat .zero).1:=by show (((D.waits.zip ls).foldl crashStep D.safe).getD m.toNat .zero).1=_;rw[qlS m.toNat _ _ fun x u=>h x.1 (of_mem_zip u).1]
def qh3{m:Int}(h:D.waits=[]):view D m=(D.safe.getD m.toNat .zero).1:=by rw[view,h];rfl
def qsy:(crashM D ls).safe.length=D.safe.length:=qeb _ _
structure Fallen (D D':DiskM) (M:PgM) (pages named:List Int):Prop where
 down:D'.down=false
 waits:D'.waits=[]
 size:D'.size=D.size
 rest:∀ m,2<=m->m∉M.fresh.map (·.1)->m∉pages->view D' m=view D m
 stay:view D' (M.sup.1%2)=view D (M.sup.1%2)
 super:(view D' ((M.sup.1+1)%2)=view D ((M.sup.1+1)%2))\/(Listed D' named pages/\∀ e∈M.fresh,view D' e.1=sealV e.1 e.2.1 e.2.2)
def qri{h new:Blk}:overlayB h new 0 512=new:=by unfold overlayB;rw[dif_pos ⟨by omega,by omega⟩];apply Subtype.ext;have u:=h.2;have y:=new.2;show h.1.take 0++(new.1.drop 0).take (512-0)++h.1.drop 512=new.1;rw[take_zero,xG,xD,zS (by omega),drop_of_length_le (by omega),xF]
def qq3{M:PgM}(hd:D.down=false)(I:D.waits=[])(J:M.Wf)(y:planM M=some (pages,named))(hs:SupOk (nextS M pages named))(hq:(nextS M pages named).1=M.sup.1+1)(h0:0<=M.sup.1)(h:(flushM D M.fresh pages named (nextS M pages named)).2≠0):Fallen D (crashM (flushM D M.fresh pages named (nextS M pages named)).1 ls) M pages named:=by
 have z:=qa7 J y;have A:(crashM (flushM D M.fresh pages named (nextS M pages named)).1 ls).size=D.size:=by show ((crashM _ ls).safe.length:Int)=D.safe.length;rw[qsy,qti]
 have O:=hs.superP;rw[hq] at O;rcases qhE h with hg|⟨h1,h2,hg⟩;obtain⟨gs,W,R,U⟩:=hg;rw[I,xG] at R;have G:∀m:Int,0<=m->m∉M.fresh.map (·.1)->m∉pages->view (crashM (flushM D M.fresh pages named (nextS M pages named)).1 ls) m=view D m:=fun m V a b=>by
  rw[qlT fun x K=>?_,gs,qh3 I];rw[R] at K;have an:2<=x.1:=by rcases U x K with u|u;exact (J.keys _ u).1;exact (z.pgs _ u).1
  intro e;have:x.1=m:=(by omega);rcases U x K with u|u;exact a (this▸u);exact b (this▸u)
 have E:∀m:Int,m<2->m∉M.fresh.map (·.1)/\m∉pages:=fun m V=>⟨fun u=>by have:=(J.keys _ u).1;omega,fun u=>by have:=(z.pgs _ u).1;omega⟩;exact⟨rfl,rfl,A,fun m V a b=>G m (by omega) a b,G _ (by omega) (E _ (by omega)).1 (E _ (by omega)).2,.inl (G _ (by omega) (E _ (by omega)).1 (E _ (by omega)).2)⟩;have ac:((freshW M.fresh).map (·.1)).Nodup:=(by rw[qa6];exact qbd (qaX _));obtain⟨d1,a1,v1,u1⟩:=qbS (qgG I) hd h1 ac;obtain⟨d2,w2,l2,v2⟩:=qdD a1 d1 z h2;obtain⟨gs,W,R,U⟩:=hg;rw[w2,xG] at R;have G:∀m:Int,0<=m->m≠(M.sup.1+1)%2->view (crashM (flushM D M.fresh pages named (nextS M pages named)).1 ls) m=view (spreadM (writesM (freshW M.fresh) D).1 named pages).1 m:=fun m V au=>by
  rw[qlT fun x K=>?_,gs,qh3 w2];rw[R] at K
  have:=(U x K).1
  rw[O] at this;dsimp only at this;omega
 refine⟨rfl,rfl,A,fun m V a b=>?_,?_,.inr ⟨fun i p hp=>?_,fun e he=>?_⟩⟩;rw[G m (by omega) (by omega),v2 m (by omega) b];refine u1 m fun C=>a ?_;rw[qa6] at C;exact qaS.1 C;rw[G _ (by omega) (by omega),v2 _ (by omega) fun u=>by have:=(z.pgs _ u).1;omega];refine u1 _ fun C=>?_;rw[qa6] at C
 have:=(J.keys _ (qaS.1 C)).1
 omega
 have:=z.pgs p (yE hp)
 rw[G p (by omega) (by omega)];exact l2 i p hp;have hk:=J.keys e.1 (zY he);have hf:=qeV J y e.1 (zY he);rw[G _ (by omega) (by omega),v2 _ (by omega) hf.1];exact v1 _ (ql5 J.keysNodup he)
def qps{D':DiskM}{M:PgM}(y:Fallen D D' M pages named)(E:Opens D M.sup M.lists M.named)(U:M.Wf)(u:planM M=some (pages,named))(V:SupOk (nextS M pages named))(K:(nextS M pages named).1=M.sup.1+1)(z:0<=M.sup.1)(hk:(readSV ((M.sup.1+1)%2) (view D' ((M.sup.1+1)%2))).2=0->(readSV ((M.sup.1+1)%2) (view D' ((M.sup.1+1)%2))).1.1<M.sup.1\/view D' ((M.sup.1+1)%2)=(superP (nextS M pages named)).2): Opens D' M.sup M.lists M.named\/(Opens D' (nextS M pages named) pages named/\∀e∈M.fresh,view D' e.1=sealV e.1 e.2.1 e.2.2):=by
 have A:newestV (view D' 0) (view D' 1)=(M.sup,0)->Opens D' M.sup M.lists M.named:=fun J=>E.same U u y.down y.size J y.rest;have G:=V.superP;rw[K] at G;by_cases hr:(readSV ((M.sup.1+1)%2) (view D' ((M.sup.1+1)%2))).2=0;rcases hk hr with C|C;exact .inl (A (qhL (v:=view D) (v':=view D') E.newest z y.stay fun _=>C));rcases y.super with h|⟨hl,O⟩;rw[h] at C;left;have J:=E.newest;refine A (qhL (v:=view D) (v':=view D') J z y.stay fun _=>?_);rw[h];rcases qdw J with ⟨h1,I,R⟩|⟨h1,I,R⟩;have I:M.sup.1%2=0:=(by rw[<- Int.tmod_eq_emod_of_nonneg z];exact I);have e:(M.sup.1+1)%2=1:=(by omega);rw[e] at hr h⊢;rw[h] at hr;have h5:=R hr;have h4:=qjk hr;have:(readSV 1 (view D 1)).1.1≠M.sup.1:=fun e'=>by rw[e',Int.tmod_eq_emod_of_nonneg z] at h4;omega
 omega;have I:M.sup.1%2=1:=(by rw[<- Int.tmod_eq_emod_of_nonneg z];exact I);have e:(M.sup.1+1)%2=0:=(by omega);rw[e] at hr h⊢;rw[h] at hr;exact R hr;right;rw[G] at C;exact⟨E.next U u V K z y.down y.size hl (by rw[K];exact C) y.stay,O⟩;exact .inl (A (qhL (v:=view D) (v':=view D') E.newest z y.stay fun C=>absurd C hr))
end
def Ok7 (e:Int):Prop:=e=0\/e=7
def qot{n:Int}(h:0<=n/\n<D.safe.length)(u:l.length=512):Ok7 (writeM D n l).2:=by unfold writeM;split;exact .inr rfl;split;omega;split;exact .inr rfl;exact .inl rfl
def qqz:Ok7 (syncM D).2:=by unfold syncM;split;exact .inr rfl;split;exact .inr rfl;exact .inl rfl
def qfA(h:Ok7 r.2)(u:Ok7 (f r.1).2):Ok7 (andThen r f).2:=by unfold andThen;split;exact u;exact h
def qh5:∀ {l:List (Int×List Int)} {D:DiskM},(∀x∈l,(0<=x.1/\x.1<D.safe.length)/\x.2.length=512)->Ok7 (writesM l D).2
 | [],D,_=>.inl rfl
 | y::l,D,h=>qfA (f:=writesM l) (qot (h y (by simp)).1 (h y (by simp)).2) (qh5 fun x u=>by rw[qdB];exact h x (zN _ u))
def qvZ{s:Sup}(h:SupOk s)(u:2<=D.safe.length):Ok7 (sealM D s).2:=by refine qfA (f:=syncM) ?_ qqz;rw[h.superP];exact qot (by dsimp only;omega) (h.sealLen _)
def qtk(h:ListOk D.safe.length numbers pages):Ok7 (spreadM D numbers pages).2:=by
 unfold spreadM;rw[h.bodies,if_neg (by simp)];refine qfA (f:=syncM) (qh5 fun x A=>?_) qqz;obtain⟨y,C,rfl⟩:=mem_map.1 A;have z:=of_mem_zip C;have E:=h.pgs _ z.1;refine⟨by dsimp only;omega,qbz ?_⟩;obtain⟨i,u⟩:=mem_iff_getElem?.1 z.2;rw[qeR] at u;split at u;rw[<- yN u]
 have:=qfR numbers i
 rw[qd8];omega;cases u
def qtY{M:PgM}(y:M.Wf)(G:M.sup.2.getD 0 0=D.size)(O:8<=D.size)(h:planM M=some (pages,named))(I:SupOk (nextS M pages named)):Ok7 (flushM D M.fresh pages named (nextS M pages named)).2:=by have A:D.size=D.safe.length:=rfl;have u:=qa7 y h;rw[G,A] at u;have C:(writesM (freshW M.fresh) D).1.safe.length=D.safe.length:=qd0;refine qfA (f:=fun D=>andThen (spreadM D named pages) fun D=>sealM D (nextS M pages named)) (qh5 fun x J=>?_) (qfA (f:=fun D=>sealM D (nextS M pages named)) (qtk (by rw[C];exact u)) (qvZ I ?_));obtain⟨n,z,rfl⟩:=mem_map.1 J;have z:=qaS.1 z;have R:=y.keys n z;refine⟨by dsimp only;omega,qbz ?_⟩;obtain⟨e,E,rfl⟩:=mem_map.1 z;obtain⟨i,K⟩:=qcG y.keysNodup E;rw[leafOf,K];exact (y.body e E).2.1;rw[qgD,C];omega
end
section
open Go Go.Pt List
open Go.IntKind (wrap)
open Classical
attribute [local irreducible] ld ldA ldV fld fldA newZ st new idx idxS idxA slc slcS slcP mkS chk nn call callV inv run runQ runU join loop held ext rng undefer s2a nxt ent IntKind.wrap
variable {B S:List Nat} {K:Sl->WP} {L:List (Nat×Obj)} {T:TypeId} {b l:List Int} {k v:Nat} {kind:Int} {n:NodeM} {ps:Kps} {s:Sl} {w w0:World} {x:NdC}
def qrT{i j:Nat}(h:i+j<=10000000):wrap .i64 (Int.fdiv (wrap .u64 (wrap .i64 ((i:Int)+(j:Int)))) (2^1))=(((i+j) / 2:Nat):Int):=by have e1:wrap .i64 ((i:Int)+(j:Int))=(i:Int)+(j:Int):=wi' _ (by omega);have u:wrap .u64 ((i:Int)+(j:Int))=(i:Int)+(j:Int):=IntWalk.u64_in _ (by omega);rw[e1,u,Int.fdiv_eq_ediv_of_nonneg _ (by decide)];have e:((i:Int)+(j:Int)) / 2^1=(((i+j) / 2:Nat):Int):=(by omega);rw[e,wi' _ (by omega)]
def qtB{n:Nat}{v:Value}{p:Nat->Bool}{K:Int->WP}(A:n<=1000000)(hf:∀y (i:Nat) (U:Bool->WP),Fr [] w y->i<n->(∀C,Fr [] w C->U (p i) C)->callV prog v [.i i] [.one .bool] y U)(u:∀i j,i<=j->j<n->p i=true->p j=true)(hk:∀(r:Nat) w',r<=n->(∀i,i<r->p i=false)->(∀i,r<=i->i<n->p i=true)->Fr [] w w'->K r w'): cW 117 [.i n,v] [.one .i] w K:=by
 refine qno ?_;unfold qjv;refine qah (fun s w'=>∃i j:Nat,s=((i:Int),(j:Int))/\i<=j/\j<=n/\(∀a,a<i->p a=false)/\(∀a,j<=a->a<n->p a=true)/\Fr [] w w') (fun s _=>(s.2-s.1).toNat) ⟨0,n,rfl,by omega,by omega,fun _ h=>absurd h (xW _),fun a E G=>by omega,.refl _ _⟩ ?_;rintro s y ⟨i,j,rfl,ae,I,E,G,V⟩ X hX;dsimp only;apply qaa<;>intro J;have af:i<j:=(by have:=zC J;omega);rw[qrT (by omega)];refine hf y ((i+j) / 2) _ V (by omega) fun C z=>?_;cases hp:p ((i+j) / 2);refine cond_true rfl ?_;have e:wrap .i64 ((((i+j) / 2:Nat):Int)+1)=(((i+j) / 2+1:Nat):Int):=(by rw[wi' _ (by omega)];rfl);rw[e];refine hX _ _ ⟨(i+j) / 2+1,j,rfl,by omega,I,fun a O=>?_,G,z⟩ (by dsimp only;omega);cases R:p a;rfl
 have:=u a ((i+j) / 2) (by omega) (by omega) R
 rw[hp] at this;exact this.symm;exact cond_false rfl<|hX _ _ ⟨i,(i+j) / 2,rfl,by omega,by omega,E,fun a O A=>u _ a O A hp,z⟩ (by dsimp only;omega);have ag:¬i<j:=(by have:=zB J;omega);exact hk i y (by omega) E (fun a O A=>G a (by omega) A) V
def qwj{n:Nat}{v:Value}{c:Nat->Int}{K:Int×Bool->WP}(J:n<=1000000)(hf:∀E (i:Nat) (K':Int->WP),Fr [] w E->i<n->(∀G,Fr [] w G->K' (c i) G)->callV prog v [.i i] [.one .i] E K')(u:∀i j,i<=j->j<n->c j>0->c i>0)(hk:∀(r:Nat) w',r<=n->(∀i,i<r->c i>0)->(∀i,r<=i->i<n->¬c i>0)->Fr [] w w'->K (r,decide (r<n/\c r=0)) w'): cW 119 [.i n,v] [.one .i,.one .bool] w K:=by
 refine qqs ?_;unfold qmJ;refine qah (fun s w'=>∃i j:Nat,s=((i:Int),(j:Int))/\i<=j/\j<=n/\(∀a,a<i->c a>0)/\(∀a,j<=a->a<n->¬c a>0)/\Fr [] w w') (fun s _=>(s.2-s.1).toNat) ⟨0,n,rfl,by omega,by omega,fun _ h=>absurd h (xW _),fun a O R=>by omega,.refl _ _⟩ ?_;rintro s E ⟨i,j,rfl,ag,U,O,R,V⟩ X hX;dsimp only;apply qaa<;>intro A;have ah:i<j:=(by have:=zC A;omega);rw[qrT (by omega)];refine hf E ((i+j) / 2) _ V (by omega) fun G y=>?_;apply qaa<;>intro C;have C:=zC C;have e:wrap .i64 ((((i+j) / 2:Nat):Int)+1)=(((i+j) / 2+1:Nat):Int):=(by rw[wi' _ (by omega)];rfl);rw[e];exact hX _ _ ⟨(i+j) / 2+1,j,rfl,by omega,U,fun a ha=>u a _ (by omega) (by omega) C,R,y⟩ (by dsimp only;omega);have C:=zB C;exact hX _ _ ⟨i,(i+j) / 2,rfl,by omega,by omega,O,fun a ha J ab=>C (u _ a ha J ab),y⟩ (by dsimp only;omega);have ai:¬i<j:=(by have:=zB A;omega);have I:=fun w'=>hk i w' (by omega) O (fun a ha J=>R a (by omega) J);apply qaa<;>intro A;have z:i<n:=(by have:=zC A;omega);refine hf E i _ V z fun G y=>?_;have e:(c i==0)=decide (i<n/\c i=0):=by rw[Bool.eq_iff_iff,yO,yM];exact⟨fun h=>⟨z,h⟩,fun h=>h.2⟩
 rw[e];exact I G y;have z:¬i<n:=by have:=zB A;omega
 have:=I E V
 rw[zU (fun h=>z h.1)] at this;exact this
section
variable {S S':List Nat} {w:World} {x:NdC} {n:NodeM} {ks:Sl} {key:Key}
def qk3{K:Int×Bool->WP}(hx:NodeR S w x n)(hk:RdB S' w ks key)(hB:IsB key)(hr:Rising n.keys)(hl:n.keys.length<=1000000)(kk:∀w',Fr [] w w'->K (placeV n.keys key,decide (n.keys[placeV n.keys key]?=some key)) w'): cW 84 [.agg (ndV x),ks.v] [.one .i,.one .bool] w K:=by
 obtain⟨h0,R,⟨pk,C,z⟩,_⟩:=hx;refine qoz ?_;unfold qkG;refine oB (oE [] w) fun r1 w1 e1 f1 h=>oB h fun r3 w2 e2 f2 h=>oA h 1 rfl x.2.1 rfl ?_;have G:x.2.1.len=pk.length:=C.len;have ak:n.keys.length=pk.length:=(by rw[<- z,zK]);have u:∀(i:Nat) (y:i<pk.length),n.keys[i]?=some pk[i].2:=fun i y=>by rw[<- z,zQ,zA y];rfl
 rw[G];refine qwj (c:=fun i=>cmpL key (n.keys.getD i [])) (by omega) (fun w3 i K' f3 y U=>?_) (fun i j am hj hc=>?_) fun r w' ao V aa f'=>?_;refine qbf (lb:=[.pointer (pW r3),.pointer (pW r1)]) rfl (by kernel_rfl) ?_;have E:=h.frame0 f3;refine qll ?_;unfold qgW;have E:=E.drew;refine oA E 0 rfl ks rfl<|oA E 1 rfl x.2.1 rfl<|RdK.get (C.frame0 E.fr) i rfl y<|qoQ (hk.frame0 E.fr) ((C.frame0 E.fr).2 pk[i] (zW y)) hB (R.1 _ (yE (u i y))) ?_;have e:n.keys.getD i []=pk[i].2:=by rw[yQ,u i y];rfl
 have:=U w3.drew f3.drew
 rw[e] at this;exact this;by_cases hij':i=j;rw[hij'];exact hc;have y:=u i (by omega);have I:=u j hj;rw[yQ,I,xS] at hc;rw[yQ,y,xS];have h1:KLt pk[j].2 key:=(by unfold KLt;rw[qcL];omega);have J:=qaB (qjn hr (by omega) y I) h1;unfold KLt at J;rw[qcL] at J;omega;have hp:placeV n.keys key=r:=quy (by omega) (fun i a y O=>by
  have:=V i y
  rw[yQ,O,xS,qcL] at this;show cmpL a key<0;omega) fun a O=>by
  have au:=(zP.1 O).1
  have:=aa r (zM _) (by omega)
  rw[yQ,O,xS,qcL] at this;show ¬cmpL a key<0;omega
 have A:=kk w' (h.fr.trans f');rw[hp] at A;have e:decide (n.keys[r]?=some key)=decide (r<pk.length/\cmpL key (n.keys.getD r [])=0):=by refine decide_eq_decide.2 ⟨fun h=>?_,fun h=>?_⟩;refine⟨by have:=(zP.1 h).1;omega,?_⟩;rw[yQ,h,xS,qfS];have J:=h.2;rw[yQ,u r h.1,xS] at J;exact (u r h.1).trans (congrArg some (qfT J).symm)
 rw[e] at A;exact A
def qoZ{K:Int->WP}(hx:NodeR S w x n)(hk:RdB S' w ks key)(hB:IsB key)(hr:Rising n.keys)(hl:n.keys.length<=1000000)(kk:∀w',Fr [] w w'->K (kidV n.keys key) w'): cW 83 [.agg (ndV x),ks.v] [.one .i] w K:=by
 obtain⟨h0,R,⟨pk,C,y⟩,_⟩:=hx;refine qrf ?_;unfold qn2;refine oB (oE [] w) fun r1 w1 e1 f1 h=>oB h fun r3 w2 e2 f2 h=>oA h 1 rfl x.2.1 rfl ?_;have G:x.2.1.len=pk.length:=C.len;have ak:n.keys.length=pk.length:=(by rw[<- y,zK]);have z:∀(i:Nat) (u:i<pk.length),n.keys[i]?=some pk[i].2:=fun i u=>by rw[<- y,zQ,zA u];rfl
 rw[G];refine qtB (p:=fun i=>decide (cmpL key (n.keys.getD i [])<0)) (by omega) (fun w3 i K' f3 u U=>?_) (fun i j am hj I=>?_) fun r w' ao V aa f'=>?_;refine qbf (lb:=[.pointer (pW r3),.pointer (pW r1)]) rfl (by kernel_rfl) ?_;have E:=h.frame0 f3;refine qnc ?_;unfold qjb;have E:=E.drew;refine oA E 0 rfl ks rfl<|oA E 1 rfl x.2.1 rfl<|RdK.get (C.frame0 E.fr) i rfl u<|qoQ (hk.frame0 E.fr) ((C.frame0 E.fr).2 pk[i] (zW u)) hB (R.1 _ (yE (z i u))) ?_;have e:n.keys.getD i []=pk[i].2:=(by rw[yQ,z i u];rfl);have e2:decide (cmpL key (n.keys.getD i [])<0)=decide (cmpL key pk[i].2<0):=decide_eq_decide.2 (by rw[e]);rw[<- e2];exact U w3.drew f3.drew;by_cases hij':i=j;rw[<- hij'];exact I;have u:=z i (by omega);have J:=z j hj;have I:=zC I;rw[yQ,u,xS] at I;refine zZ ?_;rw[yQ,J,xS];exact qaB I (qjn hr (by omega) u J);have hp:kidV n.keys key=r:=qwP (by omega) (fun i a u O=>by
  have:=zB (V i u)
  rw[yQ,O,xS] at this;exact this) fun a O=>by
  have ar:=(zP.1 O).1
  have:=zC (aa r (zM _) (by omega))
  rw[yQ,O,xS] at this;exact this
 have A:=kk w' (h.fr.trans f');rw[hp] at A;exact A
end
section
def qjZ{p:Prop}{i:Decidable p}(h:p):true=decide p:=by simp[h]
def qbM{i:Nat}(h:i<=100000000):wrap .i64 ((i:Int)+1)=((i+1:Nat):Int):=by rw[wi' _ (by omega)];rfl
section
variable {S:List Nat} {w:World} {s:Sl}
def qoR{v:Value}{p:Key->Bool}{K:Bool->WP}(O:RdK S w s ps)(hl:ps.length<=1000000)(hf:∀y (x:Sl×Key) (R:Bool->WP),Fr [] w y->x∈ps->(∀z,Fr [] w z->R (p x.2) z)->callV prog v [x.1.v] [.one .bool] y R)(U:∀w',Fr [] w w'->K ((keyP ps).any p) w'): cW 216 [s.v,v] [.one .bool] w K:=by
 refine qfI ?_;unfold qda;refine qhZ ?_;unfold qem;have V:=O.len;refine qah (fun i w'=>∃n:Nat,i=(n:Int)/\n<=ps.length/\((keyP ps).take n).any p=false/\Fr [] w w') (fun i _=>((ps.length:Int)-i).toNat) ⟨0,rfl,yW _,rfl,.refl _ _⟩ ?_;rintro _ y ⟨n,rfl,hn,A,u⟩ X hX;apply qaa<;>intro G;have h:n<ps.length:=(by have:=zC G;omega);refine RdK.get (O.frame0 u) n rfl h<|hf y ps[n] _ u (zW h) fun z C=>?_;have E:(keyP ps)[n]?=some ps[n].2:=(by rw[zQ,zA h];rfl);apply qaa<;>intro I;have:(keyP ps).any p=true:=any_eq_true.2 ⟨ps[n].2,yE E,I⟩;show K (decide (((n:Nat):Int)>=0)) z;rw[zZ (show ((n:Nat):Int)>=0 by omega)];rw[<- this];exact U z C;rw[qbM (by omega)];refine hX _ _ ⟨n+1,rfl,h,?_,C⟩ (by omega);rw[take_add_one,E,any_append,A];simpa using I;have J:n=ps.length:=(by have:=zB G;omega);show K (decide ((-1:Int)>=0)) y;rw[zU (show ¬(-1:Int)>=0 by decide)];have:(keyP ps).any p=false:=by rw[<- A,J,zS (by rw[zK];exact zM _)]
 rw[<- this];exact U y u
def qoS{v:Value}{p:Int->Bool}{K:Bool->WP}(U:Rd S w s l)(hl:l.length<=1000000)(hf:∀C (x:Int) (V:Bool->WP),Fr [] w C->x∈l->(∀E,Fr [] w E->V (p x) E)->callV prog v [.u x] [.one .bool] C V)(kk:∀w',Fr [] w w'->K (l.any p) w'): cW 186 [s.v,v] [.one .bool] w K:=by
 refine qfJ ?_;unfold qdb;refine qh0 ?_;unfold qen;have ab:=U.1;refine qah (fun i w'=>∃n:Nat,i=(n:Int)/\n<=l.length/\(l.take n).any p=false/\Fr [] w w') (fun i _=>((l.length:Int)-i).toNat) ⟨0,rfl,yW _,rfl,.refl _ _⟩ ?_;rintro _ C ⟨n,rfl,hn,G,h⟩ X hX;apply qaa<;>intro J;have z:n<l.length:=(by have:=zC J;omega);have A:l[n]?=some l[n]:=zA z;refine Rds.get (U.frame0 h) n rfl A (y:=l[n]) rfl<|hf C l[n] _ h (zW z) fun E I=>?_;apply qaa<;>intro O;have:l.any p=true:=any_eq_true.2 ⟨l[n],yE A,O⟩;show K (decide (((n:Nat):Int)>=0)) E;rw[zZ (show ((n:Nat):Int)>=0 by omega)];rw[<- this];exact kk E I;rw[qbM (by omega)];refine hX _ _ ⟨n+1,rfl,z,?_,I⟩ (by omega);rw[take_add_one,A,any_append,G];simpa using O;have R:n=l.length:=(by have:=zB J;omega);show K (decide ((-1:Int)>=0)) C;rw[zU (show ¬(-1:Int)>=0 by decide)];have:l.any p=false:=by rw[<- G,R,zS (zM _)]
 rw[<- this];exact kk C h
def qpW{m:Nat}{K:Bool->WP}(G:RdK S w s ps)(I:ps.length<=1000000)(J:∀w',Fr [] w w'->K (decide (∀a∈keyP ps,a.length=m)) w'): cW 184 [s.v,.i m] [.one .bool] w K:=by
 refine qp1 ?_;unfold qmm;refine oB (oE [] w) fun O w1 e1 C h=>?_;have u:=G.frame0 C;refine qoR (p:=fun a=>decide (a.length≠m)) u I (fun R x K' E U y=>?_) fun w' V=>?_;refine qbf (lb:=[.pointer (pW O)]) rfl (by kernel_rfl)<|qmn ?_;unfold qid;refine oA (h.frame0 E) 0 rfl (m:Int) rfl ?_;have z:=(u.2 x U).1;have e:(!((x.1.len:Int)==(m:Int)))=decide (x.2.length≠m):=by rw[z,Bool.eq_iff_iff];simp;omega
 rw[e];exact y R E;have e:(!((keyP ps).any fun a=>decide (a.length≠m)))=decide (∀a∈keyP ps,a.length=m):=by
  rw[Bool.eq_iff_iff,yM,zT,any_eq_false];constructor;intro h a A
  have:=h a A
  simpa using this;intro h a A;simp[h a A]
 rw[e];exact J w' (C.trans V)
def qus{K:Bool->WP}(R:RdK S w s ps)(U:∀a∈keyP ps,IsB a)(hl:ps.length<=1000000)(V:∀w',Fr [] w w'->K (decide (Rising (keyP ps))) w'): cW 185 [s.v] [.one .bool] w K:=by
 refine qoD ?_;unfold qkK;have aa:=R.len;have y:∀(i:Nat) (hi:i<ps.length),(keyP ps)[i]?=some ps[i].2:=fun i hi=>by rw[zQ,zA hi];rfl
 refine qah (fun i w'=>∃n:Nat,i=(n:Int)/\1<=n/\(∀(j:Nat) a b,j+1<n->(keyP ps)[j]?=some a->(keyP ps)[j+1]?=some b->KLt a b)/\Fr [] w w') (fun i _=>((ps.length:Int)-i).toNat) ⟨1,rfl,zM _,fun j a b h=>by omega,.refl _ _⟩ ?_;rintro _ w1 ⟨n,rfl,hn,E,z⟩ X hX;apply qaa<;>intro O;have A:n<ps.length:=(by have:=zC O;omega);have e1:wrap .i64 ((n:Int)-1)=((n-1:Nat):Int):=(by rw[wi' _ (by omega)];omega);have C:=R.frame0 z.drew;rw[e1];refine RdK.get C (n-1) rfl (by omega)<|RdK.get C n rfl A<|qoQ (C.2 ps[n-1] (zW _)) (C.2 ps[n] (zW _)) (U _ (yE (y (n-1) (by omega)))) (U _ (yE (y n A))) ?_;apply qaa<;>intro G;have G:=zC G;have:¬Rising (keyP ps):=fun hr=>by
  have:=qjn hr (show n-1<n by omega) (y (n-1) (by omega)) (y n A)
  unfold KLt at this;omega
 have u:=V _ z.drew;rw[zU this] at u;exact u;have G:=zB G;rw[qbM (by omega)];refine hX _ _ ⟨n+1,rfl,by omega,fun j a b hj J I=>?_,z.drew⟩ (by omega);by_cases hjn:j+1<n;exact E j a b hjn J I;obtain rfl:n=j+1:=by omega
 rw[y j (by omega)] at J;rw[y (j+1) A] at I;cases J;cases I;show cmpL _ _<0;simp only[Nat.add_sub_cancel] at G;omega;have af:¬n<ps.length:=(by have:=zB O;omega);have:Rising (keyP ps):=qjo fun j a b J I=>E j a b (by
  have:=(zP.1 I).1
  rw[zK] at this;omega) J I
 have u:=V w1 z;rw[zZ this] at u;exact u
def qvp:caps (k:Int) (v:Int)=(((capsV k v).1:Int),((capsV k v).2:Int)):=by unfold caps capsV;by_cases h:k<1\/k>24\/v>108;rw[if_pos h,iP];rfl;rw[if_neg h,iN];rfl
def qk2{w:World}{K:Int×Int->WP}(h:∀w',Fr [] w w'->K (((capsV k v).1:Int),((capsV k v).2:Int)) w'):cW 64 [.i k,.i v] [.one .i,.one .i] w K:=
 qwg fun w' u=>by rw[qvp];exact h w' (.of_same u)
def qo3{K:Bool->WP}(hx:NodeR S w x n)(h1:n.keys.length<=1000000)(h2:n.vals.length<=1000000)(h3:n.kids.length<=1000000)(kk:∀w',Fr [] w w'->K (decide (rightV n k v)) w'): cW 147 [.agg (ndV x),.i k,.i v] [.one .bool] w K:=by
 obtain⟨h0,ai,⟨pk,aa,z⟩,⟨pv,ac,J⟩,U⟩:=hx;refine qoA ?_;unfold qkH;refine oB (oE [] w) fun r1 w1 e1 f1 h=>qk2 fun w2 f2=>?_;have h:=h.frame0 f2;have l1:pk.length=n.keys.length:=(by rw[<- z,zK]);have l2:pv.length=n.vals.length:=(by rw[<- J,zK]);have n1:x.2.1.len=n.keys.length:=(by rw[aa.len,l1]);have n2:x.2.2.1.len=n.vals.length:=(by rw[ac.len,l2]);have n3:x.2.2.2.len=n.kids.length:=U.1;refine qaf (fun b w'=>b=decide (¬((∀a∈n.keys,a.length=k)/\(∀a∈n.vals,a.length=v)/\Rising n.keys))/\Own [] w w' [(r1,.cells (ndV x) 143)]) ?_ ?_;refine oA h 0 rfl x.2.1 rfl<|qpW (m:=k) (aa.frame0 h.fr) (by omega) fun w3 f3=>?_;have h:=h.frame0 f3;rw[z];refine qaa (fun C=>⟨?_,h⟩) (fun C=>?_);have:¬ ∀a∈n.keys,a.length=k:=zB (by simpa using C);exact qjZ fun G=>this G.1;have q1:∀a∈n.keys,a.length=k:=zC (by simpa using C);refine oA h 0 rfl x.2.2.1 rfl<|qpW (m:=v) (ac.frame0 h.fr) (by omega) fun w4 f4=>?_;have h:=h.frame0 f4;rw[J];refine qaa (fun C=>⟨?_,h⟩) (fun C=>?_);have:¬ ∀a∈n.vals,a.length=v:=zB (by simpa using C);exact qjZ fun G=>this G.2.1;have q2:∀a∈n.vals,a.length=v:=zC (by simpa using C);refine oA h 0 rfl x.2.1 rfl<|qus (aa.frame0 h.fr) (by rw[z];exact ai.1) (by omega) fun w5 f5=>?_;have h:=h.frame0 f5;rw[z];refine⟨?_,h⟩;rw[Bool.eq_iff_iff,zT,decide_eq_false_iff_not,yM];exact⟨fun G g=>G g.2.2,fun G g=>G ⟨q1,q2,g⟩⟩;rintro b w3 ⟨rfl,h⟩;have V:∀ {w'},¬rightV n k v->Fr [] w w'->K false w':=fun hn f=>by
  have:=kk _ f
  rw[zU hn] at this;exact this
 refine qaa (fun C=>V (fun A=>zC C ⟨A.1,A.2.1,A.2.2.1⟩) h.fr) (fun C=>?_);have hq:=Classical.not_not.1 (zB C);have u:rightV n k v↔(if n.leaf then n.kids=[]/\1<=n.keys.length/\n.keys.length<=(capsV k v).1/\n.vals.length=n.keys.length
   else (∀x∈n.kids,2<=x)/\n.vals=[]/\2<=n.kids.length/\n.kids.length<=(capsV k v).2/\n.keys.length+1=n.kids.length):=⟨fun A=>A.2.2.2,fun G=>⟨hq.1,hq.2.1,hq.2.2,G⟩⟩
 refine oA h 0 rfl x.1 rfl ?_;apply qaa<;>intro C;rw[h0] at C;rw[if_pos C] at u;have ab:∀ {Q:Sl->Prop},Q x.2.1->ld .slice ⟨r1,1,none⟩ w3 Q:=fun q=>oA h 0 rfl x.2.1 rfl q;refine oA h 0 rfl x.2.2.2 rfl<|qaa (fun I=>?_) (fun I=>V (fun A=>?_) h.fr);refine ab (qaa (fun O=>?_) (fun O=>V (fun A=>?_) h.fr));refine ab (qaa (fun E=>?_) (fun E=>V (fun A=>?_) h.fr));refine oA h 0 rfl x.2.2.1 rfl (ab ?_);have I:=yO.1 I;have O:=zC O;have E:=zC E;have e:((x.2.2.1.len:Int)==(x.2.1.len:Int))=decide (rightV n k v):=by rw[Bool.eq_iff_iff,yO,yM,u];dsimp only at E;constructor;intro G;exact⟨eq_nil_of_length_eq_zero (by omega),by omega,by omega,by omega⟩;intro G;omega
 rw[e];exact kk w3 h.fr
 have:=(u.1 A).2.2.1
 have E:=zB E;dsimp only at E;omega
 have:=(u.1 A).2.1
 have O:=zB O;omega
 have:=(u.1 A).1
 have I:=zR.1 I;rw[this] at n3;exact I (by rw[n3];rfl);rw[h0] at C;rw[if_neg (by rw[C];decide)] at u;have R:∀ {w'} {Q:Sl->Prop},Own [] w w' [(r1,.cells (ndV x) 143)]->Q x.2.2.2->ld .slice ⟨r1,3,none⟩ w' Q:=fun h q=>oA h 0 rfl x.2.2.2 rfl q;refine R h<|qoS (p:=fun y=>decide (y<2)) (U.frame0 h.fr) h3 (fun w4 y K' f4 hy am=>?_) fun w4 f4=>?_;refine qbf (lb:=[]) rfl (by kernel_rfl)<|qlm ?_;unfold qgX;exact am w4 f4;have h:=h.frame0 f4;refine qaa (fun c0=>V (fun A=>?_) h.fr) (fun c0=>?_);obtain⟨y,hy,ao⟩:=any_eq_true.1 c0
 have:=(u.1 A).1 y hy
 have:=zC ao
 omega;have ae:∀y∈n.kids,2<=y:=fun y hy=>by
  have:=any_eq_false.1 c0 y hy
  simp at this;exact this
 refine oA h 0 rfl x.2.2.1 rfl<|qaa (fun I=>?_) (fun I=>V (fun A=>?_) h.fr);refine R h (qaa (fun O=>?_) (fun O=>V (fun A=>?_) h.fr));refine R h (qaa (fun E=>?_) (fun E=>V (fun A=>?_) h.fr));refine oA h 0 rfl x.2.1 rfl (R h ?_);have I:=yO.1 I;have O:=zC O;have E:=zC E;dsimp only at E;have ew:wrap .i64 ((x.2.2.2.len:Int)-1)=(x.2.2.2.len:Int)-1:=wi' _ (by omega);have e:((x.2.1.len:Int)==wrap .i64 ((x.2.2.2.len:Int)-1))=decide (rightV n k v):=by rw[ew,Bool.eq_iff_iff,yO,yM,u];constructor;intro G;exact⟨ae,eq_nil_of_length_eq_zero (by omega),by omega,by omega,by omega⟩;intro G;omega
 rw[e];exact kk _ h.fr
 have:=(u.1 A).2.2.2.1
 have E:=zB E;dsimp only at E;omega
 have:=(u.1 A).2.2.1
 have O:=zB O;omega
 have:=(u.1 A).2.1
 have I:=zR.1 I;rw[this] at n2;exact I (by rw[n2];rfl)
end
end
section
def qfa{src:Sl}{ys:List Int}(h:BufB w s l B)(E:RdB S w src ys)(V:l.length+ys.length<=1000000)(G:∀z B' w',BufB w' z (l++ys) B'->Fr B w w'->(∀b∈B',b∈B\/w.heap.size<=b)->K z w'): Pt.run [Ty1.one Cell.slice] ((Builtin.append_ #[23,23] 23 #[s.v,src.v]).run prog w) K:=by obtain⟨i,I,J,A,C⟩:=qmb;have y:=E.1;exact Buf.appSrc (e:=5) h qat (by kernel_rfl) I J A rfl (qe5 (e':=5) E qat (fun x u O=>by rw[zE.1 O];rfl)) y (by rw[C];omega) (by omega) fun z B' w' R U n' _=>G z B' w' R U n'
def qxq(n:Int):be n 2=[wrap .u8 (Int.fdiv n (2^8)),wrap .u8 n]:=by show [byteAt n 1,byteAt n 0]=_;unfold byteAt;rw[show (min (8*1) 32:Nat)=8 from rfl,show (min (8*0) 32:Nat)=0 from rfl,Int.pow_zero,Int.fdiv_one]
def qx0(n:Int):be n 4=[wrap .u8 (Int.fdiv n (2^24)),wrap .u8 (Int.fdiv n (2^16)),wrap .u8 (Int.fdiv n (2^8)),wrap .u8 n]:=by show [byteAt n 3,byteAt n 2,byteAt n 1,byteAt n 0]=_;unfold byteAt;rw[show (min (8*3) 32:Nat)=24 from rfl,show (min (8*2) 32:Nat)=16 from rfl,show (min (8*1) 32:Nat)=8 from rfl,show (min (8*0) 32:Nat)=0 from rfl,Int.pow_zero,Int.fdiv_one]
def RdK.get'(h:RdK S w s ps)(n:Nat){i:Int}{K:Addr->Sl->Prop}(hi:i=n)(E:n<ps.length)(G:∀a,w.cell? a=some (.slice ps[n].1.a ps[n].1.len ps[n].1.cap)->(∀w',RdK S w' s ps->w'.cell? a=some (.slice ps[n].1.a ps[n].1.len ps[n].1.cap))->K a ps[n].1):idx s i 1 fun a=>ld .slice a w fun x=>K a x:=by
 subst hi;have A:(slsP ps)[n]?=some ps[n].1:=(by rw[zQ,zA E];rfl);obtain⟨R,b,o,C,_,U,T,V,hb,hc⟩:=h.1.at n A;refine qbo C ⟨by omega,by omega⟩ ?_;rw[zJ];have key:∀w',RdK S w' s ps->w'.cell? ⟨b,o+n*1,none⟩=some (.slice ps[n].1.a ps[n].1.len ps[n].1.cap):=fun w' I=>by
  obtain⟨_,b',o',u,_,J,T',O,y,z⟩:=I.1.at n A;rw[C] at u;cases u;rw[qag y]
  have:=congrArg (·[0]?) z
  simpa[encSl] using this
 exact qdY ps[n].1 (key w h) (G _ (key w h) key)
def qpN{b n:Nat}(u:w.heap[b]?=some (.cells (l.map (Value.int .u8)).toArray T (0,0)))(h:n=l.length):BufB w ⟨pW b,n,n⟩ l [b]:=
 Buf.one (e:=Value.int .u8) (fun _=>rfl) u h (zM _) (by simp[h]) (by rw[<- zK (f:=Value.int .u8),xX])
def qwV{b:Nat}{n:Int}(u:w.heap[b]?=some (.cells #[.b (wrap .u8 (Int.fdiv n (2^24))),.b (wrap .u8 (Int.fdiv n (2^16))),.b (wrap .u8 (Int.fdiv n (2^8))),.b (wrap .u8 n)] T (0,0))):RdB [] w ⟨pW b,4,4⟩ (be n 4):=by rw[qx0];exact Buf.rds qat (qpN (n:=4) u rfl) fun _ _ h=>nomatch h
section
variable {S:List Nat} {w:World} {s:Sl}
def qwk{n:Nat}(hn:n<=1000000)(I:∀u B w',BufB w' u [] B->Fr [] w w'->(∀b∈B,w.heap.size<=b)->K u w'): cW 210 [.slice none 0 0,.i n] [.one .slice] w K:=by obtain⟨z,J,O,A,C⟩:=qmb;refine qnn (s:=⟨none,0,0⟩) (n:=n) ?_;unfold qju;have e0:wrap .i64 (((0:Nat):Int)-((0:Nat):Int))=0:=wi' _ (by decide);have e1:wrap .i64 ((n:Int)-0)=(n:Int):=(by rw[wi' _ (by omega)];omega);refine qaf (fun _ w'=>w=w') (cond_false (zU (by omega)) rfl) ?_;rintro _ _ rfl;refine qaf (fun u w'=>∃B,BufB w' u [] B/\Fr [] w w'/\∀b∈B,w.heap.size<=b) ?_ (fun u w' ⟨B,R,U,V⟩=>I u B w' R U V);dsimp only;rw[e0,e1];refine qaa (fun G=>?_) (fun G=>⟨[],.nil _ _ _,.refl _ _,fun _ h=>nomatch h⟩);have y:0<n:=(by have:=zC G;omega);refine qjr ⟨by omega,by dsimp only;omega⟩ ?_;rw[zJ];dsimp only;refine qk5 (e:=5) (i:=z) (kn:=.i64) (olds:=[]) (by kernel_rfl) (by kernel_rfl) J O A rfl rfl (fun _=>rfl) (fun a ha=>nomatch ha) y (by omega) (by rw[C];omega) (by omega) fun b cs c w2 e2 hb f2 h1 h2 h3=>qjr ⟨by omega,by dsimp only;omega⟩ ?_;rw[zJ];exact⟨[b],Buf.fresh (cap:=c) qat hb rfl (yW _) (by omega) rfl,f2,fun b' E=>by rw[zE.1 E,e2];exact zM _⟩
def qiY{i:Nat}(hi:i<ps.length):((keyP ps).take (i+1)).flatten=((keyP ps).take i).flatten++ps[i].2:=by rw[take_add_one,zQ,zA hi,flatten_append];simp
def qhD(i:Nat):((keyP ps).take i).flatten.length<=(keyP ps).flatten.length:=by have:(keyP ps).flatten=((keyP ps).take i).flatten++((keyP ps).drop i).flatten:=(by rw[<- flatten_append,xC]);rw[this,zF];omega
def qtq(I:RdK S w s ps)(hl:ps.length<=1000000)(ht:(keyP ps).flatten.length<=1000000)(kk:∀s' B w',BufB w' s' (keyP ps).flatten B->Fr [] w w'->(∀b∈B,w.heap.size<=b)->K s' w'): cW 170 [s.v] [.one .slice] w K:=by
 refine qlD ?_;unfold qhc;have ad:=I.len;refine qah (fun t w'=>∃i:Nat,t=((((keyP ps).take i).flatten.length:Int),(i:Int))/\i<=ps.length/\w'=w) (fun t _=>((ps.length:Int)-t.2).toNat) ⟨0,rfl,yW _,rfl⟩ ?_;rintro t w' ⟨i,rfl,hi,rfl⟩ X U;dsimp only;apply qaa<;>intro z;have u:i<ps.length:=(by have:=zC z;omega);have A:=qhD (ps:=ps) (i+1);have y:=qiY u;have V:=(I.2 ps[i] (zW u)).1;have e:wrap .i64 ((((keyP ps).take i).flatten.length:Int)+(ps[i].1.len:Int))=(((keyP ps).take (i+1)).flatten.length:Int):=by rw[y,zF] at A⊢;rw[wi' _ (by omega),V];rfl
 refine qaf (fun x C=>x=(((keyP ps).take (i+1)).flatten.length:Int)/\C=w') ?_ ?_;refine RdK.get I i rfl u ?_;rw[e];exact cond_false (zU (by omega)) ⟨rfl,rfl⟩;rintro x C ⟨rfl,rfl⟩;rw[qbM (by omega)];exact U _ _ ⟨i+1,rfl,u,rfl⟩ (by dsimp only;omega);have E:i=ps.length:=(by have:=zB z;omega);refine qwk (zL (qhD (ps:=ps) i) ht) fun s1 B1 w1 b1 f1 n1=>qah (fun t C=>∃(j:Nat) (J:Sl) (O:List Nat),t=(J,(j:Int))/\j<=ps.length/\BufB C J ((keyP ps).take j).flatten O/\Fr [] w' C/\∀b∈O,w'.heap.size<=b) (fun t _=>((ps.length:Int)-t.2).toNat) ⟨0,s1,B1,rfl,yW _,b1,f1,n1⟩ ?_;rintro t C ⟨j,J,O,rfl,hj,b2,R,n2⟩ X U;dsimp only;apply qaa<;>intro z;have u:j<ps.length:=(by have:=zC z;omega);have A:=qhD (ps:=ps) (j+1);have y:=qiY u;have G:=I.frame0 R;refine RdK.get G j rfl u<|qfa b2 (G.2 ps[j] (zW u)) (by rw[y,zF] at A;omega) fun s3 B3 w3 b3 f3 n3=>?_;rw[qbM (by omega)];refine U _ _ ⟨j+1,s3,B3,rfl,u,by rw[y];exact b3,R.trans' f3 fun i hi=>.inr (n2 i hi),fun b hb=>?_⟩ (by dsimp only;omega);rcases n3 b hb with h|h;exact n2 b h;exact zL R.size h;have E:j=ps.length:=(by have:=zB z;omega);rw[E,zS (by rw[zK];exact zM _)] at b2;exact kk J O C b2 R n2
def qvk{K:Int×Sl×Int->WP}(hx:NodeR S w x n)(h1:n.keys.length<=1000000)(h2:n.vals.length<=1000000)(h3:n.kids.length<=1000000)(kk:∀s w',(∀G:List Nat,(∀b∈G,b<w.heap.size)->RdB G w' s (writeNV n k v).2.1)->Fr [] w w'->K ((writeNV n k v).1,s,(writeNV n k v).2.2) w'): cW 135 [.agg (ndV x),.i k,.i v] [.one .b,.one .slice,.one .i] w K:=by
 have aU:=hx;obtain⟨h0,bc,⟨pk,an,A⟩,⟨pv,ao,R⟩,ak⟩:=hx;refine qoB ?_;unfold qkI;refine oB (oE [] w) fun I w1 e1 f1 h=>oC h 0 rfl x rfl<|qo3 (x:=x) (aU.frame0 f1) h1 h2 h3 fun w2 f2=>?_;have h:=h.frame0 f2;apply qaa<;>intro z;have hn:¬rightV n k v:=zB (by simpa using z)
 have:=kk ⟨none,0,0⟩ w2 (fun G _=>by unfold writeNV;rw[if_neg hn];exact .nil _ _ _ _) h.fr
 unfold writeNV at this;rw[if_neg hn] at this;exact this;have hR:rightV n k v:=zC (by simpa using z);have hW:writeNV n k v=(kindN n,bodyN n,0):=(by unfold writeNV;rw[if_pos hR]);rw[hW] at kk;have aD:=(qfP hR).2;have l1:pk.length=n.keys.length:=(by rw[<- A,zK]);have l2:pv.length=n.vals.length:=(by rw[<- R,zK]);have n1:x.2.1.len=n.keys.length:=(by rw[an.len,l1]);have n3:x.2.2.2.len=n.kids.length:=ak.1;have aE:∀ {s' B w'},BufB w' s' (bodyN n) B->(∀b∈B,w.heap.size<=b)->Fr [] w w'->K (kindN n,s',0) w':=fun b hB f=>kk _ _ (fun G hG=>b.rds qat fun c z hm=>by have:=hB c z;have:=hG c hm;omega) f;refine oA h 0 rfl x.1 rfl ?_;apply qaa<;>intro z;rw[h0] at z;have u:bodyN n=be n.keys.length 2++(n.keys.zip n.vals).flatMap (fun x=>x.1++x.2):=(by unfold bodyN;rw[if_pos z];rfl);have E:kindN n=3:=(by unfold kindN;rw[if_pos z]);have aF:=hR.2.2.2;rw[if_pos z] at aF;have aG:(n.keys.zip n.vals).length=n.keys.length:=(by rw[length_zip,aF.2.2.2,Nat.min_self]);refine oA h 0 rfl x.2.1 rfl<|oA h 0 rfl x.2.1 rfl<|oB h fun r9 w3 e3 f3 h=>oA h 1 rfl x.2.1 rfl ?_;have h9:=h.at (i:=0) rfl;have aq:=h.sub (L':=[(I,.cells (ndV x) 143)]) (sublist_cons_self _ _);have ar:I≠r9:=fun e=>by have:=h.nodup;simp[e] at this
 have U:w.heap.size<=r9:=(h.own (r9,_) (mem_cons_self ..)).elim (fun h=>nomatch h) id;refine qah (fun t w'=>∃(i:Nat) (s2:Sl) (B2:List Nat),t=(s2,(i:Int))/\i<=n.keys.length/\BufB w' s2 (be n.keys.length 2++((n.keys.zip n.vals).take i).flatMap (fun x=>x.1++x.2)) B2/\Own [] w w' [(I,.cells (ndV x) 143)]/\I∉B2/\∀b∈B2,w.heap.size<=b) (fun t _=>((n.keys.length:Int)-t.2).toNat)
  ⟨0,_,[r9],rfl,yW _,?_,aq,by simpa using ar,fun b V=>by rw[zE.1 V];exact U⟩ ?_
 rw[qxq,take_zero,flatMap_nil,xF];refine qpN (T:=5) ?_ rfl;rw[n1] at h9;exact h9;rintro t w4 ⟨i,s2,B2,rfl,hi,b2,ho,ab,C⟩ X hX;dsimp only;apply qaa<;>intro z;have ah:i<n.keys.length:=(by have:=zC z;omega);have bq:i<n.vals.length:=(by omega);have aI:=an.frame0 ho.fr;refine RdK.get aI i rfl (by omega) ?_;have ac:=ho.drew;refine oA ac 0 rfl x.2.2.1 rfl ?_;have aX:=ao.frame0 ac.fr;have ad:i<pv.length:=(by omega);have al:i<pk.length:=(by omega);refine RdK.get' aX i rfl ad fun a ha hh=>?_;have ai:n.keys[i]?=some pk[i].2:=(by rw[<- A,zQ,zA al];rfl);have aY:n.vals[i]?=some pv[i].2:=(by rw[<- R,zQ,zA ad];rfl);have hz:(n.keys.zip n.vals)[i]?=some (pk[i].2,pv[i].2):=List.getElem?_zip_eq_some.2 ⟨ai,aY⟩;have J:((n.keys.zip n.vals).take (i+1)).flatMap (fun x=>x.1++x.2)=((n.keys.zip n.vals).take i).flatMap (fun x=>x.1++x.2)++(pk[i].2++pv[i].2):=by rw[take_add_one,hz,yP];simp
 have aj:(be n.keys.length 2++((n.keys.zip n.vals).take (i+1)).flatMap (fun x=>x.1++x.2)).length<=500:=(by refine zL ?_ aD;rw[u,zF,zF];have e:(n.keys.zip n.vals).flatMap (fun x=>x.1++x.2)=((n.keys.zip n.vals).take (i+1)).flatMap (fun x=>x.1++x.2)++((n.keys.zip n.vals).drop (i+1)).flatMap (fun x=>x.1++x.2):=(by rw[<- yP,xC]);rw[e,zF];omega);rw[J,zF,zF,zF] at aj;have bt:=ho.drew;refine qfa (w:=w4.drew) (b2.frame0 (Fr.refl [] w4).drew) ((aI.2 pk[i] (zW al)).frame0 (Fr.refl [] w4).drew) (by rw[zF];omega) fun s3 B3 w5 b3 f5 n5=>?_;have O:=ac.frame f5 (fun i hi=>.inr (C i hi)) (fun p hp=>by rw[zE.1 hp];exact ab);have aK:∀b∈B3,w.heap.size<=b:=fun b V=>by rcases n5 b V with h|h;exact C b h;exact zL ac.fr.size h
 refine qan (hh w5 (ao.frame0 O.fr)) (O.cell 0 rfl rfl) ?_;have aL:I∉B3:=fun hm=>by
  rcases n5 I hm with h|h;exact ab h
  have:=qab (ac.at (i:=0) rfl);dsimp only at this;omega
 refine qfa b3 ((ao.frame0 O.fr).2 pv[i] (zW ad)) (by rw[zF,zF];omega) fun s6 B6 w6 b6 f6 n6=>?_;have ay:=O.frame f6 (fun i hi=>.inr (aK i hi)) (fun p hp=>by rw[zE.1 hp];exact aL);rw[qbM (by omega)];refine hX _ _ ⟨i+1,s6,B6,rfl,ah,by rw[J,<- zV,<- zV];exact b6,ay,fun hm=>?_,fun b V=>?_⟩ (by dsimp only;omega);rcases n6 I hm with h|h;exact aL h
 have:=qab (O.at (i:=0) rfl);dsimp only at this;omega
 rcases n6 b V with h|h;exact aK b h;exact zL O.fr.size h;have az:i=n.keys.length:=(by have:=zB z;omega);rw[az,<- aG,xX,aG,<- u] at b2
 have:=aE b2 C ho.fr
 rw[E] at this;exact this;rw[h0] at z;have aN:¬n.leaf=true:=(by rw[z];decide);have u:bodyN n=be n.kids.length 2++n.kids.flatMap (fun x=>be x 4)++n.keys.flatten:=(by unfold bodyN;rw[if_neg aN]);have E:kindN n=4:=(by unfold kindN;rw[if_neg aN]);refine oA h 0 rfl x.2.2.2 rfl<|oA h 0 rfl x.2.2.2 rfl<|oB h fun r9 w3 e3 f3 h=>oA h 1 rfl x.2.2.2 rfl ?_;have h9:=h.at (i:=0) rfl;have aq:=h.sub (L':=[(I,.cells (ndV x) 143)]) (sublist_cons_self _ _);have ar:I≠r9:=fun e=>by have:=h.nodup;simp[e] at this
 have U:w.heap.size<=r9:=(h.own (r9,_) (mem_cons_self ..)).elim (fun h=>nomatch h) id;have a0:(be n.kids.length 2++n.kids.flatMap (fun x=>be x 4)).length+n.keys.flatten.length<=500:=(by rw[<- zF,<- u];exact aD);refine qah (fun t w'=>∃(i:Nat) (s2:Sl) (B2:List Nat),t=(s2,(i:Int))/\i<=n.kids.length/\BufB w' s2 (be n.kids.length 2++(n.kids.take i).flatMap (fun x=>be x 4)) B2/\Own [] w w' [(I,.cells (ndV x) 143)]/\I∉B2/\∀b∈B2,w.heap.size<=b) (fun t _=>((n.kids.length:Int)-t.2).toNat)
  ⟨0,_,[r9],rfl,yW _,?_,aq,by simpa using ar,fun b V=>by rw[zE.1 V];exact U⟩ ?_
 rw[qxq,take_zero,flatMap_nil,xF];refine qpN (T:=5) ?_ rfl;rw[n3] at h9;exact h9;rintro t w4 ⟨i,s2,B2,rfl,hi,b2,ho,ab,C⟩ X hX;dsimp only;apply qaa<;>intro z;have ah:i<n.kids.length:=(by have:=zC z;omega);have ai:n.kids[i]?=some n.kids[i]:=zA ah;refine Rds.get (ak.frame0 ho.fr) i rfl ai (y:=n.kids[i]) rfl<|oB ho fun r6 w5 e5 f5 h5=>?_;have a1:=h5.at (i:=0) rfl;have J:(n.kids.take (i+1)).flatMap (fun x=>be x 4)=(n.kids.take i).flatMap (fun x=>be x 4)++be n.kids[i] 4:=by rw[take_add_one,ai,yP];simp
 have aj:(be n.kids.length 2++(n.kids.take (i+1)).flatMap (fun x=>be x 4)).length<=500:=(by have e:n.kids.flatMap (fun x=>be x 4)=(n.kids.take (i+1)).flatMap (fun x=>be x 4)++(n.kids.drop (i+1)).flatMap (fun x=>be x 4):=(by rw[<- yP,xC]);rw[e,zF,zF] at a0;rw[zF];omega);rw[J,zF,zF] at aj;have am:RdB [] w5 ⟨pW r6,4,4⟩ (be n.kids[i] 4):=qwV (T:=5) a1;have aA:=qao n.kids[i] 4;generalize be n.kids[i] 4=aO at J aj am aA;refine qfa (src:=⟨pW r6,4,4⟩) (ys:=aO) (b2.frame0 f5) am (by rw[zF];omega) fun s6 B6 w6 b6 f6 n6=>?_;have aB:=h5.sub (L':=[(I,.cells (ndV x) 143)]) (sublist_cons_self _ _);have ay:=aB.frame f6 (fun i hi=>.inr (C i hi)) (fun p hp=>by rw[zE.1 hp];exact ab);rw[qbM (by omega)];refine hX _ _ ⟨i+1,s6,B6,rfl,ah,by rw[J,<- zV];exact b6,ay,fun hm=>?_,fun b V=>?_⟩ (by dsimp only;omega);rcases n6 I hm with h|h;exact ab h
 have:=qab (aB.at (i:=0) rfl);dsimp only at this;omega
 rcases n6 b V with h|h;exact C b h;exact zL aB.fr.size h;have az:i=n.kids.length:=(by have:=zB z;omega);rw[az,xX] at b2;refine oA ho 0 rfl x.2.1 rfl<|qtq (an.frame0 ho.fr) (by omega) (by rw[A];omega) fun s5 B5 w5 b5 f5 n5=>?_;rw[A] at b5;refine qfa (b2.frame0 f5) (b5.rds qat (S:=[]) (fun _ _ h=>nomatch h)) (by omega) fun s6 B6 w6 b6 f6 n6=>?_;rw[<- u] at b6
 have:=aE b6 (fun b V=>by rcases n6 b V with h|h;exact C b h;exact zL (zL ho.fr.size f5.size) h) ((ho.fr.trans f5).trans' f6 fun i hi=>.inr (C i hi))
 rw[E] at this;exact this
end
end
abbrev ND:TypeId:=143
def qf4{k v:Nat}:∀(c:Nat) (b:List Int),(leafR k v c b).1.length=c/\(leafR k v c b).2.length=c
 | 0,_=>⟨rfl,rfl⟩
 | c+1,b=>by
  have:=qf4 (k:=k) (v:=v) c (b.drop (k+v))
  exact⟨by rw[leafR,yH,this.1],by rw[leafR,yH,this.2]⟩
def qmg{k v:Nat}:∀(c:Nat) (b:List Int),leafR k v (c+1) b=((leafR k v c b).1++[(b.drop (c*(k+v))).take k],(leafR k v c b).2++[((b.drop (c*(k+v))).drop k).take v])
 | 0,b=>by simp[leafR]
 | c+1,b=>by have ih:=qmg (k:=k) (v:=v) c (b.drop (k+v));have e:(k+v)+c*(k+v)=(c+1)*(k+v):=(by rw[xR];omega);rw[leafR,ih];simp only[xB,e];rfl
def qmf:∀(c:Nat) (b:List Int),kidsR (c+1) b=kidsR c b++[getV ((b.drop (c*4)).take 4)]
 | 0,b=>by simp[kidsR]
 | c+1,b=>by have ih:=qmf c (b.drop 4);have e:4+c*4=(c+1)*4:=(by omega);rw[kidsR,ih,xB,e];rfl
def qme{k:Nat}:∀(c:Nat) (b:List Int),keysR k (c+1) b=keysR k c b++[(b.drop (c*k)).take k]
 | 0,b=>by simp[keysR]
 | c+1,b=>by have ih:=qme (k:=k) c (b.drop k);have e:k+c*k=(c+1)*k:=(by rw[xR];omega);rw[keysR,ih,xB,e];rfl
def qi5:∀(c:Nat) (b:List Int),(kidsR c b).length=c
 | 0,_=>rfl
 | c+1,b=>by rw[kidsR,yH,qi5 c]
def qi4{k:Nat}:∀(c:Nat) (b:List Int),(keysR k c b).length=c
 | 0,_=>rfl
 | c+1,b=>by rw[keysR,yH,qi4 c]
def appK{x:Sl}{l:List Sl}{vb:Nat}{T':TypeId}(h:Buf encSl 1 w s l B)(hl:l.length<=100000)(I:w.heap[vb]?=some (.cells #[elSl x] T' (0,0)))(J:∀y B' w',Buf encSl 1 w' y (l++[x]) B'->Fr B w w'->(∀b∈B',b∈B\/w.heap.size<=b)->K y w'): Pt.run [Ty1.one Cell.slice] ((Builtin.append_ #[22,22] 22 #[s.v,.slice (pW vb) 1 1]).run prog w) K:=by obtain⟨O,z,R,A,C⟩:=qma;refine Buf.appSrc (ys:=[x]) (e:=23) h qcW (by kernel_rfl) z R A rfl (.ofSlice w (e':=23) (by kernel_rfl) _ 1 1 _ rfl (fun j u E=>?_) fun u G=>?_) rfl (by rw[C];omega) (by omega) fun y B' w' U V n' _=>J y B' w' U V n';rw[Addr.add_mk,qag I,xO];rw[yG,flatMap_nil,xF] at E;simpa[encSl] using E;rw[yG,flatMap_nil,xF] at G;rw[zE.1 G];rfl
def qrI{x:Int}{vb:Nat}{T':TypeId}(h:Buf encU 1 w s l B)(hl:l.length<=100000)(I:w.heap[vb]?=some (.cells #[.u x] T' (0,0)))(J:∀y B' w',Buf encU 1 w' y (l++[x]) B'->Fr B w w'->(∀b∈B',b∈B\/w.heap.size<=b)->K y w'): Pt.run [Ty1.one Cell.slice] ((Builtin.append_ #[92,92] 92 #[s.v,.slice (pW vb) 1 1]).run prog w) K:=by obtain⟨O,z,R,A,C⟩:=qed;refine Buf.appSrc (ys:=[x]) (e:=37) h qaK (by kernel_rfl) z R A rfl (.ofSlice w (e':=37) (by kernel_rfl) _ 1 1 _ rfl (fun j u E=>?_) fun u G=>?_) rfl (by rw[C];omega) (by omega) fun y B' w' U V n' _=>J y B' w' U V n';rw[Addr.add_mk,qag I,xO];rw[yG,flatMap_nil,xF] at E;simpa[encU] using E;rw[yG,flatMap_nil,xF] at G;rw[zE.1 G];rfl
abbrev takerV (h:Nat):Value:=.func (.func 215) #[] #[.pointer (pW h)]
def qqA{u i m:Nat}(h:Own [] w0 w L)(hi:L[i]?=some (u,.cells #[elSl s] T (0,0)))(z:RdB [] w0 s b)(y:m<=b.length)(hl:b.length<=1000000)(kk:∀E B' G w',Own [] w0 w' (L.set i (u,.cells #[elSl G] T (0,0)))->BufB w' E (b.take m) B'->(∀c∈B',w.heap.size<=c)->RdB [] w0 G (b.drop m)->Fr [u] w w'->K E w'): callV prog (takerV u) [.i m] [.one .slice] w K:=by
 refine qbf (lb:=[.pointer (pW u)]) rfl (by kernel_rfl)<|qln ?_;unfold qgY;refine oA h i hi s rfl<|Rds.part (S:=[]) z (lo:=none) (hi:=some (m:Int)) 0 m rfl rfl (yW _) y fun s1 _ I _=>?_;rw[xD] at I;refine qa3 (I.frame0 h.fr) (by rw[yK];omega) fun s2 B2 w2 b2 J O _ _=>?_;have R:=h.frame0 J;refine oA R i hi s rfl<|Rds.part (S:=[]) z (lo:=some (m:Int)) (hi:=none) m b.length rfl (by rw[xT,z.1]) y (zM _) fun U _ V _=>?_;rw[xX] at V;have A:=qab (h.at hi);refine oG R i hi #[elSl U] rfl rfl (zM _) fun w3 C f3=>kk s2 B2 U w3 C (b2.frame f3 fun c hc y=>?_) O V ((J.mono fun _ h _=>nomatch h).trans f3)
 have:=O c hc
 rw[zE.1 y] at this;dsimp only at A;omega
def getO (x:NdC) (o:Nat):Sl:=if o=1 then x.2.1 else x.2.2.1
def setO (x:NdC) (o:Nat) (s:Sl):NdC:=if o=1 then (x.1,s,x.2.2) else (x.1,x.2.1,s,x.2.2.2)
def qm9{o:Nat}(h:o=1\/o=2):(ndV x)[o]?=some (elSl (getO x o)):=by rcases h with rfl|rfl<;>rfl
def qwY{o:Nat}(h:o=1\/o=2):splice (ndV x) o [elSl s]=ndV (setO x o s):=by rcases h with rfl|rfl<;>rfl
def qsZ{z A m o:Nat}{s':Sl}{l:List Sl}{Bk:List Nat}{K:WP}(ho:o=1\/o=2)(h:Own [] w0 w ((z,.cells (ndV x) ND (0,0))::(A,.cells #[elSl s'] T (0,0))::L))(hr:RdB [] w0 s' b)(y:m<=b.length)(aE:b.length<=1000000)(aa:Buf encSl 1 w (getO x o) l Bk)(R:∀c∈Bk,w0.heap.size<=c/\c∉z::A::L.map (·.1))(hl:l.length<=100000)(kk:∀sn sN E Bk' w',Own [] w0 w' ((z,.cells (ndV (setO x o E)) ND (0,0))::(A,.cells #[elSl sN] T (0,0))::L)->RdB [] w0 sN (b.drop m)->Buf encSl 1 w' E (l++[sn]) Bk'-> (∀c∈Bk',c∈Bk\/w.heap.size<=c)->(∀c∈Bk',c∉z::A::L.map (·.1))->Fr (z::A::Bk) w w'->(∀G:List Nat,(∀c∈G,c<w.heap.size\/c∈Bk')->RdB G w' sn (b.take m))->K w'): (ld Cell.slice ⟨z,o,none⟩ w.drew<| fun (u:Sl)=> callV prog (takerV A) ([Value.int IntKind.i64 m]) ([Ty1.one Cell.slice]) w.drew<| fun (I:Sl) (ab:World)=> held [fun (ao:Go.World)=>World.cell? ao ⟨z,o,none⟩=some (Value.slice u.a u.len u.cap)] ab<| new (.cells #[Value.slice I.a I.len I.cap] 23) ab<| fun (ap:Nat) (ac:World)=> held [fun (aq:Go.World)=>World.cell? aq ⟨z,o,none⟩=some (Value.slice u.a u.len u.cap)] ac<| run [Ty1.one Cell.slice] ((Builtin.append_ (#[22,22]) 22 (#[Value.slice u.a u.len u.cap,Value.slice (pW ap) 1 1])).run prog ac)<| fun (J:Sl) (ar:World)=> st ⟨z,o,none⟩ ([Value.slice J.a J.len J.cap]) ar K):=by
 have hd:=h.drew;refine oA hd 0 rfl (getO x o) (qm9 ho)<|qqA hd (i:=1) rfl hr y aE fun aF aG sN af U aH aI hN ag=>?_;have U:Own [] w0 af ((z,.cells (ndV x) ND (0,0))::(A,.cells #[elSl sN] T (0,0))::L):=U;refine qaj (U.cell 0 rfl (qm9 ho))<|oB U fun aU aV aW ah ai=>qaj (ai.cell 1 rfl (qm9 ho)) ?_;have aj:Buf encSl 1 w.drew (getO x o) l Bk:=aa;have au:=aj.frame ag fun c C y=>(R c C).2 (by rw[zE.1 y];simp);have av:=au.frame0 ah;refine appK av hl (ai.at (i:=0) rfl) fun E Bk' aX aJ ak aw=>?_;have ax:=ai.sub (L':=(z,.cells (ndV x) ND (0,0))::(A,.cells #[elSl sN] T (0,0))::L) (sublist_cons_self _ _);have aY:w.heap.size<=af.heap.size:=ag.size;have aZ:=ah.size;have a0:=ak.size;have O:∀c∈z::A::L.map (·.1),c<w.heap.size:=fun c C=>by obtain⟨p,hp,rfl⟩:=mem_map.1 (show c∈((z,Obj.cells (ndV x) ND (0,0))::(A,.cells #[elSl s'] T (0,0))::L).map (·.1) from C);exact qab (h.blk p hp)
 have al:∀p∈((z,Obj.cells (ndV x) ND (0,0))::(A,.cells #[elSl sN] T (0,0))::L),p.1∉Bk:=fun p hp y=>(R p.1 y).2 (zY (f:=(·.1)) hp);have aL:=ax.frame ak (fun i V=>.inr (R i V).1) al;have ad:∀c∈Bk',c∈Bk\/w.heap.size<=c:=fun c C=>(aw c C).elim .inl fun h=>.inr (by omega);have ay:∀c∈Bk',c∉z::A::L.map (·.1):=fun c C y=>by
  rcases ad c C with h|h;exact (R c h).2 y
  have:=O c y;omega
 refine oG aL 0 rfl (ndV (setO x o E)) (qwY ho) rfl (by rcases ho with rfl|rfl<;>exact zO rfl) fun am aM az=>?_;have h5:∀c∈Bk',c∉[z]:=fun c C y=>ay c C (by rw[zE.1 y];simp);have aA:Fr (z::A::Bk) af am:=((ah.mono fun _ h _=>nomatch h).trans (ak.mono fun i V _=>by simp[V])).trans (az.mono fun i V _=>by simp[zE.1 V]);have aN:Fr (z::A::Bk) w am:=((Fr.refl _ w).drew.trans (ag.mono fun i V _=>by simp[zE.1 V])).trans aA;refine kk aF sN E Bk' am aM hN (aJ.frame az h5) ad ay aN fun G hG=>?_;have aB:∀c∈aG,c∉z::A::Bk++G.filter fun c=>decide (c<w.heap.size):=fun c C y=>by
  have h1:w.heap.size<=c:=aI c C;rcases zD.1 y with y|y;rcases zG.1 y with rfl|y
  have:=O c (by simp);omega
  rcases zG.1 y with rfl|y
  have:=O c (by simp);omega
  have:=aa.lt c y;omega
  have:=(mem_filter.1 y).2
  simp at this;omega
 refine (aH.rds qat aB).frame (aA.mono fun i V _=>zH _ V) fun c C=>?_;rcases hG c C with h1|h1;exact .inl (zI _ (mem_filter.2 ⟨C,by simpa using h1⟩));rcases aw c h1 with h2|h2;exact .inl (zH _ (by simp[h2]));exact .inr (by omega)
section
def qhN{L':List (Nat×Obj)}(h:Own S w0 w L)(p:L.Perm L'):Own S w0 w L':=⟨fun x u=>h.blk x (p.mem_iff.2 u),(p.map _).nodup_iff.1 h.nodup,h.fr,fun x u=>h.own x (p.mem_iff.2 u)⟩
def qcT{α:Type}{enc:α->List Value}{l:List α}(h:Buf enc k w s l B):B.Nodup:=by rcases h with ⟨_,_,rfl⟩|⟨b,_,_,_,rfl,_⟩<;>simp
def Els (w:World) (ps:Kps) (T:List Nat):Prop:=∀p∈ps,RdB T w p.1 p.2
def Els.frame{w w':World}{ps:Kps}{T T' S:List Nat}(h:Els w ps T)(f:Fr S w w')(u:∀b∈S,b∈T)(y:∀b∈T',b∈T\/w.heap.size<=b):Els w' ps T':=fun p z=>(h p z).frame (f.mono fun i A _=>u i A) y
def Els.snoc{T:List Nat}{a:Key}(h:Els w ps T)(g:RdB T w s a):Els w (ps++[(s,a)]) T:=fun p u=>by rcases zD.1 u with u|u;exact h p u;rw[zE.1 u];exact g
def qr7{G:List Nat}{pk pv:Kps}{Bk h u T:List Nat}(R:x.1=n.leaf)(U:NB n)(E:Buf encSl 1 w x.2.1 (slsP pk) Bk)(e1:keyP pk=n.keys)(I:Buf encSl 1 w x.2.2.1 (slsP pv) h)(V:keyP pv=n.vals)(J:Buf encU 1 w x.2.2.2 n.kids u)(K:∀c∈Bk,c∉h/\c∉u)(d2:∀c∈h,c∉u)(g1:Els w pk T)(g2:Els w pv T)(O:∀c∈G++(Bk++(h++u)),c∈T):NodeB (G++(Bk++(h++u))) w x n (Bk++(h++u)):=by refine⟨R,U,Bk,h,u,rfl,?_,⟨pk,E,e1,fun p A=>(g1 p A).weak fun c C=>.inl (O c C)⟩,⟨pv,I,V,fun p A=>(g2 p A).weak fun c C=>.inl (O c C)⟩,J⟩;refine yL.2 ⟨qcT E,yL.2 ⟨qcT I,qcT J,fun a z b y e=>d2 a z (e▸y)⟩,fun a z b y e=>?_⟩;rcases zD.1 y with y|y;exact (K a z).1 (e▸y);exact (K a z).2 (e▸y)
section
variable {w:World} {s:Sl} {b:List Int}
def qwQ{count:Nat}{K:NdC×Bool->WP}(hb:RdB [] w s b)(hB:IsB b)(hl:b.length<=1000)(hc:count<=100000)(hk:1<=k/\k<=1000)(hv:v<=1000)(kk:∀x B n w',(b.length=count*(k+v)->n=⟨true,(leafR k v count b).1,(leafR k v count b).2,[]⟩)->NodeB (List.range w.heap.size++B) w' x n B->Fr [] w w'->(∀c∈B,w.heap.size<=c)->K (x,decide (b.length=count*(k+v))) w'): cW 145 [s.v,.i count,.i k,.i v] [.agg qac,.one .bool] w K:=by
 refine qp0 ?_;unfold qml;refine oB (oE [] w) fun y w1 e1 f1 h=>?_;have a0:count*(k+v)<=100000*2000:=Nat.mul_le_mul hc (by omega);have ew:wrap .i64 ((count:Int)*wrap .i64 ((k:Int)+(v:Int)))=((count*(k+v):Nat):Int):=by have e1:wrap .i64 ((k:Int)+(v:Int))=((k+v:Nat):Int):=(by rw[wi' _ (by omega)];rfl);rw[e1,<- Int.natCast_mul,wi' _ (by omega)]
 rw[ew];have an:=hb.1;apply qaa<;>intro aa;have ao:b.length≠count*(k+v):=fun e=>by rw[an,e] at aa;simp at aa
 refine oD h 0 rfl (ndV zeroX) fun w2 h f2=>oC h 0 rfl zeroX rfl ?_
 have:=kk zeroX [] zeroN w2 (fun e=>absurd e ao) (.zero _ _) h.fr (fun _ h=>nomatch h)
 rw[zU ao] at this;exact this;have aI:b.length=count*(k+v):=by
  have:((s.len:Int)==((count*(k+v):Nat):Int))=true:=by simpa using aa
  have:=yO.1 this
  omega
 have a7:count<=1000:=(by have:count*1<=count*(k+v):=Nat.mul_le_mul_left _ (by omega);omega);refine oB h fun A w2 e2 f2 h=>oD h 0 rfl (ndV (true,⟨none,0,0⟩,⟨none,0,0⟩,⟨none,0,0⟩)) fun w3 h f3=>qie ?_;unfold qgz;refine oB h fun C w4 e4 f4 h=>?_;have h:=qhN h (List.Perm.swap _ _ _);have a8:=h.nodup;have a9:=fun p hp=>(h.own p hp).elim (fun h=>(nomatch h:False).elim) (id:w.heap.size<=p.1->_);refine qah (fun i w'=>∃(c:Nat) (sk V sn:Sl) (pk pv:Kps) (Bk E:List Nat),i=(c:Int)/\c<=count/\Own [] w w' [(A,.cells (ndV (true,sk,V,⟨none,0,0⟩)) ND (0,0)),(C,.cells #[elSl sn] 23 (0,0)),(y,.cells (ndV zeroX) ND (0,0))]/\
   RdB [] w sn (b.drop (c*(k+v)))/\Buf encSl 1 w' sk (slsP pk) Bk/\keyP pk=(leafR k v c b).1/\Buf encSl 1 w' V (slsP pv) E/\keyP pv=(leafR k v c b).2/\(∀c∈Bk,w.heap.size<=c/\c∉[A,C,y])/\(∀c∈E,w.heap.size<=c/\c∉[A,C,y])/\(∀c∈Bk,c∉E)/\
   Els w' pk (List.range w.heap.size++A::C::y::(Bk++E))/\Els w' pv (List.range w.heap.size++A::C::y::(Bk++E))) (fun i _=>((count:Int)-i).toNat)
  ⟨0,⟨none,0,0⟩,⟨none,0,0⟩,s,[],[],[],[],rfl,yW _,h,by rw[Nat.zero_mul,xD];exact hb,.nil _ _ _,rfl,.nil _ _ _,rfl,fun _ h=>(nomatch h),fun _ h=>(nomatch h),fun _ h=>(nomatch h),fun _ h=>(nomatch h),fun _ h=>(nomatch h)⟩ ?_
 rintro _ w' ⟨c,sk,V,sn,pk,pv,Bk,E,rfl,ba,h,aJ,ap,ek,ab,ev,nk,nv,ah,gk,gv⟩ X hX;have lk:pk.length=c:=(by rw[<- zK (f:=(·.2)),show pk.map (·.2)=keyP pk from rfl,ek,(qf4 c b).1]);have lv:pv.length=c:=(by rw[<- zK (f:=(·.2)),show pv.map (·.2)=keyP pv from rfl,ev,(qf4 c b).2]);have I:∀z∈[A,C,y],z<w'.heap.size:=fun z u=>by simp only[zG,xV,or_false] at u;rcases u with rfl|rfl|rfl;exact qab (h.at (i:=0) rfl);exact qab (h.at (i:=1) rfl);exact qab (h.at (i:=2) rfl)
 apply qaa<;>intro ai;have aq:c<count:=(by have:=zC ai;omega);have aj:(c+1)*(k+v)<=count*(k+v):=Nat.mul_le_mul_right _ aq;rw[xR,Nat.one_mul] at aj;have bc:(b.drop (c*(k+v))).length=b.length-c*(k+v):=yB;refine qsZ (o:=1) (m:=k) (.inl rfl) h aJ (by omega) (by omega) (x:=(true,sk,V,⟨none,0,0⟩)) ap (fun z u=>nk z u) (by simp;omega) fun O sN R Bk' w5 h5 aM b5 n5 m5 f5 g5=>?_;have h5:Own [] w w5 [(A,.cells (ndV (true,R,V,⟨none,0,0⟩)) ND (0,0)),(C,.cells #[elSl sN] 23 (0,0)),(y,.cells (ndV zeroX) ND (0,0))]:=h5;have ar:=ab.frame f5 fun z u G=>by simp only[zG] at G;rcases G with rfl|rfl|G;exact (nv _ u).2 (by simp);exact (nv _ u).2 (by simp);exact ah z G u
 have au:∀z∈List.range w.heap.size++A::C::y::(Bk'++E),z∈List.range w.heap.size++A::C::y::(Bk++E)\/w'.heap.size<=z:=fun z u=>by simp only[zD,zG] at u⊢;rcases u with u|rfl|rfl|rfl|u|u;exact .inl (.inl u);simp;simp;simp;rcases n5 z u with h|h;simp[h];exact .inr h;simp[u]
 have av:∀z∈A::C::Bk,z∈List.range w.heap.size++A::C::y::(Bk++E):=fun z u=>by simp only[zD,zG] at u⊢;rcases u with rfl|rfl|u<;>simp[*]
 have aP:=(gk.frame f5 av au).snoc (s:=O) (a:=(b.drop (c*(k+v))).take k) (g5 _ fun z u=>by
  simp only[zD,zG,mem_range] at u
  have:=h.fr.size
  rcases u with u|rfl|rfl|rfl|u|u;exact .inl (by omega);exact .inl (I _ (by simp));exact .inl (I _ (by simp));exact .inl (I _ (by simp));exact .inr u;exact .inl (ab.lt z u))
 have aQ:=gv.frame f5 av au;have ak:∀z∈Bk',w.heap.size<=z/\z∉[A,C,y]:=fun z u=>⟨by rcases n5 z u with J|J;exact (nk z J).1;exact zL h.fr.size J,m5 z u⟩;have ag:∀z∈Bk',z∉E:=fun z u G=>by
  rcases n5 z u with J|J;exact ah z J G
  have:=ab.lt z G;omega
 have aR:Buf encSl 1 w5 R (slsP (pk++[(O,(b.drop (c*(k+v))).take k)])) Bk':=(by rw[show slsP (pk++[(O,(b.drop (c*(k+v))).take k)])=slsP pk++[O] by simp];exact b5);refine qsZ (o:=2) (m:=v) (.inr rfl) h5 aM (by rw[yB];omega) (by rw[yB];omega) (x:=(true,R,V,⟨none,0,0⟩)) ar (fun z u=>nv z u) (by simp;omega) fun ad aw ax ay w6 h6 az b6 n6 m6 f6 g6=>?_;have h6:Own [] w w6 [(A,.cells (ndV (true,R,ax,⟨none,0,0⟩)) ND (0,0)),(C,.cells #[elSl aw] 23 (0,0)),(y,.cells (ndV zeroX) ND (0,0))]:=h6;have U:∀z∈[A,C,y],z<w5.heap.size:=fun z u=>yC (I z u) f5.size;have aA:=aR.frame f6 fun z u G=>by simp only[zG] at G;rcases G with rfl|rfl|G;exact (ak _ u).2 (by simp);exact (ak _ u).2 (by simp);exact ag z u G
 have aB:∀z∈List.range w.heap.size++A::C::y::(Bk'++ay),z∈List.range w.heap.size++A::C::y::(Bk'++E)\/w5.heap.size<=z:=fun z u=>by simp only[zD,zG] at u⊢;rcases u with u|rfl|rfl|rfl|u|u;exact .inl (.inl u);simp;simp;simp;simp[u];rcases n6 z u with h|h;simp[h];exact .inr h
 have aC:∀z∈A::C::E,z∈List.range w.heap.size++A::C::y::(Bk'++E):=fun z u=>by simp only[zD,zG] at u⊢;rcases u with rfl|rfl|u<;>simp[*]
 have aV:=(aQ.frame f6 aC aB).snoc (s:=ad) (a:=((b.drop (c*(k+v))).drop k).take v) (g6 _ fun z u=>by
  simp only[zD,zG,mem_range] at u
  have:=h5.fr.size
  rcases u with u|rfl|rfl|rfl|u|u;exact .inl (by omega);exact .inl (U _ (by simp));exact .inl (U _ (by simp));exact .inl (U _ (by simp));exact .inl (b5.lt z u);exact .inr u)
 have aW:=aP.frame f6 aC aB;rw[qbM (by omega)];have aD:=qmg (k:=k) (v:=v) c b;refine hX _ _ ⟨c+1,R,ax,aw,pk++[(O,(b.drop (c*(k+v))).take k)],pv++[(ad,((b.drop (c*(k+v))).drop k).take v)],Bk',ay,rfl,aq,h6,?_,aA,?_,?_,?_,ak,fun z u=>⟨?_,m6 z u⟩,fun z u G=>?_,aW,aV⟩ (by omega);rw[xB,xB] at az;have e:c*(k+v)+(k+v)=(c+1)*(k+v):=(by rw[xR];omega);rw[<- e];exact az;rw[aD];simp[ek];rw[show slsP (pv++[(ad,((b.drop (c*(k+v))).drop k).take v)])=slsP pv++[ad] by simp];exact b6;rw[aD];simp[ev];rcases n6 z u with J|J;exact (nv z J).1;exact zL h5.fr.size J;rcases n6 z G with J|J;exact ag z u J
 have:=b5.lt z u;omega
 have aX:c=count:=(by have:=zB ai;omega);subst aX;refine oC h 0 rfl (true,sk,V,⟨none,0,0⟩) rfl<|oD h 2 rfl (ndV (true,sk,V,⟨none,0,0⟩)) fun w5 h5 f5=>oC h5 2 rfl (true,sk,V,⟨none,0,0⟩) rfl ?_;have aE:∀ {B:List Nat},(∀z∈B,w.heap.size<=z/\z∉[A,C,y])->∀z∈B,z∉[y]:=fun hB z u G=>(hB z u).2 (by rw[zE.1 G];simp);have aF:∀z∈[y],z∈List.range w.heap.size++A::C::y::(Bk++E):=fun z u=>by rw[zE.1 u];simp
 have:=kk (true,sk,V,⟨none,0,0⟩) (Bk++(E++[])) ⟨true,(leafR k v c b).1,(leafR k v c b).2,[]⟩ w5 (fun _=>rfl)
  (qr7 (T:=List.range w.heap.size++A::C::y::(Bk++E)) rfl ⟨(qi8 c hB).1,(qi8 c hB).2,fun _ h=>(nomatch h)⟩ (ap.frame f5 (aE nk)) ek (ab.frame f5 (aE nv)) ev (.nil _ _ _) (fun z u=>⟨ah z u,fun h=>nomatch h⟩) (fun _ _ h=>nomatch h)
   (gk.frame f5 aF fun z u=>.inl u) (gv.frame f5 aF fun z u=>.inl u) fun z u=>by simp only[xF,zD,zG] at u⊢;rcases u with u|u|u<;>simp[*]) h5.fr (fun z u=>by
   rw[xF] at u;rcases zD.1 u with u|u;exact (nk z u).1;exact (nv z u).1)
 rw[zZ aI] at this;exact this
end
end
section
def qq0(u:IsB l)(z:4<=l.length):first4 (l.take 4)=getV (l.take 4):=by
 match l,z with
 | a::b::c::d::r,_=>
  have A:=u a (by simp);have C:=u b (by simp);have E:=u c (by simp);have G:=u d (by simp);show first4 [a,b,c,d]=getV [a,b,c,d];show get4V a b c d=_;rw[qpy A C E G,qhG (fun v y=>u v (by simp at y⊢;rcases y with h|h|h|h<;>simp[h])) (zM _)];show _=(((0*256+a)*256+b)*256+c)*256+d;omega
def qvz(l:List Int):U32 (getV l):=by
 unfold getV;have:∀(l:List Int) (r:Int),U32 r->U32 (l.foldl (fun r x=>bits .or .u32 (wrap .u32 (r*2^8)) (wrap .u32 x)) r):=by
  intro l;induction l with
  | nil=>intro r h;exact h
  | cons x l ih=>intro r h;exact ih _ (qcr _ _ _)
 exact this l 0 ⟨by decide,by decide⟩
def qnU:∀(c:Nat) (b:List Int),∀x∈kidsR c b,U32 x
 | 0,_,_,h=>nomatch h
 | c+1,b,x,h=>by rcases zG.1 h with rfl|h;exact qvz _;exact qnU c _ x h
def qw4{C E:Nat}{s':Sl}{Bi:List Nat}{K:WP}(h:Own [] w0 w ((C,.cells (ndV x) ND (0,0))::(E,.cells #[elSl s'] T (0,0))::L))(hr:RdB [] w0 s' b)(hB:IsB b)(R:4<=b.length)(ay:b.length<=1000000)(af:Buf encU 1 w x.2.2.2 l Bi)(U:∀c∈Bi,w0.heap.size<=c/\c∉C::E::L.map (·.1))(hl:l.length<=100000)(kk:∀sN G I w',Own [] w0 w' ((C,.cells (ndV (x.1,x.2.1,x.2.2.1,G)) ND (0,0))::(E,.cells #[elSl sN] T (0,0))::L)->RdB [] w0 sN (b.drop 4)->Buf encU 1 w' G (l++[getV (b.take 4)]) I-> (∀c∈I,w0.heap.size<=c/\c∉C::E::L.map (·.1))->K w'): (callV prog (takerV E) ([Value.int IntKind.i64 4]) ([Ty1.one Cell.slice]) w<| fun (z:Sl) (u:World)=> ld Cell.slice ⟨C,3,none⟩ u.drew<| fun (y:Sl)=> idx z 0 1<| fun (ag:Addr)=> ld (Cell.int IntKind.u8) ag u.drew<| fun (ah:Int)=> idx z 1 1<| fun (ai:Addr)=> ld (Cell.int IntKind.u8) ai u.drew<| fun (aj:Int)=> idx z 2 1<| fun (ak:Addr)=> ld (Cell.int IntKind.u8) ak u.drew<| fun (al:Int)=> idx z 3 1<| fun (am:Addr)=> ld (Cell.int IntKind.u8) am u.drew<| fun (an:Int)=> new (.cells #[Value.int IntKind.u32 (bits .or .u32 (bits .or .u32 (bits .or .u32 (wrap IntKind.u32 (wrap IntKind.u32 ah*2^24)) (wrap IntKind.u32 (wrap IntKind.u32 aj*2^16))) (wrap IntKind.u32 (wrap IntKind.u32 al*2^8))) (wrap IntKind.u32 an))] 37) u.drew<| fun (ao:Nat) (ab:World)=> held [fun (ap:Go.World)=>World.cell? ap ⟨C,3,none⟩=some (Value.slice y.a y.len y.cap)] ab<| run [Ty1.one Cell.slice] ((Builtin.append_ (#[92,92]) 92 (#[Value.slice y.a y.len y.cap,Value.slice (pW ao) 1 1])).run prog ab)<| fun (J:Sl) (aq:World)=> st ⟨C,3,none⟩ ([Value.slice J.a J.len J.cap]) aq K):=by
 refine qqA (m:=4) h (i:=1) rfl hr R ay fun az aU sN V aA aB aV hN aC=>?_;have hd:Own [] w0 V.drew ((C,.cells (ndV x) ND (0,0))::(E,.cells #[elSl sN] T (0,0))::L):=oF aA;refine oA hd 0 rfl x.2.2.2 rfl ?_;have A:RdB [] V.drew az (b.take 4):=(aB.rds qat (S:=[]) (fun _ _ h=>nomatch h)).frame0 (Fr.refl [] V).drew;have h4:4<=(b.take 4).length:=(by rw[yK];omega);refine RdB.at A 0 rfl (getD_some (by omega))<|RdB.at A 1 rfl (getD_some (by omega))<|RdB.at A 2 rfl (getD_some (by omega))<|RdB.at A 3 rfl (getD_some (by omega)) ?_;have e4:=qq0 hB R;unfold first4 get4V at e4;rw[e4];refine oB hd fun aX aD aY aE ac=>qaj (ac.cell 1 rfl rfl) ?_;have ar:=af.frame aC fun c hc R=>(U c hc).2 (by rw[zE.1 R];simp);have au:=(ar.frame0 (Fr.refl [] V).drew).frame0 aE;refine qrI au hl (ac.at (i:=0) rfl) fun G I aZ aF aG aH=>?_;have O:=ac.sub (L':=(C,.cells (ndV x) ND (0,0))::(E,.cells #[elSl sN] T (0,0))::L) (sublist_cons_self _ _);have ae:∀p∈((C,Obj.cells (ndV x) ND (0,0))::(E,.cells #[elSl sN] T (0,0))::L),p.1∉Bi:=fun p hp R=>(U p.1 R).2 (zY (f:=(·.1)) hp);have aJ:=O.frame aG (fun i hi=>.inr (U i hi).1) ae;have av:∀c∈C::E::L.map (·.1),c<aD.heap.size:=fun c hc=>by obtain⟨p,hp,rfl⟩:=mem_map.1 (show c∈((C,Obj.cells (ndV x) ND (0,0))::(E,.cells #[elSl sN] T (0,0))::L).map (·.1) from hc);exact qab (O.blk p hp)
 have aw:∀c∈I,w0.heap.size<=c/\c∉C::E::L.map (·.1):=fun c hc=>by rcases aH c hc with h|h;exact U c h;exact⟨zL O.fr.size h,fun R=>by have:=av c R;omega⟩
 exact oD aJ 0 rfl (ndV (x.1,x.2.1,x.2.2.1,G)) fun aK aL aM=>kk sN G I aK aL hN (aF.frame aM fun c hc R=>(aw c hc).2 (by rw[zE.1 R];simp)) aw
section
variable {w:World} {s:Sl} {b:List Int}
def qt5{count:Nat}{K:NdC×Bool->WP}(hb:RdB [] w s b)(hB:IsB b)(hl:b.length<=1000)(hc:count<=100000)(hk:1<=k/\k<=1000)(kk:∀x B n w',(1<=count/\b.length=count*4+(count-1)*k->n=⟨false,keysR k (count-1) (b.drop (count*4)),[],kidsR count b⟩)->NodeB (List.range w.heap.size++B) w' x n B->Fr [] w w'->(∀c∈B,w.heap.size<=c)->K (x,decide (1<=count/\b.length=count*4+(count-1)*k)) w'): cW 146 [s.v,.i count,.i k] [.agg qac,.one .bool] w K:=by
 refine qoC ?_;unfold qkJ;refine oB (oE [] w) fun y w1 e1 f1 h=>?_;have am:=hb.1;have an:(count-1)*k<=100000*1000:=Nat.mul_le_mul (by omega) hk.2;refine qaf (fun d w'=>d = !decide (1<=count/\b.length=count*4+(count-1)*k)/\w'=w1) ?_ ?_;apply qaa<;>intro h1;have h1:=zC h1;refine⟨?_,rfl⟩;rw[zU (fun h=>by omega)];rfl;have h1:=zB h1;refine⟨?_,rfl⟩;have ea:wrap .i64 ((count:Int)-1)=((count-1:Nat):Int):=(by rw[wi' _ (by omega)];omega);have ew:wrap .i64 (wrap .i64 ((count:Int)*4)+wrap .i64 (wrap .i64 ((count:Int)-1)*(k:Int)))=((count*4+(count-1)*k:Nat):Int):=by have e4:wrap .i64 ((count:Int)*4)=((count*4:Nat):Int):=(by rw[wi' _ (by omega)];rfl);have e5:wrap .i64 (((count-1:Nat):Int)*(k:Int))=(((count-1)*k:Nat):Int):=(by rw[<- Int.natCast_mul,wi' _ (by omega)]);rw[ea,e4,e5];generalize (count-1)*k=z at an;rw[wi' _ (by omega)];rfl
 rw[ew,am];congr 1;rw[Bool.eq_iff_iff,yO,yM];generalize (count-1)*k=z;omega;rintro d aY ⟨rfl,rfl⟩;apply qaa<;>intro J;have ap:¬(1<=count/\b.length=count*4+(count-1)*k):=(by rw[zT] at J;exact zB J);refine oD h 0 rfl (ndV zeroX) fun U h f2=>oC h 0 rfl zeroX rfl ?_
 have:=kk zeroX [] zeroN U (fun e=>absurd e ap) (.zero _ _) h.fr (fun _ h=>nomatch h)
 rw[zU ap] at this;exact this;have aE:1<=count/\b.length=count*4+(count-1)*k:=(by rw[yD] at J;exact zC J);refine oB h fun C U e2 f2 h=>qie ?_;unfold qgz;refine oB h fun E w4 e4 f4 h=>?_;have h:=qhN h (List.Perm.swap _ _ _);refine qah (fun i w'=>∃(c:Nat) (I sn:Sl) (G:List Nat),i=(c:Int)/\c<=count/\Own [] w w' [(C,.cells (ndV (false,⟨none,0,0⟩,⟨none,0,0⟩,I)) ND (0,0)),(E,.cells #[elSl sn] 23 (0,0)),(y,.cells (ndV zeroX) ND (0,0))]/\
   RdB [] w sn (b.drop (c*4))/\Buf encU 1 w' I (kidsR c b) G/\(∀c∈G,w.heap.size<=c/\c∉[C,E,y])) (fun i _=>((count:Int)-i).toNat)
  ⟨0,⟨none,0,0⟩,s,[],rfl,yW _,h,by rw[Nat.zero_mul,xD];exact hb,.nil _ _ _,fun _ h=>(nomatch h)⟩ ?_
 rintro _ w' ⟨c,I,sn,G,rfl,a0,h,aq,A,ni⟩ X hX;apply qaa<;>intro ae;have V:c<count:=(by have:=zC ae;omega);have aG:(b.drop (c*4)).length=b.length-c*4:=yB;refine qw4 h aq (hB.drop _) (by omega) (by omega) (x:=(false,⟨none,0,0⟩,⟨none,0,0⟩,I)) A ni (by rw[qi5];omega) fun sN aH aI w5 h5 O b5 n5=>?_;rw[qbM (by omega)];refine hX _ _ ⟨c+1,aH,sN,aI,rfl,V,h5,?_,by rw[qmf];exact b5,n5⟩ (by omega);rw[xB] at O;have e:c*4+4=(c+1)*4:=(by omega);rw[<- e];exact O;have af:c=count:=(by have:=zB ae;omega);subst af;have aS:∀z∈G,w.heap.size<=z:=fun z u=>(ni z u).1;refine qah (fun i U=>∃(d:Nat) (sk sn:Sl) (pk:Kps) (Bk:List Nat),i=(d:Int)/\d<=c-1/\Own [] w U [(C,.cells (ndV (false,sk,⟨none,0,0⟩,I)) ND (0,0)),(E,.cells #[elSl sn] 23 (0,0)),(y,.cells (ndV zeroX) ND (0,0))]/\
   RdB [] w sn ((b.drop (c*4)).drop (d*k))/\Buf encU 1 U I (kidsR c b) G/\Buf encSl 1 U sk (slsP pk) Bk/\keyP pk=keysR k d (b.drop (c*4))/\(∀c∈Bk,w.heap.size<=c/\c∉[C,E,y])/\(∀c∈Bk,c∉G)/\
   Els U pk (List.range w.heap.size++C::E::y::(Bk++G))) (fun i _=>(((c-1:Nat):Int)-i).toNat)
  ⟨0,⟨none,0,0⟩,sn,[],[],rfl,yW _,h,by rw[Nat.zero_mul,xD];exact aq,A,.nil _ _ _,rfl,fun _ h=>(nomatch h),fun _ h=>(nomatch h),fun _ h=>(nomatch h)⟩ ?_
 rintro _ U ⟨d,sk,a1,pk,Bk,rfl,a2,h,au,A,av,ek,nk,ag,gk⟩ X hX;have lk:pk.length=d:=(by rw[<- zK (f:=(·.2)),show pk.map (·.2)=keyP pk from rfl,ek,qi4]);have ea:wrap .i64 ((c:Int)-1)=((c-1:Nat):Int):=(by rw[wi' _ (by omega)];omega);have R:∀z∈[C,E,y],z<U.heap.size:=fun z u=>by simp only[zG,xV,or_false] at u;rcases u with rfl|rfl|rfl;exact qab (h.at (i:=0) rfl);exact qab (h.at (i:=1) rfl);exact qab (h.at (i:=2) rfl)
 rw[ea];apply qaa<;>intro ah;have V:d<c-1:=(by have:=zC ah;omega);have ai:(d+1)*k<=(c-1)*k:=Nat.mul_le_mul_right _ V;rw[xR,Nat.one_mul] at ai;have aG:((b.drop (c*4)).drop (d*k)).length=b.length-c*4-d*k:=(by rw[yB,yB]);refine qsZ (o:=1) (m:=k) (.inl rfl) h au (by omega) (by omega) (x:=(false,sk,⟨none,0,0⟩,I)) av nk (by simp;omega) fun aa sN aw Bk' w5 h5 O b5 n5 m5 f5 g5=>?_;have h5:Own [] w w5 [(C,.cells (ndV (false,aw,⟨none,0,0⟩,I)) ND (0,0)),(E,.cells #[elSl sN] 23 (0,0)),(y,.cells (ndV zeroX) ND (0,0))]:=h5;have ax:=A.frame f5 fun z u hm=>by simp only[zG] at hm;rcases hm with rfl|rfl|hm;exact (ni _ u).2 (by simp);exact (ni _ u).2 (by simp);exact ag z hm u
 have aL:∀z∈List.range w.heap.size++C::E::y::(Bk'++G),z∈List.range w.heap.size++C::E::y::(Bk++G)\/U.heap.size<=z:=fun z u=>by simp only[zD,zG] at u⊢;rcases u with u|rfl|rfl|rfl|u|u;exact .inl (.inl u);simp;simp;simp;rcases n5 z u with h|h;simp[h];exact .inr h;simp[u]
 have aM:∀z∈C::E::Bk,z∈List.range w.heap.size++C::E::y::(Bk++G):=fun z u=>by simp only[zD,zG] at u⊢;rcases u with rfl|rfl|u<;>simp[*]
 have aN:=(gk.frame f5 aM aL).snoc (s:=aa) (a:=((b.drop (c*4)).drop (d*k)).take k) (g5 _ fun z u=>by
  simp only[zD,zG,mem_range] at u
  have:=h.fr.size
  rcases u with u|rfl|rfl|rfl|u|u;exact .inl (by omega);exact .inl (R _ (by simp));exact .inl (R _ (by simp));exact .inl (R _ (by simp));exact .inr u;exact .inl (A.lt z u))
 rw[qbM (by omega)];refine hX _ _ ⟨d+1,aw,sN,pk++[(aa,((b.drop (c*4)).drop (d*k)).take k)],Bk',rfl,V,h5,?_,ax,?_,?_,fun z u=>⟨?_,m5 z u⟩,fun z u hm=>?_,aN⟩ (by omega);rw[xB] at O;have e:d*k+k=(d+1)*k:=(by rw[xR];omega);rw[<- e];exact O;rw[show slsP (pk++[(aa,((b.drop (c*4)).drop (d*k)).take k)])=slsP pk++[aa] by simp];exact b5;rw[qme];simp[ek];rcases n5 z u with h'|h';exact (nk z h').1;exact zL h.fr.size h';rcases n5 z u with h'|h';exact ag z h' hm
 have:=A.lt z hm;omega
 have af:d=c-1:=(by have:=zB ah;omega);subst af;refine oC h 0 rfl (false,sk,⟨none,0,0⟩,I) rfl<|oD h 2 rfl (ndV (false,sk,⟨none,0,0⟩,I)) fun w5 h5 f5=>oC h5 2 rfl (false,sk,⟨none,0,0⟩,I) rfl ?_;have ay:∀ {B:List Nat},(∀z∈B,w.heap.size<=z/\z∉[C,E,y])->∀z∈B,z∉[y]:=fun hB z u hm=>(hB z u).2 (by rw[zE.1 hm];simp);have aO:∀z∈[y],z∈List.range w.heap.size++C::E::y::(Bk++G):=fun z u=>by rw[zE.1 u];simp
 have:=kk (false,sk,⟨none,0,0⟩,I) (Bk++([]++G)) ⟨false,keysR k (c-1) (b.drop (c*4)),[],kidsR c b⟩ w5 (fun _=>rfl)
  (qr7 (pv:=[]) (T:=List.range w.heap.size++C::E::y::(Bk++G)) rfl ⟨qnT _ (hB.drop _),fun _ h=>(nomatch h),qnU _ _⟩ (av.frame f5 (ay nk)) ek (.nil _ _ _) rfl (A.frame f5 (ay ni)) (fun z u=>⟨fun h=>(nomatch h),ag z u⟩) (fun _ h=>nomatch h)
   (gk.frame f5 aO fun z u=>.inl u) (fun _ h=>nomatch h) fun z u=>by simp only[xG,zD,zG] at u⊢;rcases u with u|u|u<;>simp[*]) h5.fr (fun z u=>by
   rw[xG] at u;rcases zD.1 u with u|u;exact (nk z u).1;exact (ni z u).1)
 rw[zZ aE] at this;exact this
end
end
section
def qqV(h:IsB b)(A:2<=b.length):bits .or .i64 (wrap .i64 (wrap .i64 (b.getD 0 0)*2^8)) (wrap .i64 (b.getD 1 0))=(countV b:Int)/\countV b<=65535:=by have u:0<=b.getD 0 0/\b.getD 0 0<256:=h _ (yE (getD_some (l:=b) (n:=0) (by omega)));have z:0<=b.getD 1 0/\b.getD 1 0<256:=h _ (yE (getD_some (l:=b) (n:=1) (by omega)));unfold countV;generalize b.getD 0 0=x at u⊢;generalize b.getD 1 0=y at z⊢;rw[wi' x (by omega),wi' y (by omega),wi' (x*2^8) (by omega),qp4 8];omega
def qlM(h:(capsV k v).1≠0):1<=k/\k<=24/\v<=108:=by unfold capsV at h;split at h;exact absurd rfl h;omega
def qvV(h:(capsV k v).1=0\/b.length<2\/b.length>500):readNV kind b k v=(zeroN,2):=by unfold readNV;rw[if_pos h]
def quH(h:¬((capsV k v).1=0\/b.length<2\/b.length>500)):readNV 3 b k v=if (b.drop 2).length=countV b*(k+v)/\rightV (leafN k v b) k v then (leafN k v b,0) else (zeroN,2):=by unfold readNV;rw[if_neg h];by_cases h2:(b.drop 2).length=countV b*(k+v)/\rightV (leafN k v b) k v;rw[if_pos ⟨rfl,h2⟩,if_pos h2];rw[if_neg fun h=>h2 h.2,if_neg h2,if_neg fun h=>absurd h.1 (by decide)]
def qs4(h:¬((capsV k v).1=0\/b.length<2\/b.length>500)):readNV 4 b k v=if (1<=countV b/\(b.drop 2).length=countV b*4+(countV b-1)*k)/\rightV (innerN k b) k v then (innerN k b,0) else (zeroN,2):=by unfold readNV;rw[if_neg h,if_neg fun h=>absurd h.1 (by decide)];by_cases h2:(1<=countV b/\(b.drop 2).length=countV b*4+(countV b-1)*k)/\rightV (innerN k b) k v;rw[if_pos ⟨rfl,h2.1.1,h2.1.2,h2.2⟩,if_pos h2];rw[if_neg fun h=>h2 ⟨⟨h.2.1,h.2.2.1⟩,h.2.2.2⟩,if_neg h2]
def quG(u:kind≠3)(y:kind≠4):readNV kind b k v=(zeroN,2):=by unfold readNV;split;rfl;rw[if_neg fun h=>u h.1,if_neg fun h=>y h.1]
section
variable {w:World} {s:Sl} {b:List Int}
def qu7{K:NdC×Int->WP}(hb:RdB [] w s b)(hB:IsB b)(kk:∀x B w',NodeB (List.range w.heap.size++B) w' x (readNV kind b k v).1 B->Fr [] w w'->(∀c∈B,w.heap.size<=c)->K (x,(readNV kind b k v).2) w'): cW 112 [.b kind,s.v,.i k,.i v] [.agg qac,.one .i] w K:=by
 refine qpY ?_;unfold qmk;have ad:=hb.1;refine oB (oE [] w) fun r1 w1 e1 f1 h=>qk2 fun w4 f4=>?_;have h:=h.frame0 f4;refine qaf (fun d w'=>d=decide ((capsV k v).1=0\/b.length<2\/b.length>500)/\w'=w4) ?_ ?_;dsimp only;refine qaa (fun y=>⟨?_,rfl⟩) (fun y=>qaa (fun c2=>⟨?_,rfl⟩) (fun c2=>⟨?_,rfl⟩));have y:=yO.1 y;exact qjZ (.inl (by omega));have c2:=zC c2;exact qjZ (.inr (.inl (by omega)));have y:=zR.1 y;have c2:=zB c2;rw[Bool.eq_iff_iff,yM,yM];constructor;intro h;exact .inr (.inr (by omega));rintro (h|h|h);omega;omega;omega;rintro d aF ⟨rfl,rfl⟩;have aq:∀ {w'},readNV kind b k v=(zeroN,2)->Own [] w w' [(r1,.cells (ndV zeroX) ND (0,0))]->
   st ⟨r1,0,none⟩ ([Value.bool false,Value.slice none 0 0,Value.slice none 0 0,Value.slice none 0 0]) w' fun ar=>ldA (qac) ⟨r1,0,none⟩ ar fun aG=>K ((aG,2)) ar:=fun he h=>by
  refine oD h 0 rfl (ndV zeroX) fun w2 h f2=>oC h 0 rfl zeroX rfl ?_
  have:=kk zeroX [] w2 (by rw[he];exact .zero _ _) h.fr (fun _ h=>nomatch h)
  rw[he] at this;exact this
 refine qaa (fun u=>aq (qvV (zC u)) h) (fun u=>?_);have O:=zB u;have au:(capsV k v).1≠0:=fun e=>O (.inl e);have h2:2<=b.length/\b.length<=500:=by refine⟨?_,?_⟩;exact Nat.not_lt.1 fun e=>O (.inr (.inl e));exact Nat.not_lt.1 fun e=>O (.inr (.inr e))
 obtain⟨aV,aW,aX⟩:=qlM au;obtain⟨av,aY⟩:=qqV hB h2.1;have aw:=(hb.frame0 h.fr).frame0 (Fr.refl [] aF).drew;refine RdB.at aw 0 rfl (getD_some (by omega))<|RdB.at aw 1 rfl (getD_some (by omega)) ?_;rw[av];have h:=h.drew;refine oB h fun ab af aZ a0 h=>?_;have ag:=qab (h.at (i:=0) rfl);have ax:=qab (h.at (i:=1) rfl);dsimp only at ag ax;have ae:=hb.frame0 h.fr;have ay:=h.fr.size;refine qaf (fun G w'=>∃x B n,Own [] w w' [(ab,.cells (ndV x) ND (0,0)),(r1,.cells (ndV zeroX) ND (0,0))]/\NodeB (List.range af.heap.size++B) w' x n B/\(∀c∈B,af.heap.size<=c)/\
   G=decide ((kind=3/\(b.drop 2).length=countV b*(k+v))\/(kind=4/\1<=countV b/\(b.drop 2).length=countV b*4+(countV b-1)*k))/\
   (G=true->n=if kind=3 then leafN k v b else innerN k b)) ?_ ?_
 refine qaa (fun J=>?_) (fun J=>qaa (fun c4=>?_) (fun c4=>?_));have J:=yO.1 J;refine Rds.part (S:=[]) ae (lo:=some 2) (hi:=none) 2 b.length rfl (by rw[xT,ad]) h2.1 (zM _) fun aI _ C _=>?_;rw[xX] at C;refine qwQ C (hB.drop 2) (by rw[yB];omega) (by omega) (by omega) (by omega) fun x B n aJ hn hN aj E=>?_;have ak:=h.frame0 aj;refine oD ak 0 rfl (ndV x) fun aK al am=>?_;have R:∀c∈B,c∉[ab]:=fun c u hm=>by have:=E c u;rw[zE.1 hm] at this;omega
 refine⟨x,B,n,al,hN.frame am R (fun c u=>.inl (by rw[zE.1 u];simp[ag])) (fun c u=>.inl u),E,?_,fun z=>?_⟩;rw[Bool.eq_iff_iff,yM,yM];constructor;intro I;exact .inl ⟨J,I⟩;rintro (I|I);exact I.2
 have:=I.1;omega
 rw[if_pos J];exact hn (zC z);have J:=zR.1 J;have c4:=yO.1 c4;refine Rds.part (S:=[]) ae (lo:=some 2) (hi:=none) 2 b.length rfl (by rw[xT,ad]) h2.1 (zM _) fun aI _ C _=>?_;rw[xX] at C;refine qt5 C (hB.drop 2) (by rw[yB];omega) (by omega) (by omega) fun x B n aJ hn hN aj E=>?_;have ak:=h.frame0 aj;refine oD ak 0 rfl (ndV x) fun aK al am=>?_;have R:∀c∈B,c∉[ab]:=fun c u hm=>by have:=E c u;rw[zE.1 hm] at this;omega
 refine⟨x,B,n,al,hN.frame am R (fun c u=>.inl (by rw[zE.1 u];simp[ag])) (fun c u=>.inl u),E,?_,fun z=>?_⟩;rw[Bool.eq_iff_iff,yM,yM];constructor;intro I;exact .inr ⟨c4,I⟩;rintro (I|I);exact absurd I.1 J;exact I.2;rw[if_neg J];exact hn (zC z);have J:=zR.1 J;have c4:=zR.1 c4;refine⟨zeroX,[],zeroN,h,.zero _ _,fun _ h=>(nomatch h),?_,fun z=>nomatch z⟩;rw[zU];rintro (I|I);exact J I.1;exact c4 I.1;rintro G aL ⟨x,B,n,h,hN,E,U,hn⟩;have aA:G=true->n.keys.length<=1000000/\n.vals.length<=1000000/\n.kids.length<=1000000:=fun z=>by
  rw[hn z];split
  have:=qf4 (k:=k) (v:=v) (countV b) (b.drop 2)
  unfold leafN;dsimp only;rw[this.1,this.2];simp;omega;unfold innerN;dsimp only;rw[qi4,qi5];simp;omega
 refine qaf (fun d w'=>d = !(G&&decide (rightV n k v))/\Own [] w w' [(ab,.cells (ndV x) ND (0,0)),(r1,.cells (ndV zeroX) ND (0,0))]/\NodeB (List.range af.heap.size++B) w' x n B) ?_ ?_;apply qaa<;>intro y;have y:G=false:=(by simpa using y);exact⟨by rw[y];rfl,h,hN⟩;have y:G=true:=(by simpa using y);obtain⟨q1,q2,q3⟩:=aA y;refine oC h 0 rfl x rfl ?_;have aM:NodeR [] aL x n:=hN.rd (fun _ _ h=>(nomatch h)) fun _ h=>nomatch h;exact qo3 (x:=x) aM q1 q2 q3 fun a4 aB=>⟨by rw[y,Bool.true_and],h.frame0 aB,hN.frame0 aB⟩;rintro d a5 ⟨rfl,h,hN⟩;have A:readNV kind b k v=if (G&&decide (rightV n k v))=true then (n,0) else (zeroN,2):=by
  by_cases k3:kind=3;subst k3;rw[quH O];have e:G=decide ((b.drop 2).length=countV b*(k+v)):=(by rw[U];exact decide_eq_decide.2 ⟨fun h=>h.elim (·.2) fun h=>absurd h.1 (by decide),fun h=>.inl ⟨rfl,h⟩⟩);by_cases z:G=true;have V:=hn z;rw[if_pos rfl] at V;rw[V,z,Bool.true_and];have hl:(b.drop 2).length=countV b*(k+v):=zC (e▸z);by_cases hr:rightV (leafN k v b) k v;rw[if_pos ⟨hl,hr⟩,if_pos (zZ hr)];rw[if_neg fun h=>hr h.2,if_neg (by rw[zU hr];decide)];have aa:G=false:=(by simpa using z);rw[aa,Bool.false_and,if_neg (show ¬(false=true) by decide)];have hl:¬(b.drop 2).length=countV b*(k+v):=zB (e▸aa);rw[if_neg fun h=>hl h.1];by_cases k4:kind=4;subst k4;rw[qs4 O];have e:G=decide (1<=countV b/\(b.drop 2).length=countV b*4+(countV b-1)*k):=(by rw[U];exact decide_eq_decide.2 ⟨fun h=>h.elim (fun h=>absurd h.1 (by decide)) (·.2),fun h=>.inr ⟨rfl,h⟩⟩);by_cases z:G=true;have V:=hn z;rw[if_neg k3] at V;rw[V,z,Bool.true_and];have hl:=zC (e▸z);by_cases hr:rightV (innerN k b) k v;rw[if_pos ⟨hl,hr⟩,if_pos (zZ hr)];rw[if_neg fun h=>hr h.2,if_neg (by rw[zU hr];decide)];have aa:G=false:=(by simpa using z);rw[aa,Bool.false_and,if_neg (show ¬(false=true) by decide)];have hl:=zB (e▸aa);rw[if_neg fun h=>hl h.1];rw[quG k3 k4];have z:G=false:=by rw[U,zU];rintro (h|h);exact k3 h.1;exact k4 h.1
  rw[z,Bool.false_and,if_neg (show ¬(false=true) by decide)]
 have aN:∀c∈B,c∉[r1]:=fun c u hm=>by have:=E c u;rw[zE.1 hm] at this;omega
 apply qaa<;>intro y;refine aq ?_ (h.sub (sublist_cons_self _ _));rw[A,if_neg (by rw[zT] at y;rw[y];decide)];rw[yD] at y;refine oC h 0 rfl x rfl<|oD h 1 rfl (ndV x) fun aO aC aP=>oC aC 1 rfl x rfl ?_;rw[if_pos y] at A
 have:=kk x B aO (by rw[A];exact (hN.frame aP aN (fun c u=>.inl (by rw[zE.1 u];simp[ax])) (fun c u=>.inl u)).weak fun c u=>.inl (by rcases zD.1 u with u|u;exact zH _ (mem_range.2 (yC (mem_range.1 u) ay));exact zI _ u)) aC.fr (fun c u=>zL ay (E c u))
 rw[A] at this;exact this
end
end
end
section
open Go Go.Pt List
open Go.IntKind (wrap)
variable {db:Option Addr} {w:World}
def qc2{cl:List Cell}{b off:Nat}{cs:Array Value}{T:TypeId}{h:Nat×Nat}{K:HL cl->Prop}(u:w.heap[b]?=some (.cells cs T h))(x:HL cl)(y:(cs.toList.drop off).take cl.length=HL.mk cl x)(k:K x):Pt.ldA cl ⟨b,off,none⟩ w K:=
 ⟨x,qbi u _ off 0 (by rw[HL.mk_length];exact y),k⟩
attribute [local irreducible] ld ldA ldV fld fldA newZ st new idx idxS idxA slc slcS slcP mkS chk nn call callV inv run runQ runU join loop held ext rng undefer s2a nxt ent IntKind.wrap
def PgX.setRoots{w':World}{X:List Nat}{pb:Nat}{M:PgM}{fb defb mb:Nat}{sl sn:Sl}{F1 F2:List Nat}{y:List (Int×Leaf)}{roots:List Int}(h:PgX w X pb db M fb defb mb sl sn F1 F2 y)(z:roots.length=24)(A:w'.heap[pb]?=some (.cells (pgCells db M.sup sl sn M.turn M.over fb defb mb roots) PGT (0,0)))(f:Fr [pb] w w'):PgX w' X pb db { M with roots:=roots } fb defb mb sl sn F1 F2 y where
 cell:=A
 free:=h.free.frame f fun b u=>by simpa using (h.sep.2.1 b u).1
 deferred:=h.deferred.frame f fun b u=>by simpa using (h.sep.2.2 b u).1
 map:=h.map.frame f (by simpa using fun e=>h.sep.1 e.symm)
 fresh:=h.fresh
 rows:=h.rows.frame (f.mono fun i C _=>by rw[zE.1 C];simp) fun b u=>.inl u
 xlt:=fun b u=>yC (h.xlt b u) f.size
 xsep:=h.xsep
 sep:=h.sep
 suplen:=h.suplen
 rootlen:=z
def qsY{sup:Sup}{sl sn:Sl}{turn:Int}{over:Bool}{fb defb mb:Nat}{roots:List Int}(E:sup.2.length=27)(J:roots.length=24){t:Nat}(K:t<8){h y z:Int}: splice (pgCells db sup sl sn turn over fb defb mb roots) (36+3*t) [.u h,.u y,.u z]=pgCells db sup sl sn turn over fb defb mb (roots.take (3*t)++[h,y,z]++roots.drop (3*t+3)):=by
 have C:roots=roots.take (3*t)++(roots.drop (3*t)).take 3++roots.drop (3*t+3):=by rw[zV,<- xB,xC,xC]
 have:=qa8 (A:=(.pointer db::supV sup.1 sup.2)++pgRest sl sn turn over fb defb mb++(roots.take (3*t)).map (Value.int .u32)) (X:=((roots.drop (3*t)).take 3).map (Value.int .u32)) (Y:=[.u h,.u y,.u z]) (Z:=(roots.drop (3*t+3)).map (Value.int .u32)) (by rw[zK,yK,yB];show min 3 _=3;omega)
 have G:((.pointer db::supV sup.1 sup.2)++pgRest sl sn turn over fb defb mb++(roots.take (3*t)).map (Value.int .u32)).length=36+3*t:=(by rw[zF,zF,qa2 E,zK,yK];show 29+7+_=_;omega);rw[G] at this;unfold pgCells;have I:roots.map (Value.int .u32)=(roots.take (3*t)).map (Value.int .u32)++((roots.drop (3*t)).take 3).map (Value.int .u32)++(roots.drop (3*t+3)).map (Value.int .u32):=(by rw[<- xJ,<- xJ,<- C]);rw[I];simp only[xJ,xK,map_nil];simp only[zV] at this⊢;exact this
section
variable {w:World} {X:List Nat} {pb:Nat} {db:Option Addr} {F:List Nat} {M:PgM}
def qqP{t z A C:Int}{K:Int->WP}(h:PagerAt w X pb db F M)(hk:∀w',PagerAt w' X pb db F (setRootM M t z A C).2->Fr F w w'->K (setRootM M t z A C).1 w'): cW 107 [.pointer (pW pb),.i t,.agg #[.u z,.u A,.u C]] [.one .i] w K:=by
 have h0:=h;obtain⟨fb,defb,mb,sl,sn,F1,F2,fs,rfl,G⟩:=h;refine qgB ?_;unfold qdx;have E:∀ {e:Int} {w':World},setRootM M t z A C=(e,M)->Fr [] w w'->K e w':=by
  intro e w' he hf
  have:=hk w' (by rw[he];exact h0.frame0 hf) (hf.mono (fun b I=>by cases I))
  rw[he] at this;exact this
 refine oB (oE [] w) fun r w1 e1 V ho=>?_;have J:=G.frame0 V;refine qae (qai J.cell M.over (qc6 G.suplen) ?_);refine qaa (fun y=>E (by rw[setRootM,if_pos y]) V) (fun y=>?_);have O:¬M.over=true:=(by rw[y];decide);refine qaf (fun b w'=>b=decide (t<0\/t>7)/\w'=w1) ?_ ?_;refine qaa (fun y=>⟨by rw[zZ (Or.inl (zC y))],rfl⟩) (fun y=>?_)
 have:=zB y
 refine⟨decide_eq_decide.2 ⟨fun h=>.inr (by omega),fun h=>by omega⟩,rfl⟩;rintro b w2 ⟨rfl,rfl⟩;refine qaa (fun y=>E (by rw[setRootM,if_neg O,if_pos (zC y)]) V) (fun y=>?_);have hr:=zB y;obtain⟨n,rfl⟩:∃n:Nat,t=n:=⟨t.toNat,by omega⟩;have aa:n<8:=(by omega);have R:setRootM M n z A C=(0,{ M with roots:=M.roots.take (3*n)++[z,A,C]++M.roots.drop (3*n+3) }):=(by rw[setRootM,if_neg O,if_neg hr,zJ]);have ab:=ho.drew;have U:=J.frame0 (Fr.refl [] w2).drew;refine oC ab 0 rfl (z,A,C) rfl<|qae<|qaN (by omega) ?_;simp only[Addr.add_mk,zJ];refine qd2 U.cell (pgCells db M.sup sl sn M.turn M.over fb defb mb (M.roots.take (3*n)++[z,A,C]++M.roots.drop (3*n+3))) (by show splice _ (0+33+3+n*3) _=_;rw[show 0+33+3+n*3=36+3*n by omega];exact qsY G.suplen G.rootlen aa) rfl (by rw[qng G.suplen,G.rootlen];exact zL (show 0+33+3+n*3+3<=60 by omega) (zM 60)) fun w3 ac f3=>?_;have hl:(M.roots.take (3*n)++[z,A,C]++M.roots.drop (3*n+3)).length=24:=by
  have:=G.rootlen
  simp only[zF,yK,yB,yH,length_nil];omega
 have:=hk w3 (by rw[R];exact⟨fb,defb,mb,sl,sn,F1,F2,fs,rfl,U.setRoots hl ac f3⟩) ((V.drew.mono fun b I=>nomatch I).trans (f3.mono fun b I _=>by rw[zE.1 I];simp))
 rw[R] at this;exact this
def rootM (M:PgM) (t:Int):Int×Int×Int:=if t<0\/t>7 then (0,0,0) else (M.roots.getD (3*t.toNat) 0,M.roots.getD (3*t.toNat+1) 0,M.roots.getD (3*t.toNat+2) 0)
def qve{t:Int}{K:Int×Int×Int->WP}(h:PagerAt w X pb db F M)(I:∀w',Fr [] w w'->K (rootM M t) w'): cW 19 [.pointer (pW pb),.i t] [.agg [.u,.u,.u]] w K:=by
 obtain⟨fb,defb,mb,sl,sn,F1,F2,fs,rfl,C⟩:=h;refine qiw ?_;unfold qeI;refine oB (oE [] w) fun r O e1 R J=>?_;have E:=C.frame0 R;refine qaf (fun b w'=>b=decide (t<0\/t>7)/\w'=O) ?_ ?_;refine qaa (fun z=>⟨by rw[zZ (Or.inl (zC z))],rfl⟩) (fun z=>?_)
 have:=zB z
 refine⟨decide_eq_decide.2 ⟨fun h=>.inr (by omega),fun h=>by omega⟩,rfl⟩;rintro b w2 ⟨rfl,rfl⟩;apply qaa<;>intro z;refine oD J 0 rfl #[.u 0,.u 0,.u 0] fun G y U=>oC y 0 rfl (0,0,0) rfl ?_
 have:=I G y.fr
 rw[rootM,if_pos (zC z)] at this;exact this;have V:=zB z;obtain⟨n,rfl⟩:∃n:Nat,t=n:=⟨t.toNat,by omega⟩;have aa:n<8:=(by omega);have ab:=C.rootlen;refine qae<|qaN (by omega) ?_;simp only[Addr.add_mk,zJ];have e3:((M.roots.map (Value.int .u32)).drop (3*n)).take 3=[.u (M.roots.getD (3*n) 0),.u (M.roots.getD (3*n+1) 0),.u (M.roots.getD (3*n+2) 0)]:=by rw[zX (by rw[zK];omega),zX (by rw[zK];omega),zX (by rw[zK];omega)];simp only[take_succ_cons,take_zero,getElem_map];rw[getElem_eq_getD 0,getElem_eq_getD 0,getElem_eq_getD 0]
 refine qc2 E.cell (M.roots.getD (3*n) 0,M.roots.getD (3*n+1) 0,M.roots.getD (3*n+2) 0) ?_ ?_;have hd:=qhV (db:=db) (sup:=M.sup) (sl:=sl) (sn:=sn) (turn:=M.turn) (over:=M.over) (fb:=fb) (defb:=defb) (mb:=mb) (roots:=M.roots) C.suplen C.rootlen;have A:(pgCells db M.sup sl sn M.turn M.over fb defb mb M.roots).toList.drop 36=M.roots.map (Value.int .u32):=by
  rw[<- hd,zS]
  have:=qng (db:=db) (sup:=M.sup) (sl:=sl) (sn:=sn) (turn:=M.turn) (over:=M.over) (fb:=fb) (defb:=defb) (mb:=mb) (roots:=M.roots) C.suplen
  rw[yB,Array.length_toList];omega
 rw[show 0+33+3+n*3=36+3*n by omega,<- xB,A];exact e3;refine oD J 0 rfl #[.u (M.roots.getD (3*n) 0),.u (M.roots.getD (3*n+1) 0),.u (M.roots.getD (3*n+2) 0)] fun G y U=>oC y 0 rfl (M.roots.getD (3*n) 0,M.roots.getD (3*n+1) 0,M.roots.getD (3*n+2) 0) rfl ?_
 have:=I G y.fr
 rw[rootM,if_neg V,zJ] at this;exact this
end
def qtx{dbk pb:Nat}{X FD F:List Nat}{D:DiskM}{M:PgM}{k:Nat}{n:Int}{K:Int×Sl×Int->WP}(U:DiskAt w dbk FD D)(J:Lim D k)(O:PagerAt w X pb (dbOf dbk M) F M)(hv:Hv w)(hn:U32 n)(hl:M.lists.length<=1000000)(hb:∀e∈M.fresh,e.2.2.length<=100000)(hk:∀s w',(∀G:List Nat,(∀b∈G,b<w.heap.size)->RdB G w' s (pagerReadM D M n).2.1)->Fr [] w w'->K ((pagerReadM D M n).1,s,(pagerReadM D M n).2.2) w'): cW 91 [.pointer (pW pb),.u n] [.one .b,.one .slice,.one .i] w K:=by
 have V:=O;obtain⟨fb,defb,mb,sl,sn,F1,F2,fs,rfl,R⟩:=O;refine qiu ?_;unfold qeG;have aa:∀ {a:Int} {e:Int} {w':World},pagerReadM D M n=(a,[],e)->Fr [] w w'->K (a,⟨none,0,0⟩,e) w':=fun he f=>by
  have:=hk ⟨none,0,0⟩ _ (fun G hG=>by rw[he];exact .nil _ _ _ _) f
  rw[he] at this;exact this
 refine qae (qai R.cell M.over (qc6 R.suplen) ?_);refine qaa (fun A=>aa (by rw[pagerReadM,if_pos A]) (.refl _ _)) (fun A=>?_);have C:¬M.over=true:=(by rw[A];decide);have al:dbOf dbk M=pW dbk:=if_neg C;refine qae ?_;simp only[Addr.add_mk];refine qai R.cell (some mb) (qbP R.suplen) ?_;have h:look n M.fresh=(look n fs).map fun q=>(q.1,q.2.1,q.2.2.2):=(by rw[R.fresh];exact qcm (fun e:Leaf=>(e.1,e.2.2)) n fs);refine qjT R.map.at (fun q hq=>?_) (fun hq=>?_);rw[hq] at h;have h:look n M.fresh=some (q.1,q.2.1,q.2.2.2):=h;refine oB (oE [] w) fun r w1 e1 f1 ho=>oD ho 0 rfl #[.b q.2.1,q.2.2.1.v] fun w2 I f2=>?_;have E:=I.drew;refine cond_true rfl<|oA E 0 rfl q.2.1 rfl<|oA E 0 rfl q.2.2.1 rfl ?_;have an:=(qa1 hq).2;have ao:=R.rows.bodies _ an;have ad:=(qa1 h).2;refine qa3 (ao.frame0 E.fr) (zL (hb _ ad) (by decide)) fun s2 B2 w3 b2 f3 n2 _ _=>?_;have ae:=E.frame0 f3;refine qaj (ae.cell 0 rfl rfl) ?_;have y:pagerReadM D M n=(q.2.1,q.2.2.2,0):=by rw[pagerReadM,if_neg C,h]
 have:=hk s2 w3 (fun G hG=>by rw[y];exact Buf.rds qat b2 fun b hb hm=>by have:=n2 b hb;have:=hG b hm;have:=E.fr.size;omega) ae.fr
 rw[y] at this;exact this;rw[hq] at h;have h:look n M.fresh=none:=h;refine oB (oE [] w) fun r w1 e1 f1 ho=>oD ho 0 rfl #[.b 0,.slice none 0 0] fun w2 I f2=>cond_false rfl<|qo2 (V.frame0 I.fr) hl fun w3 f3=>?_;have z:=I.fr.trans f3;have af:=R.frame0 z;apply qaa<;>intro A;have hu:usedV M n=false:=(by simpa using A);exact aa (by rw[pagerReadM,if_neg C,h];exact if_pos hu) z;have hu:¬usedV M n=false:=(by simpa using A);rw[al] at af;refine qae (qai af.cell (pW dbk) qsX ?_);rw[wi' n (by have:=hn.1;have:=hn.2;omega)];refine qhp (U.frame0 z) J.ok fun s5 B5 w5 b5 f5 n5=>?_;apply qaa<;>intro A;have he:(readV D n).2≠0:=(by simpa using A);exact aa (by rw[pagerReadM,if_neg C,h];exact (if_neg hu).trans (if_pos he)) (z.trans f5);have he:¬(readV D n).2≠0:=(by simpa using A);have ar:=qbW J.ok n;refine qne (b5.rds qat (S:=[]) (by simp)) (hv.frame0 (z.trans f5)) ar.1 (by omega) fun s6 B6 w6 b6 f6 n6=>?_;have y:pagerReadM D M n=openV n (readV D n).1:=by rw[pagerReadM,if_neg C,h];exact (if_neg hu).trans (if_neg he)
 have:=hk s6 w6 (fun G hG=>by rw[y];exact Buf.rds qat b6 fun b hb hm=>by have:=n6 b hb;have:=hG b hm;have:=(z.trans f5).size;omega) ((z.trans f5).trans f6)
 rw[y] at this;exact this
end
section
open Go Go.Pt List
open Go.IntKind (wrap)
def Lim.new{n:Nat}(h:n<=4096):Lim (newM n) 0:=⟨qwZ h,by simp[newM],by simp[newM]⟩
def pgs (n:Nat):List Int:=(allV n).take (needP (allV n).length)
def nums (n:Nat):List Int:=(allV n).drop (needP (allV n).length)
def madeM (n:Nat):PgM:=begunM (fmtSup n) (pgs n) (nums n) 1 false (nums n)
def qwW{n:Nat}(h:8<=n)(u:n<=4096):(madeM n).Wf:=by have e:(fmtSup n).2.getD 0 0=n:=(by show wrap .u32 (n:Int)=_;exact qa5 _);exact qfc (by rw[e];exact ql2) (by rw[e];omega) (qiZ h u).u32
structure Made (D:DiskM) (n:Nat):Prop where
 quiet:Quiet D
 size:D.size=n
 waits:D.waits=[]
 opens:Opens D (fmtSup n) (pgs n) (nums n)
 fmt:formatM (newM n)=(D,0)
 zero:view D 0=zs 512
end
section
open Go Go.Pt List
open Go.IntKind (wrap)
open Classical
variable {P:List Int} {t:Int}
def rootTo (t:Int) (s:(Int×Int)×PgM) (u h:Int):Int×PgM:=if s.1.2≠0 then (s.1.2,s.2) else setRootM s.2 t s.1.1 u h
noncomputable def growN (k v:Nat) (t:Int) (r:Int×Int×Int) (x:(Grown×Int)×PgM):Int×PgM:=
 if x.1.2≠0 then (x.1.2,x.2)
 else if x.1.1.other≠0 then rootTo t (storeN k v x.2 0 ⟨false,[x.1.1.key],[],[x.1.1.page,x.1.1.other]⟩) (if x.1.1.fresh then wrap .u32 (r.2.1+1) else r.2.1) (wrap .u32 (r.2.2+1))
 else setRootM x.2 t x.1.1.page (if x.1.1.fresh then wrap .u32 (r.2.1+1) else r.2.1) r.2.2
noncomputable def insertN (D:DiskM) (k v:Nat) (t:Int) (key val:Key) (f:Nat) (M:PgM):Int×PgM:=
 if (rootM M t).1=0 then rootTo t (storeN k v M 0 (lfOf [(key,val)])) 1 1 else growN k v t (rootM M t) (putN D k v key val f M (rootM M t).1)
noncomputable def shrinkN (k v:Nat) (t:Int) (r:Int×Int×Int) (x:(NodeM×Int)×PgM):Int×PgM:=
 if x.1.2≠0 then (x.1.2,x.2)
 else if x.1.1.leaf=true/\x.1.1.keys.length=0 then (if (dropV x.2 r.1).1≠0 then ((dropV x.2 r.1).1,(dropV x.2 r.1).2) else setRootM (dropV x.2 r.1).2 t 0 0 0)
 else if x.1.1.leaf=false/\x.1.1.kids.length=1 then (if (dropV x.2 r.1).1≠0 then ((dropV x.2 r.1).1,(dropV x.2 r.1).2) else setRootM (dropV x.2 r.1).2 t (x.1.1.kids.getD 0 0) (wrap .u32 (r.2.1-1)) (wrap .u32 (r.2.2-1)))
 else rootTo t (storeN k v x.2 r.1 x.1.1) (wrap .u32 (r.2.1-1)) r.2.2
noncomputable def removeN (D:DiskM) (k v:Nat) (t:Int) (key:Key) (f:Nat) (M:PgM):Int×PgM:=shrinkN k v t (rootM M t) (cutN D k v key f M (rootM M t).1)
def TreeIs (D:DiskM) (M:PgM) (k v:Nat) (t:Int) (L:Prs) (P:List Int):Prop:=
 (rootM M t=(0,0,0)/\L=[]/\P=[])\/∃h n p,p≠0/\rootM M t=(p,(L.length:Int),((h+1:Nat):Int))/\Has D M k v h ⟨p,n,L,P⟩
structure RStep (D:DiskM) (M M':PgM) (t:Int) (P P':List Int):Prop where
 step:Step D M { M' with roots:=M.roots } P P'
 wf:M'.Wf
 len:M'.roots.length=24
 others:∀ t':Int,t'≠t->rootM M' t'=rootM M t'
section
variable {D:DiskM} {M M':PgM} {k v:Nat}
def qvY{a b c:Int}(G:0<=t/\t<8)(A:M.over=false)(I:M.roots.length=24):∃R,setRootM M t a b c=(0,{ M with roots:=R })/\R.length=24/\rootM { M with roots:=R } t=(a,b,c)/\(∀y:Int,y≠t->rootM { M with roots:=R } y=rootM M y)/\∀x∈R,x∈M.roots\/x=a\/x=b\/x=c:=by
 obtain⟨n,rfl⟩:∃n:Nat,t=n:=⟨t.toNat,by omega⟩;have J:n<8:=(by omega);have e:setRootM M n a b c=(0,{ M with roots:=M.roots.take (3*n)++[a,b,c]++M.roots.drop (3*n+3) }):=by rw[setRootM,if_neg (by rw[A];decide),iN,zJ]
 have C:(M.roots.take (3*n)).length=3*n:=(by rw[yK];omega);have h:∀i,(M.roots.take (3*n)++[a,b,c]++M.roots.drop (3*n+3)).getD i 0=if i=3*n then a else if i=3*n+1 then b else if i=3*n+2 then c else M.roots.getD i 0:=fun i=>by rw[zV,yQ];by_cases h1:i<3*n;rw[yY (by omega),xA,if_pos h1,iN,iN,iN,yQ];rw[yX (by omega),C];by_cases h2:i=3*n;rw[if_pos h2,h2,Nat.sub_self];rfl;rw[if_neg h2];by_cases h3:i=3*n+1;rw[if_pos h3,h3,show 3*n+1-3*n=1 by omega];rfl;rw[if_neg h3];by_cases h4:i=3*n+2;rw[if_pos h4,h4,show 3*n+2-3*n=2 by omega];rfl;rw[if_neg h4,yX (by simp;omega),yZ,yQ];congr 2;simp;omega
 refine⟨_,e,?_,?_,fun y z=>?_,fun x u=>?_⟩;simp only[zF,yK,yB,yH,length_nil];omega;rw[rootM,iN,zJ];dsimp only;rw[h,h,h,if_pos rfl,iN,if_pos rfl,iN,iN,if_pos rfl];unfold rootM;by_cases hr':y<0\/y>7;rw[if_pos hr',if_pos hr'];rw[if_neg hr',if_neg hr'];dsimp only;have E:y.toNat≠n:=fun e=>z (by omega);rw[h,h,h,iN,iN,iN,iN,iN,iN,iN,iN,iN];rcases zD.1 u with u|u;rcases zD.1 u with u|u;exact .inl (yU u);simp only[zG,xV,or_false] at u;exact .inr u;exact .inl (yT u)
def qqH{R:List Int}(h:M.Wf)(u:∀x∈R,U32 x):({ M with roots:=R }:PgM).Wf:=⟨h.n4,h.u32,u,h.namedS,h.named,h.freeS,h.defS,h.nodup,h.range,h.body⟩
def Has.roots{h:Nat}{s:Seg}{R:List Int}(u:Has D M k v h s):Has D { M with roots:=R } k v h s:=u.frame fun x _=>rfl
def Step.root{P':List Int}{a b c:Int}(z:0<=t/\t<8)(A:M.roots.length=24)(h:Step D M M' P P')(C:U32 a)(E:U32 b)(G:U32 c): ∃R,setRootM M' t a b c=(0,{ M' with roots:=R })/\RStep D M { M' with roots:=R } t P P'/\rootM { M' with roots:=R } t=(a,b,c):=by obtain⟨R,e,I,J,K,O⟩:=qvY (a:=a) (b:=b) (c:=c) z h.over (by rw[h.roots];exact A);refine⟨R,e,⟨?_,qqH h.wf fun x U=>?_,I,fun V y=>?_⟩,J⟩;have e':({ M' with roots:=M.roots }:PgM)=M':=(by rw[<- h.roots]);show Step D M { M' with roots:=M.roots } P P';rw[e'];exact h;rcases O x U with u|u|u|u;exact h.wf.roots x u;rw[u];exact C;rw[u];exact E;rw[u];exact G;rw[K V y];unfold rootM;rw[h.roots]
def Has.counts:∀ {h:Nat} {s:Seg},Has D M k v h s->h+1<=s.prs.length/\s.pages.length+1<=2*s.prs.length
 | 0,s,y=>by have C:=length_pos_iff.2 y.ne;rw[y.1];simp;omega
 | h+1,s,⟨z,O,C,E,G,I,R,U,J⟩=>by
  have K:=I.right.innerTwo.1;rw[E,G];have key:∀l:List Ent,(∀e∈l,Has D M k v h e.2)->l.length*(h+1)<=(l.flatMap (·.2.prs)).length/\(l.flatMap (·.2.pages)).length+l.length<=2*(l.flatMap (·.2.prs)).length:=by
   intro l;induction l with
   | nil=>intro _;exact⟨by simp,by simp⟩
   | cons a l ih=>
    intro A;have i:=ih fun e u=>A e (zN _ u);have j:=(A a (by simp)).counts;rw[yG,yG,zF,zF,yH,xR];omega
  have:=key z fun e u=>(J e u).1
  have V:2*(h+1)<=z.length*(h+1):=Nat.mul_le_mul_right _ K;rw[yH];omega
def Has.least(A:CapsOk k v):∀ {h:Nat} {s:Seg},Has D M k v h s->minOf k v h<=s.size->(capsV k v).1 / 2*((capsV k v).2 / 2)^h<=s.prs.length
 | 0,s,C,u=>by rw[Nat.pow_zero,xQ,<- C.2.1];exact u
 | h+1,s,⟨z,O,E,G,R,U,V,h6,I⟩,u=>by
  rw[G];have key:∀l:List Ent,(∀e∈l,Has D M k v h e.2/\minOf k v h<=e.2.size)->l.length*((capsV k v).1 / 2*((capsV k v).2 / 2)^h)<=(l.flatMap (·.2.prs)).length:=by
   intro l;induction l with
   | nil=>intro _;simp
   | cons a l ih=>
    intro y;have i:=ih fun e J=>y e (zN _ J);have j:=(y a (by simp)).1.least A (y a (by simp)).2;rw[yG,zF,yH,xR];omega
  have K:(capsV k v).2 / 2<=z.length:=(by rw[<- E];exact u);refine zL ?_ (key z I);rw[Nat.pow_succ,<- Nat.mul_assoc,Nat.mul_comm];exact Nat.mul_le_mul_right _ K
def Has.root_least(y:CapsOk k v){h:Nat}{s:Seg}(z:Has D M k v (h+1) s):2*((capsV k v).1 / 2*((capsV k v).2 / 2)^h)<=s.prs.length:=by
 obtain⟨A,K,O,C,R,E,U,V,G⟩:=z;have I:=E.right.innerTwo.1;rw[C];have key:∀l:List Ent,(∀e∈l,Has D M k v h e.2/\minOf k v h<=e.2.size)->l.length*((capsV k v).1 / 2*((capsV k v).2 / 2)^h)<=(l.flatMap (·.2.prs)).length:=by
  intro l;induction l with
  | nil=>intro _;simp
  | cons a l ih=>
   intro u;have i:=ih fun e J=>u e (zN _ J);have j:=(u a (by simp)).1.least y (u a (by simp)).2;rw[yG,zF,yH,xR];omega
 exact zL (Nat.mul_le_mul_right _ I) (key A G)
def qi3(hc:CapsOk k v){key val:Key}{L:Prs}(ht:0<=t/\t<8)(hk:key.length=k/\IsB key)(hv:val.length=v/\IsB val)(hT:TreeIs D M k v t L P)(hW:M.Wf)(ho:M.over=false)(hr:M.roots.length=24)(hn:P.Nodup)(hL:L.length<=1000000)(hf:2*(rootM M t).2.2.toNat+1<=M.free.length): ∃M' P',insertN D k v t key val (rootM M t).2.2.toNat M=(0,M')/\TreeIs D M' k v t (insP key val L) P'/\RStep D M M' t P P'/\M.free.length<=M'.free.length+(2*(rootM M t).2.2.toNat+1):=by
 have aV:=qgL (k:=k) (v:=v);rcases hT with ⟨e0,rfl,rfl⟩|⟨h,n,p,aH,er,hs⟩;unfold insertN;rw[e0,if_pos rfl];have aI:PrsOk k v [(key,val)]:=fun x hx=>by rw[zE.1 hx];exact⟨hk.1,hv.1,hk.2,hv.2⟩
 have V:=qgU (k:=k) (v:=v) aI (pairwise_singleton _ _) (by simp) (by have:=hc.leaf;simp;omega);obtain⟨q,M1,e1,st,ac,hl,ad⟩:=qjy (D:=D) hW ho V (fun e=>by rw[e] at hf;simp at hf);have hu:=st.has q (by simp);have hq:=qbI st.wf hu;obtain⟨R,e2,rs,y⟩:=st.root (a:=q) (b:=1) (c:=1) ht hr ⟨by omega,hq.2⟩ ⟨by decide,by decide⟩ ⟨by decide,by decide⟩;refine⟨{ M1 with roots:=R },[q],?_,.inr ⟨0,1,q,ad,y,?_⟩,rs,by show M.free.length<=M1.free.length+_;omega⟩;unfold rootTo;rw[e1];dsimp only;rw[if_neg (fun h=>h rfl),e2]
 have:=qfj V ac
 exact this.roots;rw[er] at hf;have al:(((h+1:Nat):Int)).toNat=h+1:=zJ _;dsimp only at hf;rw[al] at hf;have am:=hs.counts;dsimp only at am;obtain⟨g,M1,eg,ok⟩:=treePut hc hk hv h M ⟨p,n,L,P⟩ hs hW ho hn (by
  have h9:=hs.load;obtain⟨N,R,_,V,_⟩:=h9;show n<=1000;cases h with
  | zero=>have:=V.2.2.2.2.2;dsimp only at this;omega
  | succ h=>obtain⟨_,_,_,_,_,_,_,_,h8,_⟩:=V;dsimp only at h8;omega) (by omega)
 have an:=ok.free;have z:=ok.fresh;dsimp only at eg z;have u:((insP key val L).length:Int)=if g.fresh then wrap .u32 ((L.length:Int)+1) else (L.length:Int):=by rw[z];by_cases hm:key∈keysP L;rw[zU (fun h=>h hm),if_neg (by decide),qcj hs.sort hm];rw[zZ hm,if_pos rfl,qbO hm,qa5 _];omega
 have ao:U32 (if g.fresh then wrap .u32 ((L.length:Int)+1) else (L.length:Int)):=by
  rw[<- u];have h1:(insP key val L).length<=L.length+1:=by by_cases hm:key∈keysP L;rw[qcj (show SortP L from hs.sort) hm];omega;rw[qbO hm];exact zM _
  exact⟨by omega,by omega⟩
 unfold insertN;rw[er,if_neg (show ¬p=0 from aH)];dsimp only;rw[al,eg];unfold growN;dsimp only;rw[if_neg (fun h=>h rfl)];rcases ok.res with ⟨af,n',P',hH,st,_⟩|⟨af,n1,J,E,n2,G,C,K,O,ap,aN,aO,aq,ar,aP,aQ,st⟩;rw[if_neg (fun h=>h af)];have hu:=hH.used st.over g.page hH.mem;have hq:=qbI st.wf hu;obtain⟨R,e2,rs,y⟩:=st.root (a:=g.page) (b:=if g.fresh then wrap .u32 ((L.length:Int)+1) else (L.length:Int)) (c:=((h+1:Nat):Int)) ht hr ⟨by omega,hq.2⟩ ao ⟨by omega,by omega⟩;rw[<- u] at y e2;refine⟨{ M1 with roots:=R },P',?_,.inr ⟨h,n',g.page,by omega,y,hH.roots⟩,rs,by show M.free.length<=M1.free.length+_;omega⟩;rw[<- u];exact e2;rw[if_pos af];have a1:=qbI st.wf (K.used st.over g.page K.mem);have a2:=qbI st.wf (O.used st.over g.other O.mem);have au:J≠[]:=K.ne;have av:G≠[]:=O.ne;have ab:SepE [([],(⟨g.page,n1,J,E⟩:Seg)),(g.key,⟨g.other,n2,G,C⟩)]:=
  (SepE.cut2 (A:=[]) (B:=[]) (lo:=[]) (s:=⟨0,0,J++G,[]⟩) (s1:=⟨g.page,n1,J,E⟩) (s2:=⟨g.other,n2,G,C⟩) (m:=g.key) (qnl fun x _=>qgT _) rfl aN aO au av)
 have hp:∀e∈[([],(⟨g.page,n1,J,E⟩:Seg)),(g.key,⟨g.other,n2,G,C⟩)],Has D M1 k v h e.2/\minOf k v h<=e.2.size:=fun e I=>by simp only[zG,xV,or_false] at I;rcases I with rfl|rfl;exact⟨K,aP⟩;exact⟨O,aQ⟩
 have aR:KeysOk k [([],(⟨g.page,n1,J,E⟩:Seg)),(g.key,⟨g.other,n2,G,C⟩)]:=fun e I=>by rw[zE.1 (show e∈[(g.key,(⟨g.other,n2,G,C⟩:Seg))] from I)];exact⟨aq,ar⟩
 have V:=qdN st.wf st.over aR ab (by simp) (by have:=hc.inner;simp;omega) fun e I=>(hp e I).1;obtain⟨q,M2,e1,U,ac,a3,ad⟩:=qjy (D:=D) st.wf st.over V (fun e=>by rw[e] at an;simp at an;omega);have ax:∀e∈[([],(⟨g.page,n1,J,E⟩:Seg)),(g.key,⟨g.other,n2,G,C⟩)],Has D M2 k v h e.2/\minOf k v h<=e.2.size:=fun e I=>
  ⟨(hp e I).1.frame fun x hx=>(U.rest x ((hp e I).1.used st.over x hx) (by simp)).1,(hp e I).2⟩
 have hI:=qcY (h:=h) rfl V ac ab ax;have ay:Step D M1 M2 (E++C) (q::(E++C)):=by
  have:=U.beside (Z:=E++C) st.has (by simpa using st.nodup)
  exact this.perm (by simp) perm_append_comm
 have az:=st.trans ay;have hq:=qbI U.wf (U.has q (by simp));obtain⟨R,e2,rs,y⟩:=az.root (a:=q) (b:=if g.fresh then wrap .u32 ((L.length:Int)+1) else (L.length:Int)) (c:=((h+1+1:Nat):Int)) ht hr ⟨by omega,hq.2⟩ ao ⟨by omega,by omega⟩;have e3:storeN k v M1 0 ⟨false,[g.key],[],[g.page,g.other]⟩=((q,0),M2):=e1;have aS:wrap .u32 ((((h+1:Nat):Int))+1)=((h+1+1:Nat):Int):=(by rw[qa5 _];omega);rw[<- u] at y e2;refine⟨{ M2 with roots:=R },q::(E++C),?_,.inr ⟨h+1,2,q,ad,y,?_⟩,rs,by show M.free.length<=M2.free.length+_;omega⟩;unfold rootTo;rw[e3,aS,<- u];dsimp only;rw[if_neg (fun h=>h rfl),e2];have h9:=hI.roots (R:=R);have e5:[([],(⟨g.page,n1,J,E⟩:Seg)),(g.key,⟨g.other,n2,G,C⟩)].flatMap (·.2.prs)=insP key val L:=(by rw[<- ap];simp);have e6:[([],(⟨g.page,n1,J,E⟩:Seg)),(g.key,⟨g.other,n2,G,C⟩)].flatMap (·.2.pages)=E++C:=(by simp);rw[e5,e6] at h9;exact h9
def qoh(hc:CapsOk k v){key:Key}{L:Prs}(ht:0<=t/\t<8)(hT:TreeIs D M k v t L P)(C:key∈keysP L)(hW:M.Wf)(ho:M.over=false)(hr:M.roots.length=24)(hn:P.Nodup)(hL:L.length<=1000000)(hf:2*(rootM M t).2.2.toNat+1<=M.free.length): ∃M' P',removeN D k v t key (rootM M t).2.2.toNat M=(0,M')/\TreeIs D M' k v t (cutP key L) P'/\RStep D M M' t P P'/\M.free.length<=M'.free.length+(2*(rootM M t).2.2.toNat+1):=by
 rcases hT with ⟨e0,rfl,rfl⟩|⟨h,n,p,aV,er,hs⟩;cases C;rw[er] at hf;have al:(((h+1:Nat):Int)).toNat=h+1:=zJ _;dsimp only at hf;rw[al] at hf;have am:=hs.counts;dsimp only at am;obtain⟨N,m,M1,R,R',ec,hP,hN,st,aC,aW⟩:=treeCut hc h M ⟨p,n,L,P⟩ hs hW ho hn C (by omega);dsimp only at ec hP;subst hP;have A:=hs.sort;dsimp only at A;have aP:(cutP key L).length+1=L.length:=by
  have hm:=(qcn A).2 C;have hi:placeV (keysP L) key<L.length:=by
   have:=(zP.1 hm).1
   simpa using this
  rw[qlV A C,zF,yK,yB];omega
 have aD:wrap .u32 ((L.length:Int)-1)=((cutP key L).length:Int):=(by rw[qa5 _];omega);have ae:U32 ((cutP key L).length:Int):=⟨by omega,by omega⟩;have af:InUse M p:=hs.used ho p (by simp);have an:p∉R:=(nodup_cons.1 hn).1;have E:=(st.rest p af an).2.1;have G:=(st.rest p af an).2.2;have ag:Step D M M1 (p::R) (p::R'):=st.beside (Z:=[p]) (fun x hx=>by rw[zE.1 hx];exact af) (by simpa using hn);unfold removeN;rw[er];dsimp only;rw[al,ec];unfold shrinkN;dsimp only;rw[if_neg (fun h=>h rfl),aD];have ab:∀ {a b c:Int},U32 a->U32 b->U32 c->∃u I,dropV M1 p=(0,u)/\setRootM u t a b c=(0,{ u with roots:=I })/\RStep D M { u with roots:=I } t (p::R) R'/\rootM { u with roots:=I } t=(a,b,c)/\M1.free.length<=u.free.length/\∀x∈R',pagerReadM D u x=pagerReadM D M1 x:=fun ha hb aE=>by
  obtain⟨u,O,y,J⟩:=qnK (D:=D) st.wf st.over E;have h9:=y.beside (Z:=R') (fun x hx=>st.has x hx) (by
   have:=ag.nodup
   exact (perm_append_singleton p R').nodup_iff.2 this)
  rw[xF] at h9;have h8:=(ag.perm (.refl _) (perm_append_singleton p R').symm).trans h9;obtain⟨I,U,V,z⟩:=h8.root (t:=t) ht hr ha hb aE;exact⟨u,I,O,U,V,z,J,fun x hx=>(y.rest x (st.has x hx) (fun hm=>G (by rw[<- zE.1 hm];exact hx))).1⟩
 cases h with
 | zero=>
  have ah:=hN;have aF:R=[]:=(List.cons.inj (show p::R=[p] from hs.1)).2;subst aF;obtain⟨rfl,hm,rfl,a0,aG,ao⟩:=hN;dsimp only at hm;have K:(lfOf (cutP key L)).keys.length=(cutP key L).length:=zK _;by_cases hz:(cutP key L).length=0;rw[if_pos ⟨rfl,by rw[K];exact hz⟩];have ap:cutP key L=[]:=eq_nil_of_length_eq_zero hz;obtain⟨u,I,O,U,V,z,J,_⟩:=ab (a:=0) (b:=0) (c:=0) ⟨by decide,by decide⟩ ⟨by decide,by decide⟩ ⟨by decide,by decide⟩;rw[O];dsimp only;rw[if_neg (fun h=>h rfl),U];exact⟨_,[],rfl,.inl ⟨z,ap,rfl⟩,V,by show M.free.length<=u.free.length+_;omega⟩;rw[if_neg (fun h=>hz (by rw[<- K];exact h.2)),if_neg (fun h=>nomatch h.1)];obtain⟨q,u,O,y,H2,J⟩:=ah.store st.wf st.over (show 1<=m by omega) E G (by omega);have ai:Step D M u [p] [q]:=ag.trans y;have hq:=qbI y.wf (y.has q (by simp));obtain⟨I,U,V,z⟩:=ai.root (a:=q) (b:=((cutP key L).length:Int)) (c:=((0+1:Nat):Int)) ht hr ⟨by omega,hq.2⟩ ae ⟨by decide,by decide⟩;refine⟨{ u with roots:=I },[q],?_,.inr ⟨0,m,q,by omega,z,H2.roots⟩,V,by show M.free.length<=u.free.length+_;omega⟩;unfold rootTo;rw[O];dsimp only;rw[if_neg (fun h=>h rfl),U]
 | succ h=>
  have ah:=hN;obtain⟨es,hh,rfl,hm,aI,rfl,hk,aG,ao,hp⟩:=hN;have K:(inOf es).kids.length=es.length:=(by show (es.map _).length=_;rw[zK]);have aR:2<=n:=by
   obtain⟨a2,_,g1,_,_,g4,_⟩:=hs
   have:=g4.right.innerTwo
   dsimp only at g1;omega
  dsimp only at aC;rw[if_neg (fun h=>nomatch h.1)];by_cases h1:es.length=1;rw[if_pos ⟨rfl,by rw[K];exact h1⟩];obtain⟨e,rfl⟩:∃e,es=[e]:=by
   match es,h1 with
   | [e],_=>exact⟨e,rfl⟩
  have ar:(inOf [e]).kids.getD 0 0=e.2.page:=rfl;rw[ar];have he:=(hp e (by simp)).1;have hq:=qbI st.wf (he.used st.over e.2.page he.mem);have aK:wrap .u32 ((((h+1+1:Nat):Int))-1)=((h+1:Nat):Int):=(by rw[qa5 _];omega);rw[aK];obtain⟨u,I,O,U,V,z,J,aL⟩:=ab (a:=e.2.page) (b:=((cutP key L).length:Int)) (c:=((h+1:Nat):Int)) ⟨by omega,hq.2⟩ ae ⟨by omega,by omega⟩;rw[O];dsimp only;rw[if_neg (fun h=>h rfl),U];have au:cutP key L=e.2.prs:=(by rw[aI];simp);have av:[e].flatMap (·.2.pages)=e.2.pages:=(by simp);refine⟨_,_,rfl,.inr ⟨h,e.2.size,e.2.page,by omega,z,?_⟩,V,by show M.free.length<=u.free.length+_;omega⟩;rw[au,av];exact (he.frame fun x hx=>aL x (by rw[av];exact hx)).roots;rw[if_neg (fun h=>h1 (by rw[<- K];exact h.2))];have h2:2<=m:=(by omega);obtain⟨q,u,O,y,H2,J⟩:=ah.store st.wf st.over (show 2<=m from h2) E G (by omega);have ai:Step D M u (p::R) ([q]++es.flatMap (·.2.pages)):=Step.kid (Q:=[q]) (hs.used ho) hn st y;have hq:=qbI y.wf (y.has q (by simp));obtain⟨I,U,V,z⟩:=ai.root (a:=q) (b:=((cutP key L).length:Int)) (c:=((h+1+1:Nat):Int)) ht hr ⟨by omega,hq.2⟩ ae ⟨by omega,by omega⟩;refine⟨{ u with roots:=I },[q]++es.flatMap (·.2.pages),?_,.inr ⟨h+1,m,q,by omega,z,H2.roots⟩,V,by show M.free.length<=u.free.length+_;omega⟩;unfold rootTo;rw[O];dsimp only;rw[if_neg (fun h=>h rfl),U]
end
section
def refStep (k v:Key) (d:Bool) (x:Key×Key):Prs×Bool:=((if cmpL x.1 k>=0/\d=false then [(k,v)] else [])++(if cmpL x.1 k≠0 then [x] else []),d||decide (cmpL x.1 k>=0))
def refP (k v:Key):Bool->Prs->Prs
 | d,[]=>if d then [] else [(k,v)]
 | d,x::r=>(refStep k v d x).1++refP k v (refStep k v d x).2 r
def qjl{k v:Key}:∀ {r:Prs},(∀x∈r,KLt k x.1)->refP k v true r=r
 | [],_=>rfl
 | x::r,h=>by
  have u:=h x (by simp);have z:cmpL x.1 k≠0:=fun e=>by have:=qfT e;rw[this] at u;exact qaA u
  rw[refP,refStep];dsimp only;rw[if_neg (fun h=>nomatch h.2),if_pos z,Bool.true_or,qjl fun y A=>h y (zN _ A)];rfl
def qqi{k v:Key}:∀ {l:Prs},SortP l->refP k v false l=insP k v l
 | [],_=>rfl
 | x::r,h=>by
  have C:=yI.1 (show (x.1::keysP r).Pairwise KLt from h);rw[refP,refStep,insP];dsimp only;rw[Bool.false_or];by_cases h2:KLt k x.1;have A:cmpL x.1 k=1:=by
   have:=qcL k x.1
   have:=qhy x.1 k
   have u:cmpL k x.1<0:=h2;omega
  rw[if_pos h2,A,if_pos ⟨by decide,rfl⟩,if_pos (by decide),zZ (by decide),qjl fun y E=>qaB h2 (C.1 y.1 (zY E))];rfl;by_cases u:k=x.1;have A:cmpL x.1 k=0:=(by rw[u];exact qfS _);rw[if_neg h2,if_pos u,A,if_pos ⟨by decide,rfl⟩,if_neg (by decide),zZ (by decide),qjl fun y E=>by rw[u];exact C.1 y.1 (zY E)];rfl;have G:KLt x.1 k:=by rcases qnV k x.1 with z|z|z;exact absurd z h2;exact absurd z u;exact z
  have A:cmpL x.1 k<0:=G;rw[if_neg h2,if_neg u,if_neg (fun h=>absurd h.1 (by omega)),iP,zU (by omega),qqi C.2];rfl
def qtN{k:Key}{l:Prs}{i:Nat}(h:i<l.length):cutP k (l.take (i+1))=cutP k (l.take i)++if l[i].1=k then [] else [l[i]]:=by rw[yF h];unfold cutP;rw[filter_append];congr 1;by_cases h2:l[i].1=k;rw[if_pos h2];simp[h2];rw[if_neg h2];simp[h2]
def qbD{D:DiskM}{M:PgM}{k v:Nat}{L:Prs}(y:TreeIs D M k v t L P):(rootM M t).2.2.toNat<=L.length/\P.length<=2*L.length/\(rootM M t).2.1=L.length/\0<=(rootM M t).2.2:=by
 rcases y with ⟨u,rfl,rfl⟩|⟨h,n,p,A,u,z⟩;rw[u];exact⟨zM _,zM _,rfl,Int.le_refl _⟩
 have:=z.counts
 dsimp only at this;rw[u];dsimp only;rw[zJ];omega
def TreeIs.sort{D:DiskM}{M:PgM}{k v:Nat}{t:Int}{L:Prs}{P:List Int}(y:TreeIs D M k v t L P):SortP L/\PrsOk k v L:=by rcases y with ⟨_,rfl,_⟩|⟨h,n,p,A,C,u⟩;exact⟨.nil,fun x z=>nomatch z⟩;exact⟨u.sort,u.prsOk⟩
def qsa(h:good t):∃k v:Nat,shp t=((k:Int),(v:Int))/\CapsOk k v/\1<=k/\k<=24/\1<=v/\v<=108:=by obtain⟨u,y⟩:=h;have:t=0\/t=1\/t=2\/t=3\/t=4\/t=5\/t=6\/t=7:=(by omega);rcases this with rfl|rfl|rfl|rfl|rfl|rfl|rfl|rfl;exact⟨16,88,rfl,⟨by decide,by decide⟩,by decide,by decide,by decide,by decide⟩;exact⟨16,108,rfl,⟨by decide,by decide⟩,by decide,by decide,by decide,by decide⟩;exact⟨16,1,rfl,⟨by decide,by decide⟩,by decide,by decide,by decide,by decide⟩;exact⟨16,16,rfl,⟨by decide,by decide⟩,by decide,by decide,by decide,by decide⟩;exact⟨24,16,rfl,⟨by decide,by decide⟩,by decide,by decide,by decide,by decide⟩;exact⟨24,16,rfl,⟨by decide,by decide⟩,by decide,by decide,by decide,by decide⟩;exact⟨24,65,rfl,⟨by decide,by decide⟩,by decide,by decide,by decide,by decide⟩;exact⟨1,8,rfl,⟨by decide,by decide⟩,by decide,by decide,by decide,by decide⟩
structure Sole (D:DiskM) (M:PgM) (k v c:Nat) (t:Int) (L:Prs) (P:List Int):Prop where
 tree:TreeIs D M k v t L P
 wf:M.Wf
 over:M.over=false
 len:M.roots.length=24
 nodup:P.Nodup
 named:M.Named
 many:M.named.length=c
 use:∀ x,InUse M x->x∈P
section
variable {D:DiskM} {M M':PgM} {k v c:Nat} {t:Int} {L L':Prs} {P P':List Int}
def Sole.next(h:Sole D M k v c t L P)(z:TreeIs D M' k v t L' P')(u:RStep D M M' t P P'):Sole D M' k v c t L' P' where
 tree:=z
 wf:=u.wf
 over:=u.step.over
 len:=u.len
 nodup:=u.step.nodup
 named:=u.step.Named h.named
 many:=by have:=u.step.named;rw[<- h.many,<- this]
 use:=fun x A=>(u.step.use x A).elim id fun y=>absurd (h.use x y.1) y.2
end
def qok{D:DiskM}{n k v:Nat}(K:0<=t/\t<8)(O:8<=n)(R:n<=4096)(G:(madeM n).Wf):Sole D (madeM n) k v ((n-2)-needP (n-2)) t [] []:=by
 have C:(madeM n).roots=zs 24:=rfl;have u:(zs 24).length=24:=(by simp[zs]);have z:∀i,(zs 24).getD i 0=0:=fun i=>by rw[yQ];unfold zs;rw[List.getElem?_replicate];split<;>rfl
 refine⟨.inl ⟨?_,rfl,rfl⟩,G,rfl,by rw[C];exact u,.nil,qcC _ _ _ _ _,?_,fun x y=>?_⟩;unfold rootM;split;rfl;rw[C,z,z,z];show (nums n).length=_;unfold nums;rw[yB,qhs];rcases y with y|y;cases y;obtain⟨I,E,J,A,U,_⟩:=qaC.1 y;have e:(madeM n).sup.2.getD 0 0=n:=(by show wrap .u32 (n:Int)=_;exact qa5 _);rw[e] at E;have h:=qht.2 ⟨I,E⟩;rw[<- xC (needP (allV n).length) (allV n)] at h;rcases zD.1 h with h|h;exact absurd h J;exact absurd h A
end
section
section
variable {D:DiskM} {M M':PgM} {k v c:Nat} {t:Int} {L L':Prs} {P P':List Int}
def Has.pages_lt(E:4<=(capsV k v).1):∀ {h:Nat} {s:Seg},Has D M k v h s->minOf k v h<=s.size->s.pages.length+1<=s.prs.length
 | 0,s,z,A=>by have C:(capsV k v).1 / 2<=s.size:=A;rw[z.2.1] at C;rw[z.1,xI];omega
 | h+1,s,⟨G,R,C,I,J,u,U,V,K⟩,A=>by
  have h8:=u.right.innerTwo.1;rw[I,J];have key:∀l:List Ent,(∀e∈l,Has D M k v h e.2/\minOf k v h<=e.2.size)->(l.flatMap (·.2.pages)).length+l.length<=(l.flatMap (·.2.prs)).length:=by
   intro l;induction l with
   | nil=>intro _;simp
   | cons a l ih=>
    intro y;have i:=ih fun e O=>y e (zN _ O);have j:=Has.pages_lt E (y a (by simp)).1 (y a (by simp)).2;rw[yG,yG,zF,zF,yH];omega
  have:=key G K
  rw[yH];omega
def Has.pages_le(A:4<=(capsV k v).1){h:Nat}{s:Seg}(u:Has D M k v h s):s.pages.length<=s.prs.length:=by
 cases h with
 | zero=>
  have:=length_pos_iff.2 u.ne
  rw[u.1,xI];omega
 | succ h=>
  obtain⟨C,K,O,E,G,y,R,U,I⟩:=u;have V:=y.right.innerTwo.1;rw[E,G];have key:∀l:List Ent,(∀e∈l,Has D M k v h e.2/\minOf k v h<=e.2.size)->(l.flatMap (·.2.pages)).length+l.length<=(l.flatMap (·.2.prs)).length:=by
   intro l;induction l with
   | nil=>intro _;simp
   | cons a l ih=>
    intro z;have i:=ih fun e J=>z e (zN _ J);have j:=Has.pages_lt A (z a (by simp)).1 (z a (by simp)).2;rw[yG,yG,zF,zF,yH];omega
  have:=key C I
  rw[yH];omega
def TreeIs.pages_le(u:4<=(capsV k v).1)(y:TreeIs D M k v t L P):P.length<=L.length:=by rcases y with ⟨z,rfl,rfl⟩|⟨h,n,p,C,z,A⟩;exact zM _;exact A.pages_le u
def Sole.room3(h:Sole D M k v c t L P)(u:4<=(capsV k v).1)(A:3*L.length+1<=c):2*(rootM M t).2.2.toNat+1<=M.free.length:=by have y:=h.named.length_eq;rw[zF,h.many] at y;have C:(M.fresh.map (·.1)).length<=P.length:=List.Nodup.length_le_of_subset h.wf.keysNodup fun x z=>h.use x (.inl z);have E:=h.tree.pages_le u;have G:=(qbD h.tree).1;omega
def Sole.insert3{key val:Key}(h:Sole D M k v c t L P)(u:CapsOk k v)(y:4<=(capsV k v).1)(z:0<=t/\t<8)(A:key.length=k/\IsB key)(C:val.length=v/\IsB val)(E:3*L.length+1<=c)(J:L.length<=100000): ∃M' P',insertN D k v t key val (rootM M t).2.2.toNat M=(0,M')/\Sole D M' k v c t (insP key val L) P':=by obtain⟨M',P',e,G,I,_⟩:=qi3 u z A C h.tree h.wf h.over h.len h.nodup (by omega) (h.room3 y E);exact⟨M',P',e,h.next G I⟩
end
end
section
section
variable {D D':DiskM} {M M':PgM} {k v:Nat} {t:Int} {L:Prs} {P:List Int}
def Has.frameD:∀ {h:Nat} {s:Seg},Has D M k v h s->(∀x∈s.pages,pagerReadM D' M' x=pagerReadM D M x)->Has D' M' k v h s
 | 0,s,⟨y,A,u,C⟩,z=>⟨y,A,u,by rw[z s.page (by rw[y];simp)];exact C⟩
 | h+1,s,⟨I,J,y,A,u,C,K,O,G⟩,z=>⟨I,J,y,A,u,C,by rw[z s.page (by rw[u];simp)];exact K,O,fun e E=>⟨(G e E).1.frameD fun x R=>z x (by rw[u];exact zN _ (yJ.2 ⟨e,E,R⟩)),(G e E).2⟩⟩
structure Calm (D:DiskM) (M:PgM) (b q:Nat):Prop where
 quiet:Quiet D
 waits:D.waits=[]
 size:D.size=b
 blocks:M.sup.2.getD 0 0=b
 b8:8<=b
 wf:M.Wf
 named:M.Named
 over:M.over=false
 len:M.roots.length=24
 seq:0<=M.sup.1/\M.sup.1<=q
 turn:0<=M.turn/\M.turn<=q
structure Kept (D:DiskM) (M:PgM) (D':DiskM) (M':PgM):Prop where
 roots:M'.roots=M.roots
 use:∀ x,InUse M' x↔InUse M x
 read:∀ x,InUse M x->pagerReadM D' M' x=pagerReadM D M x
end
end
end
section
open Go Go.Pt List
open Go.IntKind (wrap)
attribute [local irreducible] ld ldA ldV fld fldA newZ st new idx idxS idxA slc slcS slcP mkS chk nn call callV inv run runQ runU join loop held ext rng undefer s2a nxt ent IntKind.wrap
variable {F':List Nat} {K:Int->WP} {body:List Int}
structure TW (dbk pb:Nat) (FD:List Nat) (D:DiskM) (j:Nat) (w:World) (Y F:List Nat) (M:PgM):Prop where
 disk:DiskAt w dbk FD D
 lim:Lim D j
 pager:PagerAt w (FD++HG::Y) pb (dbOf dbk M) F M
 hv:Hv w
 wf:M.Wf
 sep:∀ b∈Y,b∉FD/\b≠HG
abbrev Zo (FD Y F:List Nat):List Nat:=(FD++HG::Y)++F
section
variable {dbk pb j:Nat} {FD Y Y' F:List Nat} {D:DiskM} {w w':World} {M:PgM}
def TW.frame0(h:TW dbk pb FD D j w Y F M)(f:Fr [] w w'):TW dbk pb FD D j w' Y F M:=⟨h.disk.frame0 f,h.lim,h.pager.frame0 f,h.hv.frame0 f,h.wf,h.sep⟩
def TW.ylt(h:TW dbk pb FD D j w Y F M):∀b∈Y,b<w.heap.size:=fun b u=>h.pager.xlt b (by simp[u])
def TW.zlt(h:TW dbk pb FD D j w Y F M):∀b∈Zo FD Y F,b<w.heap.size:=fun b u=>(zD.1 u).elim (h.pager.xlt b) (h.pager.lt b)
def TW.yf(h:TW dbk pb FD D j w Y F M):∀b∈Y,b∉F:=fun b u=>h.pager.sep b (by simp[u])
def TW.frameY(h:TW dbk pb FD D j w Y F M)(f:Fr Y w w')(E:∀b∈Y',b<w'.heap.size)(A:∀b∈Y',b∈Y\/w.heap.size<=b):TW dbk pb FD D j w' Y' F M where
 disk:=h.disk.frame f fun b u z=>(h.sep b z).1 u
 lim:=h.lim
 pager:=h.pager.frameX (f.mono fun b u _=>by simp[u]) (fun b u=>by
  rcases zD.1 u with u|u;exact yC (h.disk.lt b u) f.size;rcases zG.1 u with rfl|u;exact yC h.hv.lt f.size;exact E b u) fun b u=>by
  rcases zD.1 u with u|u;exact .inl (zH _ u);rcases zG.1 u with rfl|u;exact .inl (by simp);rcases A b u with y|y;exact .inl (by simp[y]);exact .inr y
 hv:=h.hv.frame f fun z=>(h.sep _ z).2 rfl
 wf:=h.wf
 sep:=fun b u=>by rcases A b u with y|y;exact h.sep b y;exact⟨fun C=>by have:=h.disk.lt b C;omega,fun C=>by have:=h.hv.lt;omega⟩
def TW.weakY(h:TW dbk pb FD D j w Y F M)(y:∀b∈Y',b∈Y):TW dbk pb FD D j w Y' F M:=h.frameY (.refl _ _) (fun b u=>h.ylt b (y b u)) fun b u=>.inl (y b u)
def TW.addY{B:List Nat}{w0:World}(h:TW dbk pb FD D j w0 Y F M)(f:Fr Y w0 w)(y:∀b∈B,w0.heap.size<=b/\b<w.heap.size):TW dbk pb FD D j w (B++Y) F M:=
 h.frameY f (fun b u=>(zD.1 u).elim (fun u=>(y b u).2) fun u=>yC (h.ylt b u) f.size) fun b u=>(zD.1 u).elim (fun u=>.inr (y b u).1) .inl
def qul(M:PgM)(kd:Int)(b:List Int):(makeV M kd b).2.over=M.over:=by unfold makeV;split;rfl;split;rfl;split<;>rfl
def qvT(M:PgM)(n kd:Int)(b:List Int):(putV M n kd b).2.over=M.over:=by unfold putV;split;rfl;split;rfl;split<;>rfl
def qtR(M:PgM)(n:Int):(dropV M n).2.over=M.over:=by unfold dropV;split;rfl;split;rfl;split<;>rfl
def quL(M:PgM)(t a b c:Int):(setRootM M t a b c).2.over=M.over:=by unfold setRootM;split;rfl;split<;>rfl
def qtO{M M':PgM}(h:M'.over=M.over):dbOf dbk M'=dbOf dbk M:=by unfold dbOf;rw[h]
def TW.next{M':PgM}(h:TW dbk pb FD D j w Y F M)(u:M'.over=M.over)(y:M'.Wf)(z:PagerAt w' (FD++HG::Y) pb (dbOf dbk M) F' M')(f:Fr F w w'):TW dbk pb FD D j w' Y F' M' where
 disk:=h.disk.frame f fun b A=>h.pager.sep b (zH _ A)
 lim:=h.lim
 pager:=by rw[qtO u];exact z
 hv:=h.hv.frame f (h.pager.sep HG (by simp))
 wf:=y
 sep:=h.sep
def TW.make{kind:Int}{s:Sl}{K:Int×Int->WP}(h:TW dbk pb FD D j w Y F M)(y:RdB (Zo FD Y F) w s body)(z:body.length<=100000)(A:0<=kind/\kind<256)(C:IsB body)(E:∀F' w',TW dbk pb FD D j w' Y F' (makeV M kind body).2->Fr F w w'->(∀b∈F',b∈F\/w.heap.size<=b)->K (makeV M kind body).1 w'): cW 137 [.pointer (pW pb),.b kind,s.v] [.one .u,.one .i] w K:=
 qvb h.pager y z (by have:=h.wf.all;omega) fun F' w' G f I=>E F' w' (h.next (qul M kind body) (qr6 h.wf A C).1 G f) f I
def TW.put{n kind:Int}{s:Sl}(h:TW dbk pb FD D j w Y F M)(y:RdB (Zo FD Y F) w s body)(z:body.length<=100000)(A:0<=kind/\kind<256)(C:IsB body)(E:∀w',TW dbk pb FD D j w' Y F (putV M n kind body).2->Fr F w w'->K (putV M n kind body).1 w'): cW 136 [.pointer (pW pb),.u n,.b kind,s.v] [.one .i] w K:=
 qwo h.pager y z fun w' G f=>E w' (h.next (qvT M n kind body) (quD h.wf A C).1 G f) f
def TW.drop{n:Int}(h:TW dbk pb FD D j w Y F M)(y:∀F' w',TW dbk pb FD D j w' Y F' (dropV M n).2->Fr F w w'->(∀b∈F',b∈F\/w.heap.size<=b)->K (dropV M n).1 w'): cW 110 [.pointer (pW pb),.u n] [.one .i] w K:=
 qu9 h.pager (by have:=h.wf.all;omega) (by have:=h.wf.all;omega) (by have:=h.wf.all;omega) fun F' w' z f A=>y F' w' (h.next (qtR M n) (qrO h.wf) z f) f A
def TW.read{n:Int}{K:Int×Sl×Int->WP}(h:TW dbk pb FD D j w Y F M)(y:U32 n)(z:∀s w',(∀G:List Nat,(∀b∈G,b<w.heap.size)->RdB G w' s (pagerReadM D M n).2.1)->Fr [] w w'->K ((pagerReadM D M n).1,s,(pagerReadM D M n).2.2) w'): cW 91 [.pointer (pW pb),.u n] [.one .b,.one .slice,.one .i] w K:=
 qtx h.disk h.lim h.pager h.hv y (by have:=h.wf.all;omega) (fun e A=>zL (h.wf.body e A).2.1 (by decide)) z
def TW.root{t:Int}{K:Int×Int×Int->WP}(h:TW dbk pb FD D j w Y F M)(y:∀w',Fr [] w w'->K (rootM M t) w'): cW 19 [.pointer (pW pb),.i t] [.agg [.u,.u,.u]] w K:=qve h.pager y
def qth{t a b c:Int}(u:M.Wf)(y:U32 a)(z:U32 b)(A:U32 c):(setRootM M t a b c).2.Wf:=by unfold setRootM;split;exact u;split;exact u;refine qqH u fun x h=>?_;simp only[zD,zG,xV,or_false] at h;rcases h with (h|rfl|rfl|rfl)|h;exact u.roots x (yU h);exact y;exact z;exact A;exact u.roots x (yT h)
def TW.setRoot{t a b c:Int}(h:TW dbk pb FD D j w Y F M)(y:U32 a)(z:U32 b)(A:U32 c)(C:∀w',TW dbk pb FD D j w' Y F (setRootM M t a b c).2->Fr F w w'->K (setRootM M t a b c).1 w'): cW 107 [.pointer (pW pb),.i t,.agg #[.u a,.u b,.u c]] [.one .i] w K:=
 qqP h.pager fun w' E f=>C w' (h.next (quL M t a b c) (qth h.wf y z A) E f) f
def TW.room(h:TW dbk pb FD D j w Y F M)(u:K M.free.length w):cW 46 [.pointer (pW pb)] [.one .i] w K:=qvd h.pager u
def TW.znew(h:∀b∈F',b∈F\/w.heap.size<=b):∀b∈Zo FD Y F',b∈Zo FD Y F\/w.heap.size<=b:=qna h
def qlz(h:M.Wf)(t:Int):U32 (rootM M t).1/\U32 (rootM M t).2.1/\U32 (rootM M t).2.2:=by
 have key:∀n,U32 (M.roots.getD n 0):=fun n=>by
  rw[yQ];cases e:M.roots[n]? with
  | none=>exact⟨by decide,by decide⟩
  | some x=>exact h.roots x (yE e)
 unfold rootM;split;exact⟨⟨by decide,by decide⟩,⟨by decide,by decide⟩,⟨by decide,by decide⟩⟩;exact⟨key _,key _,key _⟩
end
section
def qpR{w:World}{mb:Nat}{g:List (Int×Value)}{K:Option Nat->WP}(h:MapS u32V w mb g)(E:∀y w',y=w.heap.size->MapS u32V w' y g->Fr [] w w'->K (some y) w'): cW 169 [.map (some mb)] [.one .map] w K:=by
 refine qoy ?_;unfold qkD;refine cond_false rfl ?_;obtain⟨C,c,G,I,J,O⟩:=h;have A:(Extern.MapsClone.clone #[.iface MLT (.map (some mb))]).run prog w=.ok (.iface MLT (.map (some w.heap.size))) (w.alloc (.map C c)):=by
  have e:Extern.MapsClone.clone #[.iface MLT (.map (some mb))]=(getObj mb >>=fun o=>match o with
    | .map u z=>(newObj (.map u z) >>=fun n=>pure (.iface MLT (.map (some n))))
    | _=>stuck "maps.clone: a map expected"):=rfl
  rw[e];simp[Go.MapKept.run_getObj_map G,Result.andThen,go_sem]
 refine qiU (e:=Extern.MapsClone.clone) Tryz.func209 (by kernel_rfl) (by kernel_rfl) (by kernel_rfl) (by kernel_rfl) (.iface MLT (.map (some w.heap.size))) (w.alloc (.map C c)) A<|qaQ (ts:=[Ty1.one .map]) (some w.heap.size) ?_ ?_;simp[Instr.typeAssert,run_underlying (show prog.underlying MLT=some (.map 37 161) by kernel_rfl),go_sem,Result.andThen];rfl;exact E _ _ rfl ⟨C,c,by rw[qbv,if_pos rfl],I,J,O⟩ ((Fr.refl [] w).alloc _)
def qox{P:Program}{t d:TypeId}{a:Addr}(D:Nat)(h:P.underlying t=some (.pointer d))(hi:(P.info? d).isSome=true)(u:sizeT P d≠0)(w:World): (Op.equalIn (D+1) t (.pointer (some a)) (.pointer (some a))).run P w=.ok true w:=by simp[Op.equalIn,run_underlying h,qau hi,sameAddr,u]
def qw3{P:Program}{t d:TypeId}{x y:Operand}{a:Addr}{w:World}{K:Bool->Prop}(u:P.underlying t=some (.pointer d))(hi:(P.info? d).isSome=true)(h:Nat.beq (sizeT P d) 0=false)(k:K false): runQ [Ty1.one Cell.bool] (fun w'=>(do eqGuard .neq t x y (.pointer (some a)) (.pointer (some a));binOp .neq t (.pointer (some a)) (.pointer (some a)):Sem Value).run P w') w K:=by have z:=qox (P:=P) (a:=a) 9999 u hi (fun e=>by rw[e] at h;cases h) w;have A:(binOp .neq t (.pointer (some a)) (.pointer (some a))).run P w=.ok (.bool false) w:=qay (P:=P) true z;unfold runQ;refine⟨false,?_,k⟩;simp[eqGuard,A];rfl
section
variable {w:World} {S:List Nat}
structure WorkAt (w:World) (S:List Nat) (fb defb mb:Nat) (F1 F2:List Nat) (fs:List (Int×Leaf)) (q:PgM):Prop where
 free:PoolAt w fb F1 q.free
 deferred:PoolAt w defb F2 q.deferred
 map:MapS u32V w mb (fs.map fun e=>(e.1,leafV e.2))
 fresh:q.fresh=fs.map fun e=>(e.1,e.2.1,e.2.2.2)
 bodies:∀ e∈fs,RdB S w e.2.2.1 e.2.2.2
 out:∀ b∈mb::(F1++F2),b∉S
 apart:mb∉F1/\mb∉F2/\∀ b∈F1,b∉F2
 roots:q.roots.length=24
def WorkAt.lt{fb defb mb:Nat}{F1 F2:List Nat}{y:List (Int×Leaf)}{q:PgM}(h:WorkAt w S fb defb mb F1 F2 y q):∀b∈mb::(F1++F2),b<w.heap.size:=fun b u=>by rcases zG.1 u with rfl|u;exact h.map.lt;exact (zD.1 u).elim (h.free.lt b) (h.deferred.lt b)
def WorkAt.frame{fb defb mb:Nat}{F1 F2:List Nat}{y:List (Int×Leaf)}{q:PgM}{S':List Nat}{w':World}(h:WorkAt w S fb defb mb F1 F2 y q)(f:Fr S w w')(z:∀b∈S',b∈S\/w.heap.size<=b):WorkAt w' S' fb defb mb F1 F2 y q where
 free:=h.free.frame f fun b u=>h.out b (by simp[u])
 deferred:=h.deferred.frame f fun b u=>h.out b (by simp[u])
 map:=h.map.frame f (h.out mb (by simp))
 fresh:=h.fresh
 bodies:=fun e A=>(h.bodies e A).frame f z
 out:=fun b u C=>(z b C).elim (h.out b u) fun E=>by have:=h.lt b u;omega
 apart:=h.apart
 roots:=h.roots
def qos(x y:Option Addr)(m:Option Nat)(roots:List Int):(workV x y m roots).all Value.oneCell'=true:=by rw[all_eq_true];intro v h;simp only[workV,zD,zG,mem_map,xV,or_false] at h;rcases h with (rfl|rfl|rfl)|⟨x,_,rfl⟩<;>rfl
def qxL:((prog.info? WKT).bind (·.zero)).map (fun z=>z.cells.toList)=some (workV none none none (zs 24)):=by kernel_rfl
def qnC{fb defb mb:Nat}{F1 F2:List Nat}{fs:List (Int×Leaf)}{q:PgM}{K:List Value->WP}(h:WorkAt w S fb defb mb F1 F2 fs q)(af:q.free.length<=1000000)(ag:q.deferred.length<=1000000)(hk:∀A u C J O w',WorkAt w' S A u C J O fs q->Fr [] w w'->(∀b∈C::(J++O),w.heap.size<=b)->K (workV (pW A) (pW u) (some C) q.roots) w')(hS:∀b∈S,b<w.heap.size): cW 134 [.agg (workV (pW fb) (pW defb) (some mb) q.roots).toArray] [.raw] w K:=by
 refine qhS ?_;unfold qej;have hr:=h.roots;refine oB (oE [] w) fun r1 w1 e1 f1 ah=>oI ah qxL fun r3 w2 e3 ai=>?_;have I:=ai.drew;generalize World.drew w2=wd at I;refine oA I 1 rfl (pW fb) rfl<|oA I 1 rfl (pW defb) rfl<|oA I 1 rfl (some mb) rfl<|qrt (h.free.frame I.fr fun _ _ h=>nomatch h) af fun A J w4 p1 f4 n1=>?_;have R:=I.frame0 f4;refine qan (R.cell 1 rfl rfl) (R.cell 1 rfl rfl)<|qrt (h.deferred.frame (I.fr.trans f4) fun _ _ h=>nomatch h) ag fun u O w5 p2 f5 n2=>?_;have U:=R.frame0 f5;refine qaj (U.cell 1 rfl rfl)<|qpR (h.map.frame U.fr fun h=>nomatch h) fun C w6 em p3 f6=>?_;have an:=U.frame0 f6;refine oG an 1 rfl (workV (pW A) (pW defb) (some mb) q.roots).toArray rfl rfl (by rw[size_toArray,qav hr];exact zO rfl) fun w7 ao f7=>oG ao 1 rfl (workV (pW A) (pW u) (some mb) q.roots).toArray rfl rfl (by rw[size_toArray,qav hr];exact zO rfl) fun w8 ap f8=>oG ap 1 rfl (workV (pW A) (pW u) (some C) q.roots).toArray rfl rfl (by rw[size_toArray,qav hr];exact zO rfl) fun w9 ac f9=>?_;have V:=qav (x:=pW A) (y:=pW u) (m:=some C) hr;refine qa0 (ac.at (i:=1) rfl) (workV (pW A) (pW u) (some C) q.roots) V (by rw[xD,zS (Nat.le_of_eq V)])<|qaN V<|oG ac 0 rfl (workV (pW A) (pW u) (some C) q.roots).toArray (qcx (by rw[size_toArray,V,qav (qaI 24)])) (qos _ _ _ _) (by rw[size_toArray,V,qav (qaI 24)];exact zO rfl) fun ad G aq=>qa0 (G.at (i:=0) rfl) (workV (pW A) (pW u) (some C) q.roots) V (by rw[xD,zS (Nat.le_of_eq V)]) ?_;have ar:=qab (I.at (i:=1) rfl);have au:=qab (I.at (i:=0) rfl);have g7:Fr [r1,r3] w6 ad:=(((f7.mono fun b z _=>by rw[zE.1 z];simp).trans (f8.mono fun b z _=>by rw[zE.1 z];simp)).trans (f9.mono fun b z _=>by rw[zE.1 z];simp)).trans (aq.mono fun b z _=>by rw[zE.1 z];simp);have s4:=f4.size;have s5:=f5.size;have s0:=I.fr.size;have aa:∀b,b∈[r1,r3]->b<wd.heap.size:=fun b z=>by rcases zG.1 z with rfl|z;exact ar;rw[zE.1 z];exact au
 have l1:=p1.lt;have l2:=p2.lt;refine hk A u C J O ad ?_ G.fr fun b z=>?_;refine⟨(p1.frame (f5.trans f6) fun _ _ h=>nomatch h).frame g7 (fun b z E=>by have:=n1 b z;have:=aa b E;omega),(p2.frame f6 fun _ _ h=>nomatch h).frame g7 (fun b z E=>by have:=n2 b z;have:=aa b E;omega),p3.frame g7 (fun E=>by have:=aa _ E;omega),h.fresh,fun e he=>?_,fun b z E=>?_,⟨fun E=>by have:=l1 _ E;omega,fun E=>by have:=l2 _ E;omega,fun b z E=>by have:=l1 b z;have:=n2 b E;omega⟩,hr⟩;exact (h.bodies e he).frame (G.fr.mono fun b z=>nomatch z) fun b z=>.inl z
 have:=hS b E
 rcases zG.1 z with rfl|z;omega;rcases zD.1 z with z|z
 have:=n1 b z;omega
 have:=n2 b z;omega
 rcases zG.1 z with rfl|z;omega;rcases zD.1 z with z|z
 have:=n1 b z;omega
 have:=n2 b z;omega
end
abbrev MKT:TypeId:=224
def markV (pb:Nat) (turn:Int) (wk:List Value):List Value:=[.pointer (pW pb),.i turn]++wk
def MarkAt (w:World) (S:List Nat) (h pb:Nat) (q:PgM):Prop:=
 ∃fb defb mb u y z,w.heap[h]?=some (.cells (markV pb q.turn (workV (pW fb) (pW defb) (some mb) q.roots)).toArray MKT (0,0))/\WorkAt w S fb defb mb u y z q/\h∉S
def MarkAt.frame{w w':World}{S S':List Nat}{u pb:Nat}{q:PgM}(h:MarkAt w S u pb q)(f:Fr S w w')(z:∀b∈S',b∈S\/w.heap.size<=b):MarkAt w' S' u pb q:=by obtain⟨fb,defb,mb,C,E,G,y,I,A⟩:=h;exact⟨fb,defb,mb,C,E,G,by rw[f.block u (qab y) A];exact y,I.frame f z,fun J=>(z u J).elim A fun K=>by have:=qab y;omega⟩
def qxU:((prog.info? MKT).bind (·.zero)).map (fun z=>z.cells.toList)=some ([Value.pointer none,.i 0]++workV none none none (zs 24)):=by kernel_rfl
def qsS{p:Option Addr}{t:Int}{x y:Option Addr}{m:Option Nat}{roots:List Int}(E:roots.length=24)(w:World): (Instr.build MKT #[(0,.pointer p),(1,.i t),(2,.agg (workV x y m roots).toArray)]).run prog w=.ok (.agg ([Value.pointer p,.i t]++workV x y m roots).toArray) w:=by
 obtain⟨z,G,h⟩:=yS.1 qxU;have u:z.cells=([Value.pointer none,.i 0]++workV none none none (zs 24)).toArray:=(by rw[<- h]);have C:=qav (x:=x) (y:=y) (m:=m) E;refine qc8 (parts:=[(0,.pointer p),(1,.i t),(2,.agg (workV x y m roots).toArray)]) (offs:=#[(0,1),(1,1),(2,27)]) G (by kernel_rfl) (fun w=>by kernel_rfl) ?_ w;have I:(Value.agg (workV x y m roots).toArray).cells.size=27:=(by show (workV x y m roots).toArray.size=27;rw[size_toArray,C]);rw[u,qaD (o:=0) (s:=1) rfl rfl (zO rfl),qaD (o:=1) (s:=1) rfl rfl (zO rfl),qaD (o:=2) (s:=27) rfl I (zO rfl)];refine congrArg some ?_
 have:=qa8 (A:=[Value.pointer p,.i t]) (X:=workV none none none (zs 24)) (Z:=[]) (Y:=workV x y m roots) (by rw[C,qav (qaI 24)])
 rw[xF,xF] at this;exact this
section
variable {w:World} {X:List Nat} {pb:Nat} {db:Option Addr} {F:List Nat} {M:PgM}
def qvQ{sup:Sup}{sl sn:Sl}{turn:Int}{over:Bool}{fb defb mb:Nat}{roots:List Int}(u:sup.2.length=27)(y:roots.length=24):((pgCells db sup sl sn turn over fb defb mb roots).toList.drop 33).take 27=workV (pW fb) (pW defb) (some mb) roots:=by have h:((Value.pointer db::supV sup.1 sup.2)++([sl.v,sn.v,.i turn,.bool over]:List Value)).length=33:=(by rw[zF,qa2 u];rfl);rw[<- qbE];show (((Value.pointer db::supV sup.1 sup.2)++([sl.v,sn.v,.i turn,.bool over]:List Value)++workV (pW fb) (pW defb) (some mb) roots).drop 33).take 27=_;rw[<- h,drop_left,zS (by rw[qav y];exact zM _)]
def PgX.work{fb defb mb:Nat}{sl sn:Sl}{F1 F2:List Nat}{y:List (Int×Leaf)}(u:PgX w X pb db M fb defb mb sl sn F1 F2 y):WorkAt w [] fb defb mb F1 F2 y M:=
 ⟨u.free,u.deferred,u.map,u.fresh,fun e A=>(u.rows.bodies e A).weak (by simp),fun b z h=>(nomatch h),⟨fun h=>(u.sep.2.1 mb h).2.1 rfl,fun h=>(u.sep.2.2 mb h).2 rfl,fun b z h=>(u.sep.2.1 b z).2.2 h⟩,u.rootlen⟩
def qvf{K:Option Addr->WP}(h:PagerAt w X pb db F M)(V:M.free.length<=1000000)(aa:M.deferred.length<=1000000)(ab:M.over=true->K none w)(hk:M.over=false->∀A w',MarkAt w' (X++F) A pb M->Fr [] w w'->K (pW A) w'): cW 104 [.pointer (pW pb)] [.one .ptr] w K:=by
 have G:=h.lt;have z:∀b∈X,b<w.heap.size:=by obtain⟨fb,defb,mb,sl,sn,F1,F2,fs,rfl,u⟩:=h;exact u.xlt
 obtain⟨fb,defb,mb,sl,sn,F1,F2,fs,rfl,u⟩:=h;refine qix ?_;unfold qeJ;refine qae (qai u.cell M.over (qc6 u.suplen) ?_);refine qaa (fun ho=>ab (by simpa using ho)) (fun ho=>?_);have I:=u.frame0 (Fr.refl [] w).drew;have fd:Fr [] w w.drew:=(Fr.refl [] w).drew;generalize World.drew w=wd at I fd;refine qae (qai I.cell M.turn (qnh u.suplen) ?_);refine qae ?_;simp only[xO];refine qa0 I.cell (workV (pW fb) (pW defb) (some mb) M.roots) (qav u.rootlen) (qvQ u.suplen u.rootlen)<|qnC I.work V aa (fun J y O ae af w2 E f2 n2=>?_) (fun b R=>nomatch R);have h2:=I.frame0 f2;refine qaj (by show _=_;rw[qag h2.cell];exact qnh u.suplen)<|qaQ (ts:=[Ty1.raw]) (markV pb M.turn (workV (pW J) (pW y) (some O) M.roots)) (qsS u.rootlen w2)<|oB (oE [] w2) fun A w3 e3 U ag=>?_;have C:=fd.trans f2;refine hk (by simpa using ho) A w3 ⟨J,y,O,ae,af,fs,ag.at (i:=0) rfl,?_,fun hm=>?_⟩ (C.trans U);have R:∀b∈X++pb::mb::(F1++F2),b<w.heap.size:=fun b R=>(zD.1 R).elim (z b) (G b);refine⟨E.free.frame U fun _ _ h=>(nomatch h),E.deferred.frame U fun _ _ h=>(nomatch h),E.map.frame U fun h=>(nomatch h),E.fresh,fun e he=>(u.rows.bodies e he).frame0 (C.trans U),fun b ai hm=>?_,E.apart,E.roots⟩
 have:=n2 b ai
 have:=R b hm
 have:=fd.size
 omega;have:A<w.heap.size:=(zD.1 hm).elim (z A) (G A)
 have:=C.size
 omega
def qu8{S:List Nat}{m:Option Addr}{q:PgM}(h:PagerAt w X pb db F M)(hS:∀b∈X++F,b∈S)(hm:m≠none->∃kb,m=pW kb/\MarkAt w S kb pb q/\q.free.length<=1000000/\q.deferred.length<=1000000)(aw:M.over=true->K 7 w)(ax:M.over=false->(m=none\/q.turn≠M.turn)->K 10 w.drew)(hk:M.over=false->m≠none->q.turn=M.turn->∀F' w',PagerAt w' X pb db F' { M with free:=q.free,deferred:=q.deferred,fresh:=q.fresh,roots:=q.roots }->Fr F w w'->(∀b∈F',b∈F\/w.heap.size<=b)->K 0 w'): cW 105 [.pointer (pW pb),.pointer m] [.one .i] w K:=by
 obtain⟨fb,defb,mb,sl,sn,F1,F2,fs,rfl,E⟩:=h;refine qir ?_;unfold qeD;refine qae (qai E.cell M.over (qc6 E.suplen) ?_);refine qaa (fun ho=>aw (by simpa using ho)) (fun ho=>?_);have ho:M.over=false:=(by simpa using ho);refine qaf (fun b w'=>b=decide (m=none\/q.turn≠M.turn)/\w'=w.drew) ?_ ?_;cases m with
 | none=>exact cond_true rfl ⟨by simp,rfl⟩
 | some a=>
  obtain⟨kb,e,hM,_⟩:=hm (by simp);obtain rfl:=yN e;obtain⟨J,z,O,ai,aj,ae,V,hW,_⟩:=hM;refine cond_false rfl<|qae (qai (w:=w.drew) (c:=.ptr) V (pW pb) rfl ?_);refine qw3 (d:=127) (by kernel_rfl) (by kernel_rfl) (by kernel_rfl)<|cond_false rfl<|qae (qai (w:=w.drew) (c:=.i) V q.turn rfl ?_);refine qae (qai (w:=w.drew) (c:=.i) E.cell M.turn (qnh E.suplen) ?_);refine⟨?_,rfl⟩;by_cases e:q.turn=M.turn;simp[e];simp[e]
 rintro b w1 ⟨rfl,rfl⟩;apply qaa<;>intro V;exact ax ho (zC V);have V:=zB V;have ak:m≠none:=fun e=>V (.inl e);have az:q.turn=M.turn:=Classical.byContradiction fun e=>V (.inr e);obtain⟨kb,rfl,hM,aA,aB⟩:=hm ak;obtain⟨J,z,O,ai,aj,ae,aC,hW,_⟩:=hM;have fd:Fr [] w w.drew:=(Fr.refl [] w).drew;have al:=E.frame0 fd;have am:w.drew.heap[kb]?=some (.cells (markV pb q.turn (workV (pW J) (pW z) (some O) q.roots)).toArray MKT (0,0)):=aC;have A:=hW.frame (S':=S) (fd.mono fun b u=>nomatch u) fun b u=>.inl u;have sd:w.drew.heap.size=w.heap.size:=rfl;generalize World.drew w=wd at al am A fd sd;refine qae ?_;have an:=qav (x:=pW J) (y:=pW z) (m:=some O) hW.roots;refine qa0 (off:=0+2) am (workV (pW J) (pW z) (some O) q.roots) an (by show (workV (pW J) (pW z) (some O) q.roots).take 27=_;rw[zS (Nat.le_of_eq an)]) ?_;have aD:WorkAt wd [] J z O ai aj ae q:=⟨A.free,A.deferred,A.map,A.fresh,fun e he=>(A.bodies e he).weak (by simp),fun b u h=>(nomatch h),A.apart,A.roots⟩;refine qnC aD aA aB (fun ao U C G1 G2 w2 G f2 n2=>?_) (fun b u=>nomatch u);have h2:=al.frame0 f2;refine qae (qaN (qav hW.roots) ?_);have aF:Own [pb] w2 w2 [(pb,.cells (pgCells db M.sup sl sn M.turn M.over fb defb mb M.roots) PGT (0,0))]:=⟨by simpa using h2.cell,by simp,.refl _ _,by simp⟩;refine oG aF 0 rfl (pgCells db M.sup sl sn M.turn M.over ao U C q.roots) (by rw[<- qbE,<- qbE];exact qqe E.suplen (by rw[qav E.rootlen,qav hW.roots])) (qos _ _ _ _) (by rw[qng E.suplen,qav hW.roots,E.rootlen];exact zO rfl) fun w3 aH f3=>?_;have aI:=fd.trans f2;have I:∀b∈C::(G1++G2),w.heap.size<=b:=fun b u=>by have:=n2 b u;omega
 have aU:=qab E.cell;have R:∀b∈C::(G1++G2),b∉[pb]:=fun b u hm=>by have:=I b u;rw[zE.1 hm] at this;omega
 have aa:Fr [pb] w w3:=(aI.mono fun b u=>nomatch u).trans f3;have ar:∀b∈X,b<w.heap.size:=E.xlt;have af:∀b∈X++pb::C::(G1++G2),b∈X++pb::mb::(F1++F2)\/w.heap.size<=b:=fun b u=>by rcases zD.1 u with u|u;exact .inl (zH _ u);rcases zG.1 u with rfl|u;exact .inl (zI _ (by simp));exact .inr (I b u)
 have ad:Fr (X++pb::mb::(F1++F2)) w w3:=aa.mono fun b u _=>by rw[zE.1 u];exact zI _ (by simp)
 refine hk ho ak az (pb::C::(G1++G2)) w3 ⟨ao,U,C,sl,sn,G1,G2,ae,rfl,{
  cell:=aH.at (i:=0) rfl
  free:=G.free.frame f3 fun b u=>R b (by simp[u])
  deferred:=G.deferred.frame f3 fun b u=>R b (by simp[u])
  map:=G.map.frame f3 (R C (by simp))
  fresh:=G.fresh
  rows:=⟨E.rows.lists.frame ad af,E.rows.named.frame ad af,fun e he=>?_⟩
  xlt:=fun b u=>yC (ar b u) aa.size
  xsep:=fun b u hm=>?_
  sep:=⟨fun e=>R C (by simp) (by simp[e]),fun b u=>⟨fun e=>R b (by simp[u]) (by simp[e]),fun e=>G.apart.1 (e▸u),G.apart.2.2 b u⟩,fun b u=>⟨fun e=>R b (by simp[u]) (by simp[e]),fun e=>G.apart.2.1 (e▸u)⟩⟩
  suplen:=E.suplen
  rootlen:=hW.roots }⟩ (aa.mono fun b u _=>by rw[zE.1 u];simp) fun b u=>?_
 have aJ:=hW.bodies e he;refine aJ.frame (aa.mono fun b u _=>by rw[zE.1 u];exact hS pb (zI _ (by simp))) fun b u=>?_;rcases af b u with u|u;exact .inl (hS b u);exact .inr u;rcases zG.1 hm with rfl|hm;exact E.xsep b u (by simp)
 have:=I b hm;have:=ar b u;omega
 rcases zG.1 u with rfl|u;exact .inl (by simp);exact .inr (I b u)
end
end
end
section
open Go Go.Pt List
open Go.IntKind (wrap)
open Classical
attribute [local irreducible] ld ldA ldV fld fldA newZ st new idx idxS idxA slc slcS slcP mkS chk nn call callV inv run runQ runU join loop held ext rng undefer s2a nxt ent IntKind.wrap
variable {K:Sl->WP} {S T:List Nat} {b:List Int} {hi p:Int} {i k v:Nat} {l:Key} {n:NodeM} {ps:Kps} {s src:Sl} {w:World} {x:NdC}
abbrev WkC:=Int×Int×Int×Int×Option Addr×Int
def wkX (k v pb:Nat) (t:Int):WkC:=((k:Int),(v:Int),((capsV k v).1:Int),((capsV k v).2:Int),pW pb,t)
def wkV (x:WkC):Array Value:=#[.i x.1,.i x.2.1,.i x.2.2.1,.i x.2.2.2.1,.pointer x.2.2.2.2.1,.i x.2.2.2.2.2]
abbrev WK:TypeId:=114
def shX (k v:Nat):Int×Int×Int×Int:=((k:Int),(v:Int),((capsV k v).1:Int),((capsV k v).2:Int))
def shV (k v:Nat):Array Value:=#[.i k,.i v,.i (capsV k v).1,.i (capsV k v).2]
section
variable {S:List Nat} {w:World} {x:NdC} {n:NodeM} {k v:Nat}
structure NodeL (x:NdC) (n:NodeM):Prop where
 leaf:x.1=n.leaf
 keys:x.2.1.len=n.keys.length
 vals:x.2.2.1.len=n.vals.length
 kids:x.2.2.2.len=n.kids.length
def NodeR.lens(h:NodeR S w x n):NodeL x n:=by obtain⟨u,_,⟨pk,y,z⟩,⟨pv,A,C⟩,E⟩:=h;exact⟨u,by rw[y.len,<- z,zK],by rw[A.len,<- C,zK],E.1⟩
def qnm{K:Int×Int->WP}(h:NodeL x n)(y:∀w',Fr [] w w'->K (((sizeN n k v).1:Int),((sizeN n k v).2:Int)) w'): cW 174 [.agg (shV k v),.agg (ndV x)] [.one .i,.one .i] w K:=by refine qjG ?_;unfold qfC;refine oB (oE [] w) fun C E e1 G A=>oB A fun I J O R A=>oA A 0 rfl x.1 rfl ?_;unfold sizeN at y;have u:=A.drew;apply qaa<;>intro z;rw[h.leaf] at z;rw[if_pos z] at y;refine oA u 0 rfl x.2.1 rfl<|oA u 1 rfl ((capsV k v).1:Int) rfl ?_;rw[h.keys];exact y _ u.fr;rw[h.leaf] at z;rw[if_neg (by rw[z];decide)] at y;refine oA u 0 rfl x.2.2.2 rfl<|oA u 1 rfl ((capsV k v).2:Int) rfl ?_;rw[h.kids];exact y _ u.fr
def qnO{n:NodeM}:wrap .i64 (Int.tdiv ((sizeN n k v).2:Int) 2)=(((sizeN n k v).2 / 2:Nat):Int):=by have h:=qgL (k:=k) (v:=v);have u:(sizeN n k v).2<=498:=(by unfold sizeN;split<;>omega);rw[Int.tdiv_eq_ediv_of_nonneg (by omega),wi' _ (by omega)];rfl
def qxA{K:Bool->WP}(h:NodeL x n)(y:∀w',Fr [] w w'->K (decide (lowN n k v)) w'): cW 142 [.agg (shV k v),.agg (ndV x)] [.one .bool] w K:=by refine qkh ?_;unfold qgo;refine oB (oE [] w) fun C E e1 G u=>oB u fun I J O R u=>oC u 1 rfl (shX k v) rfl<|oC u 0 rfl x rfl<|qnm (k:=k) (v:=v) h fun z A=>?_;dsimp only;rw[qnO];have e:decide (((sizeN n k v).1:Int)<(((sizeN n k v).2 / 2:Nat):Int))=decide (lowN n k v):=decide_eq_decide.2 (by unfold lowN;omega);rw[e];exact y z (u.fr.trans A)
def qv2{K:Bool->WP}(h:NodeL x n)(y:∀w',Fr [] w w'->K (decide (spareN n k v)) w'): cW 178 [.agg (shV k v),.agg (ndV x)] [.one .bool] w K:=by refine qiC ?_;unfold qeO;refine oB (oE [] w) fun C E e1 G u=>oB u fun I J O R u=>oC u 1 rfl (shX k v) rfl<|oC u 0 rfl x rfl<|qnm (k:=k) (v:=v) h fun z A=>?_;dsimp only;rw[qnO];have e:decide (((sizeN n k v).1:Int)>(((sizeN n k v).2 / 2:Nat):Int))=decide (spareN n k v):=decide_eq_decide.2 (by unfold spareN;omega);rw[e];exact y z (u.fr.trans A)
end
def qfb{t:Int}{ks:Sl}{pb:Nat}{K:WkC×Int->WP}(C:shp t=((k:Int),(v:Int)))(E:k=0->∀x w',Fr [] w w'->K (x,4) w')(G:k≠0->ks.len≠k->∀x w',Fr [] w w'->K (x,1) w')(I:k≠0->ks.len=k->∀w',Fr [] w w'->K (wkX k v pb t,0) w'): cW 59 [.pointer (pW pb),.i t,ks.v] [.agg qak,.one .i] w K:=by
 refine qoL ?_;unfold qkZ;refine oB (oE [] w) fun J O e1 R h=>qo5 ?_;rw[C];apply qaa<;>intro y;have y:((k:Nat):Int)=0:=yO.1 y;exact oD h 0 rfl (wkV (0,0,0,0,none,0)) fun A h z=>oC h 0 rfl (0,0,0,0,none,0) rfl<|E (by omega) _ _ h.fr;have y:¬((k:Nat):Int)=0:=zR.1 y;apply qaa<;>intro u;have u:¬((ks.len:Int)=(k:Int)):=zR.1 (by simpa using u);exact oD h 0 rfl (wkV (0,0,0,0,none,0)) fun A h z=>oC h 0 rfl (0,0,0,0,none,0) rfl<|G (by omega) (by omega) _ _ h.fr;have u:(ks.len:Int)=(k:Int):=by rw[yD] at u;exact yO.1 u
 refine qk2 fun A z=>?_;have h:=h.frame0 z;exact oD h 0 rfl (wkV (wkX k v pb t)) fun U h V=>oC h 0 rfl (wkX k v pb t) rfl<|I (by omega) (by omega) _ h.fr
section
variable {dbk pb j:Nat} {FD Y F:List Nat} {D:DiskM} {w:World} {M:PgM} {k v:Nat} {t:Int}
def qgV{K:NdC×Int->WP}(h:TW dbk pb FD D j w Y F M)(hp:U32 p)(G:∀x B w',TW dbk pb FD D j w' (B++Y) F M->NodeB (Zo FD (B++Y) F) w' x (loadN D M k v p).1 B->Fr [] w w'->(∀c∈B,w.heap.size<=c)->K (x,(loadN D M k v p).2) w'): cW 82 [.agg (wkV (wkX k v pb t)),.u p] [.agg qac,.one .i] w K:=by
 refine qkk ?_;unfold qgs;refine oB (oE [] w) fun r1 w1 e1 f1 z=>oB z fun r3 w2 e2 f2 z=>oA z 1 rfl (pW pb) rfl ?_;have h2:=h.frame0 z.fr;refine TW.read h2 hp fun s w7 hs f7=>?_;have z:=z.frame0 f7;have aa:=hs [] (fun _ h=>nomatch h);have hB:IsB (pagerReadM D M p).2.1:=qnf h.lim.ok (fun e he=>(h.wf.body e he).2.2) p;unfold loadN at G;apply qaa<;>intro y;have ac:(pagerReadM D M p).2.2≠0:=fun e=>by dsimp only at y;rw[e] at y;exact absurd y (by decide)
 rw[if_pos ac] at G;exact oD z 0 rfl (ndV zeroX) fun w8 z f8=>oC z 0 rfl zeroX rfl<|G zeroX [] w8 (h.frame0 z.fr) (.zero _ _) z.fr (fun _ h=>nomatch h);have he:¬(pagerReadM D M p).2.2≠0:=fun e=>by dsimp only at y;rw[yD,yO] at y;exact e y
 rw[if_neg he] at G;refine oA z 1 rfl (k:Int) rfl<|oA z 1 rfl (v:Int) rfl<|qu7 (k:=k) (v:=v) aa hB fun x B an hN ad E=>?_;have I:=z.frame0 ad;have J:=qab (z.at (i:=0) rfl);dsimp only at J;have hr:∀c∈B,c∉[r3]:=fun c y hm=>by have:=E c y;rw[zE.1 hm] at this;omega
 refine oD I 0 rfl (ndV x) fun O A ae=>oC A 0 rfl x rfl ?_;have C:=hN.frame ae hr (fun c y=>.inl (by rw[zE.1 y];simp[J])) (fun c y=>.inl y);have ar:=h.frame0 A.fr;have R:=z.fr.size;have U:TW dbk pb FD D j O (B++Y) F M:=h.addY (A.fr.mono fun _ h=>nomatch h) fun b hb=>⟨zL R (E b hb),C.lt b hb⟩;refine G x B O U (C.weak fun c y=>.inl ?_) A.fr (fun c y=>zL R (E c y));have V:=h.zlt;rcases zD.1 y with y|y;rcases zD.1 y with y|y
 have:=V c (by simp[y]);simp;omega
 rcases zG.1 y with y|y
 have:=V c (by simp[y]);simp;omega
 rcases zD.1 y with y|y;simp[y]
 have:=V c (by simp[y]);simp;omega
 have:=V c (by simp[y]);simp;omega
def qs1{kd:Int}{n:Int}(h:(putV M n kd b).1=10):(putV M n kd b).2=M:=by unfold putV at h⊢;split;rfl;rename_i u;rw[if_neg u] at h;split;rfl;rename_i q y;rw[y] at h;dsimp only at h;split;rfl;rename_i z;rw[if_neg z] at h;cases h
def qbB{K:Int×Int->WP}(h:TW dbk pb FD D j w Y F M)(hx:NodeR (Zo FD Y F) w x n)(h1:n.keys.length<=1000000)(h2:n.vals.length<=1000000)(h3:n.kids.length<=1000000)(O:∀F' w',TW dbk pb FD D j w' Y F' (storeN k v M p n).2->Fr F w w'->(∀b∈F',b∈F\/w.heap.size<=b)->K (storeN k v M p n).1 w'): cW 106 [.agg (wkV (wkX k v pb t)),.u p,.agg (ndV x)] [.one .u,.one .i] w K:=by
 refine qjI ?_;unfold qfE;refine oB (oE [] w) fun r1 w1 e1 f1 A=>oB A fun r3 w2 e2 f2 A=>oC A 0 rfl x rfl<|oA A 1 rfl (k:Int) rfl<|oA A 1 rfl (v:Int) rfl<|qvk (x:=x) (k:=k) (v:=v) (hx.frame0 A.fr) h1 h2 h3 fun s w9 hs f9=>?_;have A:=A.frame0 f9;have h9:=h.frame0 A.fr;have am:IsB (writeNV n k v).2.1:=by unfold writeNV;split;exact qnz hx.2.1.1 hx.2.1.2.1;exact fun _ h=>nomatch h
 have an:0<=(writeNV n k v).1/\(writeNV n k v).1<256:=(by unfold writeNV kindN;split;dsimp only;split<;>exact⟨by decide,by decide⟩;exact⟨by decide,by decide⟩);have ao:(writeNV n k v).2.1.length<=100000:=(by unfold writeNV;split;rename_i hr;have:=(qfP hr).2;dsimp only;omega;exact yW _);unfold storeN at O;apply qaa<;>intro y;have aB:(writeNV n k v).2.2≠0:=fun e=>by dsimp only at y;rw[e] at y;exact absurd y (by decide)
 rw[if_pos aB] at O;exact O F w9 h9 (A.fr.mono fun _ h=>nomatch h) fun b I=>.inl I;have he:¬(writeNV n k v).2.2≠0:=fun e=>by dsimp only at y;rw[yD,yO] at y;exact e y
 rw[if_neg he] at O;have aC:=qab (A.at (i:=1) rfl);dsimp only at aC;have aa:=h.zlt;have ac:r1∉F:=fun hm=>by have:=aa r1 (by simp[hm]);omega
 have ap:w.heap.size<=r1:=(by omega);have aM:=A.fr.size;have ae:∀G:List Nat,(∀b∈G,b<w.heap.size)->RdB G w9 s (writeNV n k v).2.1:=fun G hG=>hs G fun b I=>yC (hG b I) (zL f1.size f2.size);have af:Own F w w9 [(r1,.cells (wkV (wkX k v pb t)) WK (0,0))]:=⟨fun q hq=>by rw[zE.1 hq];exact A.at (i:=1) rfl,by simp,A.fr.mono (fun _ h=>nomatch h),fun q hq=>by rw[zE.1 hq];exact .inr ap⟩;generalize aZ:(writeNV n k v).1=J at *
 generalize a0:(writeNV n k v).2.1=C at *
 refine qaf (fun _ w'=>(p=0\/(putV M p J C).1=10)/\TW dbk pb FD D j w' Y F M/\Own F w w' [(r1,.cells (wkV (wkX k v pb t)) WK (0,0))]/\RdB (Zo FD Y F) w' s C) ?_ ?_;apply qaa<;>intro R;have R:p≠0:=by rw[zT] at R;exact zR.1 R
 refine oA af 0 rfl (pW pb) rfl<|TW.put h9 (ae _ aa) ao an am fun aD ah aq=>?_;have ad:=af.frame aq (fun i hi=>.inl hi) (fun q hq=>by rw[zE.1 hq];exact ac);apply qaa<;>intro z;have z:(putV M p J C).1≠10:=by rw[zT] at z;exact zR.1 z
 rw[if_pos ⟨R,z⟩] at O;exact O F aD ah ad.fr fun b I=>.inl I;have z:(putV M p J C).1=10:=by rw[yD] at z;exact yO.1 z
 rw[qs1 z] at ah;exact⟨.inr z,ah,ad,(ae _ aa).frame (aq.mono fun b I _=>by simp[I]) fun b I=>.inl I⟩;have R:p=0:=by rw[yD] at R;exact yO.1 R
 exact⟨.inl R,h9,af,ae _ aa⟩;rintro _ a1 ⟨R,aF,U,ar⟩;rw[if_neg (fun hh=>R.elim hh.1 hh.2)] at O;refine oA U 0 rfl (pW pb) rfl<|TW.make aF ar ao an am fun F' aG au aH aI=>?_;have E:=U.frame aH (fun i hi=>.inl hi) (fun q hq=>by rw[zE.1 hq];exact ac);have ai:=U.fr.size;have V:∀b∈F',b∈F\/w.heap.size<=b:=fun b I=>(aI b I).imp id fun h=>zL ai h;refine qaf (fun e w'=>∃F2,e=(if (makeV M J C).1.2=0/\p≠0 then (dropV (makeV M J C).2 p).1 else (makeV M J C).1.2)/\TW dbk pb FD D j w' Y F2 (if (makeV M J C).1.2=0/\p≠0 then (dropV (makeV M J C).2 p).2 else (makeV M J C).2)/\Fr F w w'/\∀b∈F2,b∈F\/w.heap.size<=b) ?_ ?_;refine qaf (fun d w'=>d=decide ((makeV M J C).1.2=0/\p≠0)/\w'=aG) ?_ ?_;refine qaa (fun y=>⟨?_,rfl⟩) (fun y=>⟨?_,rfl⟩);have y:(makeV M J C).1.2=0:=yO.1 y;rw[Bool.eq_iff_iff,yM,zT,zR];exact⟨fun h=>⟨y,h⟩,fun h=>h.2⟩;have y:¬(makeV M J C).1.2=0:=zR.1 y;rw[zU (fun h=>y h.1)];rintro d a2 ⟨rfl,rfl⟩;apply qaa<;>intro y;have y:=zC y;rw[if_pos y,if_pos y];refine oA E 0 rfl (pW pb) rfl<|TW.drop au fun F2 a3 aJ aK aL=>?_;have ak:=E.fr.size;refine⟨F2,rfl,aJ,E.fr.trans' aK V,fun b I=>?_⟩;rcases aL b I with h|h;exact V b h;exact .inr (zL ak h);have y:=zB y;rw[if_neg y,if_neg y];exact⟨F',rfl,au,E.fr,V⟩;rintro e av ⟨F2,rfl,ab,aw,ax⟩;by_cases y:(makeV M J C).1.2=0/\p≠0;rw[if_pos y] at O ab⊢;exact O F2 av ab aw ax;rw[if_neg y] at O ab⊢;exact O F2 av ab aw ax
end
section
section
variable {S:List Nat} {w:World} {s:Sl} {ps:Kps}
def RdK.take3(h:RdK S w s ps)(b:Nat){K:Sl->Prop}(y:hi=b)(A:b<=ps.length)(C:∀u,RdK S w u (ps.take b)->K u):slc s none (some hi) (some hi) 1 K:=
 Rds.part3 h.1 b y (by rw[zK];exact A) fun u z=>C u ⟨by rw[<- xL] at z;exact z,fun p E=>h.2 p (yU E)⟩
def RdK.from(h:RdK S w s ps){lo:Int}(a:Nat){K:Sl->Prop}(y:lo=a)(A:a<=ps.length)(C:∀u,RdK S w u (ps.drop a)->K u):slc s (some lo) none none 1 K:=
 Rds.part h.1 a ps.length y (by rw[xT,h.len]) A (by rw[zK];exact zM _) fun u _ z _=>C u ⟨by have e:(slsP ps).take ps.length=slsP ps:=zS (by rw[zK];exact zM _);rw[e,<- xM] at z;exact z,fun p E=>h.2 p (yT E)⟩
def RdK.upto(h:RdK S w s ps)(b:Nat){K:Sl->Prop}(y:hi=b)(A:b<=ps.length)(C:∀u,RdK S w u (ps.take b)->K u):slc s none (some hi) none 1 K:=
 Rds.part h.1 0 b rfl y (yW _) (by rw[zK];exact A) fun u _ z _=>C u ⟨by rw[xD,<- xL] at z;exact z,fun p E=>h.2 p (yU E)⟩
def qc0(ps:Kps)(b:Nat):keyP (ps.take b)=(keyP ps).take b:=xL
def qcl(ps:Kps)(b:Nat):keyP (ps.drop b)=(keyP ps).drop b:=xM
def qdP{ps:Kps}(hi:i<ps.length):(keyP ps).getD i []=ps[i].2:=by rw[yQ,zQ,zA hi];rfl
def Rds.from1{α:Type}{enc:α->List Value}{l:List α}(h:Rds enc 1 S w s l){lo:Int}(a:Nat){K:Sl->Prop}(y:lo=a)(A:a<=l.length)(C:∀u,Rds enc 1 S w u (l.drop a)->K u):slc s (some lo) none none 1 K:=
 Rds.part h a l.length y (by rw[xT,h.1]) A (zM _) fun u _ z _=>C u (by rw[xX] at z;exact z)
def Rds.upto1{α:Type}{enc:α->List Value}{l:List α}(h:Rds enc 1 S w s l)(b:Nat){K:Sl->Prop}(y:hi=b)(A:b<=l.length)(C:∀u,Rds enc 1 S w u (l.take b)->K u):slc s none (some hi) none 1 K:=
 Rds.part h 0 b rfl y (yW _) A fun u _ z _=>C u (by rw[xD] at z;exact z)
end
section
variable {S:List Nat} {w:World} {x:NdC} {n:NodeM} {k v:Nat}
def MidOk (n:NodeM) (mid:Nat):Prop:=if n.leaf then mid<n.keys.length/\mid<=n.vals.length else 1<=mid/\mid<=n.keys.length/\mid<=n.kids.length
def qt1{mid:Nat}{K:NdC×NdC×Sl->WP}(hx:NodeR S w x n)(hm:MidOk n mid)(hl:mid<=1000000)(kk:∀xl xr ks w',NodeR S w' xl (halvesN n mid).1->NodeR S w' xr (halvesN n mid).2.1->RdB S w' ks (halvesN n mid).2.2->Fr [] w w'->K (xl,xr,ks) w'): cW 175 [.agg (ndV x),.i mid] [.agg qac,.agg qac,.one .slice] w K:=by
 have aD:=hx;obtain⟨h0,y,⟨pk,z,u⟩,⟨pv,U,A⟩,G⟩:=hx;have l1:pk.length=n.keys.length:=(by rw[<- u,zK]);have l2:pv.length=n.vals.length:=(by rw[<- A,zK]);refine qns ?_;unfold qjF;have h:=oE [] w;refine oB h fun r1 w2 _ f h=>oB h fun r3 w4 _ f h=>oB h fun r5 w6 _ f h=>?_;have h:=oF h;refine⟨?a,?b⟩;case' a=>
  refine oC h 2 rfl x rfl<|oC h 2 rfl x rfl<|oB h fun r9 ar _ f h=>qan (h.cells 3 rfl rfl) (h.cells 3 rfl rfl)<|oB h fun au av _ f h=>qan (h.cells 4 rfl rfl) (h.cells 4 rfl rfl)<|oD h 1 rfl (ndV x) fun aw h f=>qaj (h.cells 4 rfl rfl)<|oD h 0 rfl (ndV x) fun ax h f=>?_
 case' b=>
  refine oC h 2 rfl x rfl<|oC h 2 rfl x rfl<|oB h fun au ar _ f h=>qan (h.cells 3 rfl rfl) (h.cells 3 rfl rfl)<|oB h fun r9 av _ f h=>qan (h.cells 4 rfl rfl) (h.cells 4 rfl rfl)<|oD h 0 rfl (ndV x) fun aw h f=>qaj (h.cells 4 rfl rfl)<|oD h 1 rfl (ndV x) fun ax h f=>?_;have h:=qhN h (List.Perm.swap _ _ _)
 all_goals
  refine oA h 4 rfl x.1 rfl ?_;apply qaa<;>intro hc;rw[h0] at hc;unfold MidOk at hm;rw[if_pos hc] at hm;have hH:halvesN n mid=({ n with keys:=n.keys.take mid,vals:=n.vals.take mid },{ n with keys:=n.keys.drop mid,vals:=n.vals.drop mid },n.keys.getD mid []):=(by unfold halvesN;rw[if_pos hc]);rw[hH] at kk;have h:=oF h;refine oA h 4 rfl x.2.1 rfl<|RdK.take3 z mid rfl (by omega) fun I af=>oA h 4 rfl x.2.2.1 rfl<|RdK.take3 U mid rfl (by omega) fun V ag=>oD h 1 rfl (ndV (x.1,I,x.2.2.1,x.2.2.2)) fun aF h f=>qaj (h.cell 4 rfl rfl)<|oD h 1 rfl (ndV (x.1,I,V,x.2.2.2)) fun aG h f=>?_;have h:=oF h;refine oA h 4 rfl x.2.1 rfl<|RdK.from z mid rfl (by omega) fun J ah=>oA h 4 rfl x.2.2.1 rfl<|RdK.from U mid rfl (by omega) fun aa ai=>oD h 0 rfl (ndV (x.1,J,x.2.2.1,x.2.2.2)) fun aH h f=>qaj (h.cell 4 rfl rfl)<|oD h 0 rfl (ndV (x.1,J,aa,x.2.2.2)) fun aI h f=>?_;have h:=oF h;refine oC h 1 rfl (x.1,I,V,x.2.2.2) rfl<|oC h 0 rfl (x.1,J,aa,x.2.2.2) rfl<|oA h 4 rfl x.2.1 rfl ?_;have C:mid<pk.length:=(by omega);refine RdK.get' (z.frame0 h.fr) mid rfl C fun aJ E hh=>oD h 3 rfl (ndV (x.1,I,V,x.2.2.2)) fun aK h f=>qap (hh _ (z.frame0 h.fr)) (h.cell 4 rfl rfl) (h.cells 0 rfl rfl)<|oD h 2 rfl (ndV (x.1,J,aa,x.2.2.2)) fun az h f=>qan (hh _ (z.frame0 h.fr)) (h.cell 4 rfl rfl)<|oC h 3 rfl (x.1,I,V,x.2.2.2) rfl<|oC h 2 rfl (x.1,J,aa,x.2.2.2) rfl<|kk _ _ _ az ⟨h0,⟨fun a E=>y.1 a (yU E),fun a E=>y.2.1 a (yU E),y.2.2⟩,⟨pk.take mid,af.frame0 h.fr,by rw[qc0,u]⟩,⟨pv.take mid,ag.frame0 h.fr,by rw[qc0,A]⟩,G.frame0 h.fr⟩
   ⟨h0,⟨fun a E=>y.1 a (yT E),fun a E=>y.2.1 a (yT E),y.2.2⟩,⟨pk.drop mid,ah.frame0 h.fr,by rw[qcl,u]⟩,⟨pv.drop mid,ai.frame0 h.fr,by rw[qcl,A]⟩,G.frame0 h.fr⟩ ?_ h.fr
  rw[<- u,qdP C];exact (z.2 _ (zW C)).frame0 h.fr;rw[h0] at hc;have ak:¬n.leaf=true:=(by rw[hc];decide);unfold MidOk at hm;rw[if_neg ak] at hm;have hH:halvesN n mid=({ n with kids:=n.kids.take mid,keys:=n.keys.take (mid-1) },{ n with kids:=n.kids.drop mid,keys:=n.keys.drop mid },n.keys.getD (mid-1) []):=(by unfold halvesN;rw[if_neg ak]);rw[hH] at kk;have em:wrap .i64 ((mid:Int)-1)=((mid-1:Nat):Int):=(by rw[wi' _ (by omega)];omega);have h:=oF h;refine oA h 4 rfl x.2.2.2 rfl<|Rds.part3 G mid rfl (by omega) fun O al=>oA h 4 rfl x.2.1 rfl<|RdK.take3 z (mid-1) em (by omega) fun ab am=>oD h 1 rfl (ndV (x.1,x.2.1,x.2.2.1,O)) fun aL h f=>qaj (h.cell 4 rfl rfl)<|oD h 1 rfl (ndV (x.1,ab,x.2.2.1,O)) fun aM h f=>?_;have h:=oF h;refine oA h 4 rfl x.2.2.2 rfl<|Rds.from1 G mid rfl (by omega) fun R an=>oA h 4 rfl x.2.1 rfl<|RdK.from z mid rfl (by omega) fun ac ao=>oD h 0 rfl (ndV (x.1,x.2.1,x.2.2.1,R)) fun aN h f=>qaj (h.cell 4 rfl rfl)<|oD h 0 rfl (ndV (x.1,ac,x.2.2.1,R)) fun aO h f=>?_;have h:=oF h;refine oC h 1 rfl (x.1,ab,x.2.2.1,O) rfl<|oC h 0 rfl (x.1,ac,x.2.2.1,R) rfl<|oA h 4 rfl x.2.1 rfl ?_;have C:mid-1<pk.length:=(by omega);refine RdK.get' (z.frame0 h.fr) (mid-1) em C fun aP E hh=>oD h 3 rfl (ndV (x.1,ab,x.2.2.1,O)) fun aQ h f=>qap (hh _ (z.frame0 h.fr)) (h.cell 4 rfl rfl) (h.cells 0 rfl rfl)<|oD h 2 rfl (ndV (x.1,ac,x.2.2.1,R)) fun aA h f=>qan (hh _ (z.frame0 h.fr)) (h.cell 4 rfl rfl)<|oC h 3 rfl (x.1,ab,x.2.2.1,O) rfl<|oC h 2 rfl (x.1,ac,x.2.2.1,R) rfl<|kk _ _ _ aA ⟨h0,⟨fun a E=>y.1 a (yU E),y.2.1,fun a E=>y.2.2 a (yU E)⟩,⟨pk.take (mid-1),am.frame0 h.fr,by rw[qc0,u]⟩,⟨pv,U.frame0 h.fr,A⟩,al.frame0 h.fr⟩
   ⟨h0,⟨fun a E=>y.1 a (yT E),y.2.1,fun a E=>y.2.2 a (yT E)⟩,⟨pk.drop mid,ao.frame0 h.fr,by rw[qcl,u]⟩,⟨pv,U.frame0 h.fr,A⟩,an.frame0 h.fr⟩ ?_ h.fr
  rw[<- u,qdP C];exact (z.2 _ (zW C)).frame0 h.fr
end
end
section
structure Sg (S0:List Nat) (w0 wa:World) (F T:List Nat):Prop where
 tot:Fr S0 w0 wa
 new:∀ b∈F,b∈S0\/w0.heap.size<=b
 own:∀ b∈T,b∈S0\/w0.heap.size<=b
abbrev bks (L:List (Nat×Obj)):List Nat:=L.map (·.1)
section
variable {dbk pb j:Nat} {FD S0 Y Y0 F0 F F' T:List Nat} {D:DiskM} {w0 wa w w':World} {M M':PgM} {L:List (Nat×Obj)}
def Sg.start(F:List Nat)(w:World):Sg F w w F []:=⟨.refl _ _,fun b u=>.inl u,fun _ h=>nomatch h⟩
def Sg.fr(g:Sg S0 w0 wa F T)(h:Own T wa w L):Fr S0 w0 w:=g.tot.trans' h.fr g.own
def Sg.bks(g:Sg S0 w0 wa F T)(h:Own T wa w L):∀b∈bks L,b∈S0\/w0.heap.size<=b:=fun b y=>by obtain⟨q,z,rfl⟩:=mem_map.1 y;rcases h.own q z with u|u;exact g.own _ u;exact .inr (zL g.tot.size u)
def qjh(h:Own T wa w L):∀b∈bks L,b<w.heap.size:=fun b u=>by obtain⟨q,y,rfl⟩:=mem_map.1 u;exact qab (h.blk q y)
def TW.now(y:TW dbk pb FD D j wa (T++Y) F M)(h:Own T wa w L):TW dbk pb FD D j w (bks L++Y) F M:=
 y.frameY (h.fr.mono fun b u _=>by simp[u]) (fun b u=>(zD.1 u).elim (qjh h b) fun u=>yC (y.ylt b (by simp[u])) h.fr.size) fun b u=>(zD.1 u).elim (fun u=>by obtain⟨q,z,rfl⟩:=mem_map.1 u;exact (h.own q z).imp (fun h=>zH _ h) id) fun u=>.inl (zI _ u)
def TW.now0(u:TW dbk pb FD D j wa Y F M)(h:Own [] wa w L):TW dbk pb FD D j w (bks L++Y) F M:=TW.now (T:=[]) u h
def qaV(h:Own T wa w L)(f:Fr S w w')(y:∀b∈bks L,b∉S):Own (bks L) w' w' L:=
 ⟨fun q u=>by rw[f.block q.1 (qab (h.blk q u)) (y _ (zY u))];exact h.blk q u,h.nodup,.refl _ _,fun q u=>.inl (zY u)⟩
def TW.own(u:TW dbk pb FD D j w (bks L++Y) F M)(h:Own T wa w L)(f:Fr F w w'):Own (bks L) w' w' L:=qaV h f fun b y=>u.yf b (by simp[y])
def Sg.next(g:Sg S0 w0 wa F T)(h:Own T wa w L)(f:Fr F w w')(n:∀b∈F',b∈F\/w.heap.size<=b):Sg S0 w0 w' F' (Go.Proofs.YtmmkegapckbomaaGreatDoor.bks L):=
 ⟨(g.fr h).trans' f g.new,fun b u=>(n b u).elim (g.new b) fun y=>.inr (zL (g.fr h).size y),g.bks h⟩
def Sg.next0(g:Sg S0 w0 wa F T)(h:Own T wa w L)(f:Fr [] w w'):Sg S0 w0 w' F (Go.Proofs.YtmmkegapckbomaaGreatDoor.bks L):=
 ⟨(g.fr h).trans' f fun _ h=>(nomatch h),g.new,g.bks h⟩
def qmV(h:Own T wa w L):∀b∈Zo FD (Go.Proofs.YtmmkegapckbomaaGreatDoor.bks L++Y) F,b∈Zo FD (T++Y) F\/wa.heap.size<=b:=fun b u=>by rcases zD.1 u with u|u;rcases zD.1 u with u|u;exact .inl (by simp[u]);rcases zG.1 u with u|u;exact .inl (by simp[u]);rcases zD.1 u with u|u;obtain⟨q,y,rfl⟩:=mem_map.1 u;exact (h.own q y).imp (fun h=>by simp[h]) id;exact .inl (by simp[u]);exact .inl (by simp[u])
def qe8:∀b∈Zo FD Y F,b∈Zo FD (S++Y) F:=fun b h=>by simp only[Zo,zD,zG] at h⊢;rcases h with (h|h|h)|h<;>simp[h]
def zoF{b:Nat}(h:b∈F):b∈Zo FD Y F:=zI _ h
def NodeR.now(u:NodeR (Zo FD (T++Y) F) wa x n)(h:Own T wa w L):NodeR (Zo FD (bks L++Y) F) w x n:=u.frame (h.fr.mono fun b y _=>by simp[y]) (qmV h)
def NodeR.now0(u:NodeR (Zo FD Y F) wa x n)(h:Own [] wa w L):NodeR (Zo FD (bks L++Y) F) w x n:=NodeR.now (T:=[]) u h
def NodeR.next(h:NodeR (Zo FD Y F) w x n)(f:Fr F w w')(u:∀b∈F',b∈F\/w.heap.size<=b):NodeR (Zo FD Y F') w' x n:=h.frame (f.mono fun b y _=>zoF y) (TW.znew u)
def qaL(u:RdB (Zo FD (T++Y) F) wa s l)(h:Own T wa w L):RdB (Zo FD (bks L++Y) F) w s l:=u.frame (h.fr.mono fun b y _=>by simp[y]) (qmV h)
def qbp(u:RdB (Zo FD Y F) wa s l)(h:Own [] wa w L):RdB (Zo FD (bks L++Y) F) w s l:=qaL (T:=[]) u h
def qqg(h:RdB (Zo FD Y F) w s l)(f:Fr F w w')(u:∀b∈F',b∈F\/w.heap.size<=b):RdB (Zo FD Y F') w' s l:=h.frame (f.mono fun b y _=>zoF y) (TW.znew u)
def qlx(h:RdB (Zo FD (S++Y) F) w s l):RdB (Zo FD Y F) w s l:=h.frame (.refl _ _) fun b u=>.inl (qe8 b u)
def TW.drop0(h:TW dbk pb FD D j w (T++Y) F M):TW dbk pb FD D j w Y F M:=h.weakY fun b u=>zI _ u
abbrev GrC:=Int×Bool×Sl×Int
def grX (g:Grown) (ks:Sl):GrC:=(g.page,g.fresh,ks,g.other)
abbrev GR:TypeId:=192
def grV (x:GrC):Array Value:=#[.u x.1,.bool x.2.1,x.2.2.1.v,.u x.2.2.2]
def qd7:U32 0:=⟨by decide,by decide⟩
def qpQ{k:Int}(h:M.Wf):U32 (makeV M k b).1.1:=by
 unfold makeV;split;exact qd7;split;exact qd7;split;exact qd7;rename_i n r u
 have:=h.range n (by rw[u];simp)
 have:=h.n4
 exact⟨by dsimp only;omega,by dsimp only;omega⟩
def qbC(h:M.Wf)(u:U32 p):U32 (storeN k v M p n).1.1:=by unfold storeN;split;exact qd7;split;exact u;split;exact qpQ h;exact qpQ h
structure GOk (g:Grown):Prop where
 page:U32 g.page
 other:U32 g.other
 key:IsB g.key
def IsB.nil:IsB []:=fun _ h=>nomatch h
def qlJ:GOk zeroG:=⟨⟨by decide,by decide⟩,⟨by decide,by decide⟩,.nil⟩
def qbc{l:List Key}(h:∀a∈l,IsB a)(i:Nat):IsB (l.getD i []):=by
 rw[yQ];cases e:l[i]? with
 | none=>exact .nil
 | some a=>exact h a (yE e)
def qom{t:Int}{fresh:Bool}{K:GrC×Int->WP}(hT:TW dbk pb FD D j w0 Y F M)(hx:NodeR (Zo FD Y F) w0 x n)(h1:n.keys.length<=100000)(h2:n.vals.length<=100000)(h3:n.kids.length<=100000)(hm:(sizeN n k v).1>(sizeN n k v).2->MidOk n ((sizeN n k v).1 / 2))(hp:U32 p)(kk:∀ks F' w',GOk (splitN k v M p n fresh).1.1->TW dbk pb FD D j w' Y F' (splitN k v M p n fresh).2->RdB (Zo FD Y F') w' ks (splitN k v M p n fresh).1.1.key->Fr F w0 w'->(∀b∈F',b∈F\/w0.heap.size<=b)->K (grX (splitN k v M p n fresh).1.1 ks,(splitN k v M p n fresh).1.2) w'): cW 139 [.agg (wkV (wkX k v pb t)),.u p,.agg (ndV x),.bool fresh] [.agg qaZ,.one .i] w0 K:=by
 refine qjH ?_;unfold qfD;have h:=oE [] w0;have g:=Sg.start F w0;have hl:=hx.lens;have aC:(sizeN n k v).1<=100000:=(by unfold sizeN;split<;>assumption);refine oB h fun r1 w2 _ f h=>oB h fun r3 w4 _ f h=>oB h fun r5 w6 _ f h=>oB h fun r7 w8 _ f h=>oD h 0 rfl (grV (0,fresh,⟨none,0,0⟩,0)) fun w9 h f=>oC h 3 rfl (shX k v) rfl<|oC h 2 rfl x rfl<|qnm (k:=k) (v:=v) hl fun aH aj=>?_;have h:=h.frame0 aj;refine qaf (fun _ w'=>∃(x':NdC) (n':NodeM) (ks:Sl) (key:Key) (o:Int) (F' T:List Nat) (wa:World) (M':PgM),Sg F w0 wa F' T/\TW dbk pb FD D j wa (T++Y) F' M'/\Own T wa w' [(r7,.cells (grV (0,fresh,ks,o)) GR (0,0)),(r5,.cells (grV (0,false,⟨none,0,0⟩,0)) GR (0,0)),(r3,.cells (ndV x') ND (0,0)),(r1,.cells (wkV (wkX k v pb t)) WK (0,0))]/\
   NodeR (Zo FD (T++Y) F') wa x' n'/\RdB (Zo FD (T++Y) F') wa ks key/\n'.keys.length<=100000/\n'.vals.length<=100000/\n'.kids.length<=100000/\U32 o/\IsB key/\splitN k v M p n fresh=((⟨(storeN k v M' p n').1.1,fresh,key,o⟩,(storeN k v M' p n').1.2),(storeN k v M' p n').2)) ?_ ?_
 apply qaa<;>intro C;have C:(sizeN n k v).1>(sizeN n k v).2:=(by have:=zC C;dsimp only at this;omega);have ad:=hm C;have G:wrap .i64 (Int.tdiv ((sizeN n k v).1:Int) 2)=(((sizeN n k v).1 / 2:Nat):Int):=(by rw[Int.tdiv_eq_ediv_of_nonneg (by omega),wi' _ (by omega)];rfl);generalize ae:(sizeN n k v).1 / 2=y at ad G;refine oC h 2 rfl x rfl ?_;dsimp only;rw[G];have z:=hT.now0 h;refine qt1 (hx.now0 h) ad (by omega) fun xl xr ks aI ak al O R=>?_;have I:=z.frame0 R;have g:=g.next0 h R;have h:=qaV h R fun _ _ h=>nomatch h;refine oB h fun aJ aK _ f h=>oB h fun aL aM _ f h=>oD h 1 rfl (ndV xl) fun aN h f=>oD h 0 rfl (ndV xr) fun aO h f=>oC h 5 rfl (wkX k v pb t) rfl<|oC h 0 rfl xr rfl ?_;have hH:(halvesN n y).1.keys.length<=100000/\(halvesN n y).1.vals.length<=100000/\(halvesN n y).1.kids.length<=100000/\(halvesN n y).2.1.keys.length<=100000/\(halvesN n y).2.1.vals.length<=100000/\(halvesN n y).2.1.kids.length<=100000:=by unfold halvesN;split<;>simp only[yK,yB]<;>omega
 refine qbB (I.now h) (al.now h) (by omega) (by omega) (by omega) fun F1 ao J E U=>?_;have V:=(ak.now h).next E U
 have aa:=qqg (qaL O h) E U;have g:=g.next h E U
 have h:=(I.now h).own h E;apply qaa<;>intro A;have ap:(storeN k v M 0 (halvesN n y).2.1).1.2≠0:=by rw[zT] at A;exact zR.1 A
 have e:splitN k v M p n fresh=((zeroG,(storeN k v M 0 (halvesN n y).2.1).1.2),(storeN k v M 0 (halvesN n y).2.1).2):=(by unfold splitN;rw[if_pos C,ae,if_pos ap]);rw[e] at kk;exact oD h 3 rfl (grV (0,false,⟨none,0,0⟩,0)) fun aq h f=>oC h 3 rfl (0,false,⟨none,0,0⟩,0) rfl<|kk ⟨none,0,0⟩ F1 aq qlJ (J.now h).drop0 (.nil _ _ _ _) (g.fr h) g.new;have he:¬(storeN k v M 0 (halvesN n y).2.1).1.2≠0:=fun e=>by rw[yD,yO] at A;exact e A
 refine oC h 1 rfl xl rfl<|oD h 4 rfl (ndV xl) fun aQ h f=>oG h 2 rfl (grV (0,fresh,⟨none,0,0⟩,(storeN k v M 0 (halvesN n y).2.1).1.1)) rfl rfl (zO rfl) fun aR h f=>oG h 2 rfl (grV (0,fresh,ks,(storeN k v M 0 (halvesN n y).2.1).1.1)) rfl rfl (zO rfl) fun aS h f=>⟨xl,(halvesN n y).1,ks,(halvesN n y).2.2,_,F1,_,ao,_,g,J,h.sub (.cons _ (.cons _ (.refl _))),V,aa,hH.1,hH.2.1,hH.2.2.1,qbC hT.wf ⟨by decide,by decide⟩,?_,?_⟩;unfold halvesN;split;exact qbc hx.2.1.1 _;exact qbc hx.2.1.1 _;unfold splitN;rw[if_pos C,ae,if_neg he];have C:¬(sizeN n k v).1>(sizeN n k v).2:=(by have:=zB C;dsimp only at this;omega);refine⟨x,n,⟨none,0,0⟩,[],0,F,[],w0,M,g,hT,h,hx,.nil _ _ _ _,h1,h2,h3,⟨by decide,by decide⟩,.nil,?_⟩;unfold splitN;rw[if_neg C];rintro aT aU ⟨x',n',ks,key,o,F1,T,wa,M',g,z,h,ar,au,l1,l2,l3,uo,bk,e⟩;rw[e] at kk;refine oC h 3 rfl (wkX k v pb t) rfl<|oC h 2 rfl x' rfl<|qbB (z.now h) (ar.now h) (by omega) (by omega) (by omega) fun F2 aY af ab ag=>?_;have O:=qqg (qaL au h) ab ag;have g:=g.next h ab ag
 have h:=(z.now h).own h ab;exact oD h 0 rfl (grV ((storeN k v M' p n').1.1,fresh,ks,o)) fun aZ h f=>oC h 0 rfl ((storeN k v M' p n').1.1,fresh,ks,o) rfl<|oD h 1 rfl (grV ((storeN k v M' p n').1.1,fresh,ks,o)) fun av h f=>oC h 1 rfl ((storeN k v M' p n').1.1,fresh,ks,o) rfl<|kk ks F2 av ⟨qbC z.wf hp,uo,bk⟩ (af.now h).drop0 (qlx (qaL O h)) (g.fr h) g.new
end
end
section
section
variable {Z:List Nat} {w w':World} {s:Sl} {l:List Key} {B:List Nat}
def qnQ{α β:Type}(f:α->β)(l:List α)(i:Nat)(x:α):(insAt l i x).map f=insAt (l.map f) i (f x):=by unfold insAt;rw[xJ,xJ,xL,xM];rfl
def qnH{α β:Type}(f:α->β)(l:List α)(i:Nat):(delAt l i).map f=delAt (l.map f) i:=by unfold delAt;rw[xJ,xL,xM]
def qf6{α:Type}{l:List α}{y:α}(h:y∈delAt l i):y∈l:=by unfold delAt at h;exact (zD.1 h).elim yU yT
abbrev NewZ (Z:List Nat) (w:World) (Z':List Nat):Prop:=∀b∈Z',b∈Z\/w.heap.size<=b
def qgH{pk pk':Kps}{Z':List Nat}{z:Sl}{B':List Nat}{l':List Key}(A:∀p∈pk,RdB Z w p.1 p.2)(u:Buf encSl 1 w' z (slsP pk') B')(e:keyP pk'=l')(f:Fr B w w')(y:∀b∈B,b∈Z)(C:NewZ Z w Z')(E:∀p∈pk',p∈pk\/RdB Z w p.1 p.2):BufK Z' w' z l' B':=
 ⟨pk',u,e,fun p h=>((E p h).elim (A p) id).frame (f.mono fun b u _=>y b u) C⟩
def BufK.ins{ii:Int}{ks:Sl}{key:Key}{vb:Nat}{T':TypeId}(h:BufK Z w s l B)(y:∀b∈B,b∈Z)(hi:i<=l.length)(E:ii=i)(C:l.length<=100000)(G:w.heap[vb]?=some (.cells #[elSl ks] T' (0,0)))(z:vb∉B)(I:RdB Z w ks key)(J:∀u B' w',(∀Z',NewZ Z w Z'->BufK Z' w' u (insAt l i key) B')->Fr B w w'->(∀b∈B',b∈B\/w.heap.size<=b)->K u w'): cW 138 [s.v,.i ii,.slice (pW vb) 1 1] [.one .slice] w K:=by obtain⟨pk,O,rfl,A⟩:=h;rw[zK] at hi C;refine qsi O (by rw[zK];exact hi) E (by rw[zK];exact C) G z fun u B' w' R f n=>J u B' w' (fun Z' U=>qgH (pk':=insAt pk i (ks,key)) A (by rw[show slsP (insAt pk i (ks,key))=insAt (slsP pk) i ks from qnQ _ _ _ _];exact R) (qnQ _ _ _ _) f y U fun p A=>?_) f n;rcases qf7 A with rfl|h;exact .inr I;exact .inl h
def BufK.del{ii jj:Int}(h:BufK Z w s l B)(y:∀b∈B,b∈Z)(hi:i<l.length)(C:ii=i)(E:jj=((i+1:Nat):Int))(A:l.length<=100000)(G:∀u w',(∀Z',NewZ Z w Z'->BufK Z' w' u (delAt l i) B)->Fr B w w'->K u w'): cW 141 [s.v,.i ii,.i jj] [.one .slice] w K:=by obtain⟨pk,I,rfl,z⟩:=h;rw[zK] at hi A;exact qsf I (by rw[zK];exact hi) C E (by rw[zK];exact A) fun u w' J f=>G u w' (fun Z' O=>qgH (pk':=delAt pk i) z (by rw[show slsP (delAt pk i)=delAt (slsP pk) i from qnH _ _ _];exact J) (qnH _ _ _) f y O fun p z=>.inl (qf6 z)) f
def BufK.set{i:Nat}{ii:Int}{ks:Sl}{key:Key}{K:WP}(h:BufK Z w s l B)(u:∀b∈B,b∈Z)(hi:i<l.length)(A:ii=i)(C:RdB Z w ks key)(E:∀w',(∀Z',NewZ Z w Z'->BufK Z' w' s (l.set i key) B)->Fr B w w'->K w'):idx s ii 1 fun a=>st a [ks.v] w K:=by obtain⟨pk,z,rfl,y⟩:=h;rw[zK] at hi;refine Buf.idxAt z A (by rw[zK];exact hi) fun b G=>?_;subst G;refine Buf.stAt (e:=elSl) (x:=ks) (fun _=>rfl) z (by rw[zK];exact hi) rfl rfl fun w' I f=>E w' (fun Z' J=>qgH (pk':=pk.set i (ks,key)) y (by rw[show slsP (pk.set i (ks,key))=(slsP pk).set i ks from map_set];exact I) (map_set) f u J fun p y=>?_) f;rcases mem_or_eq_of_mem_set y with h|rfl;exact .inl h;exact .inr C
def BufK.app1{ks:Sl}{key:Key}{vb:Nat}{T':TypeId}(h:BufK Z w s l B)(y:∀b∈B,b∈Z)(A:l.length<=100000)(C:w.heap[vb]?=some (.cells #[elSl ks] T' (0,0)))(E:RdB Z w ks key)(G:∀u B' w',(∀Z',NewZ Z w Z'->BufK Z' w' u (l++[key]) B')->Fr B w w'->(∀b∈B',b∈B\/w.heap.size<=b)->K u w'): Pt.run [Ty1.one Cell.slice] ((Builtin.append_ #[22,22] 22 #[s.v,.slice (pW vb) 1 1]).run prog w) K:=by obtain⟨pk,I,rfl,z⟩:=h;rw[zK] at A;refine appK I (by rw[zK];exact A) C fun u B' w' J f n=>G u B' w' (fun Z' O=>qgH (pk':=pk++[(ks,key)]) z (by rw[show slsP (pk++[(ks,key)])=slsP pk++[ks] by simp];exact J) (by simp) f y O fun p z=>?_) f n;rcases zD.1 z with h|h;exact .inl h;rw[zE.1 h];exact .inr E
def BufK.appAll(h:BufK Z w s l B)(z:∀b∈B,b∈Z)(J:l.length+ps.length<=100000)(u:Rds encSl 1 S w src (slsP ps))(A:∀p∈ps,RdB Z w p.1 p.2)(O:∀y B' w',(∀Z',NewZ Z w Z'->BufK Z' w' y (l++keyP ps) B')->Fr B w w'->(∀b∈B',b∈B\/w.heap.size<=b)->K y w'): Pt.run [Ty1.one Cell.slice] ((Builtin.append_ #[22,22] 22 #[s.v,src.v]).run prog w) K:=by obtain⟨pk,R,rfl,C⟩:=h;rw[zK] at J;obtain⟨U,E,V,G,I⟩:=qma;refine Buf.appSrc (ys:=slsP ps) (e:=23) R qcW (by kernel_rfl) E V G rfl (qe5 (e':=23) u qcW qtT) u.1 (by rw[I,zK,u.1,zK];omega) (by rw[zK,u.1,zK];omega) fun y B' w' b' f n _=>O y B' w' (fun Z' hZ=>qgH (pk':=pk++ps) C (by rw[show slsP (pk++ps)=slsP pk++slsP ps by simp];exact b') (by simp) f z hZ fun p C=>?_) f n;rcases zD.1 C with h|h;exact .inl h;exact .inr (A p h)
def qwu{l ys:List Int}(h:Buf encU 1 w s l B)(U:l.length+ys.length<=100000)(y:Rds encU 1 S w src ys)(G:∀z B' w',Buf encU 1 w' z (l++ys) B'->Fr B w w'->(∀b∈B',b∈B\/w.heap.size<=b)->K z w'): Pt.run [Ty1.one Cell.slice] ((Builtin.append_ #[92,92] 92 #[s.v,src.v]).run prog w) K:=by obtain⟨I,A,J,C,E⟩:=qed;exact Buf.appSrc (ys:=ys) (e:=37) h qaK (by kernel_rfl) A J C rfl (qe5 (e':=37) y qaK (fun x u O=>by rw[zE.1 O];rfl)) y.1 (by rw[E,y.1];omega) (by rw[y.1];omega) fun z B' w' R f n _=>G z B' w' R f n
def qx6{l:List Int}{ii x:Int}{K:WP}(h:Buf encU 1 w s l B)(hi:i<l.length)(y:ii=i)(z:∀w',Buf encU 1 w' s (l.set i x) B->Fr B w w'->K w'):idx s ii 1 fun a=>st a [.u x] w K:=by refine Buf.idxAt h y hi fun b A=>?_;subst A;exact Buf.stAt (e:=elU) (x:=x) (fun _=>rfl) h hi rfl rfl z
end
section
variable {Z:List Nat} {w:World} {x:NdC} {n:NodeM} {B:List Nat}
def NodeB.keysL(h:NodeB Z w x n B):∃Bk,BufK Z w x.2.1 n.keys Bk/\(∀b∈Bk,b∈B)/\∀A z Bk' w',Fr Bk w w'->(∀b∈Bk,b∈Z)->(∀b∈Bk',b∈Bk\/w.heap.size<=b)->(∀a∈z,IsB a)-> ∃B',(∀b∈B',b∈B\/w.heap.size<=b)/\∀Z',NewZ Z w Z'->BufK Z' w' A z Bk'->NodeB Z' w' (x.1,A,x.2.2) { n with keys:=z } B':=by
 obtain⟨h0,C,Bk,K,O,rfl,E,hk,R,U⟩:=h;obtain⟨n1,n2,G⟩:=yL.1 E;refine⟨Bk,hk,fun b u=>by simp[u],fun A z Bk' w' f hz V hl=>⟨Bk'++(K++O),fun b u=>?_,fun Z' hZ y=>⟨h0,⟨hl,C.2⟩,Bk',K,O,rfl,?_,y,R.frame f (fun b u I=>G b I b (by simp[u]) rfl) (fun b u=>.inl (hz b u)) hZ,U.frame f fun b u I=>G b I b (by simp[u]) rfl⟩⟩⟩;rcases zD.1 u with u|u;exact (V b u).imp (fun h=>by simp[h]) id;exact .inl (zI _ u);have J:Bk'.Nodup:=(by obtain⟨_,u,_⟩:=y;exact qcT u);refine yL.2 ⟨J,n2,fun a ha b u e=>?_⟩;subst e;rcases V a ha with h1|h1;exact G a h1 a u rfl;rcases zD.1 u with u|u
 have:=R.lt a u;omega
 have:=U.lt a u;omega
def NodeB.valsL(h:NodeB Z w x n B):∃z,BufK Z w x.2.2.1 n.vals z/\(∀b∈z,b∈B)/\∀J I y w',Fr z w w'->(∀b∈z,b∈Z)->(∀b∈y,b∈z\/w.heap.size<=b)->(∀a∈I,IsB a)-> ∃B',(∀b∈B',b∈B\/w.heap.size<=b)/\∀Z',NewZ Z w Z'->BufK Z' w' J I y->NodeB Z' w' (x.1,x.2.1,J,x.2.2.2) { n with vals:=I } B':=by
 obtain⟨h0,A,Bk,z,Bi,rfl,K,hk,hv,hi⟩:=h;obtain⟨n1,n2,O⟩:=yL.1 K;obtain⟨m1,m2,m3⟩:=yL.1 n2;refine⟨z,hv,fun b u=>by simp[u],fun J I y w' f hz R hl=>⟨Bk++(y++Bi),fun b u=>?_,fun Z' hZ C=>⟨h0,⟨A.1,hl,A.2.2⟩,Bk,y,Bi,rfl,?_,hk.frame f (fun b u U=>O b u b (by simp[U]) rfl) (fun b u=>.inl (hz b u)) hZ,C,hi.frame f fun b u U=>m3 b U b u rfl⟩⟩⟩;simp only[zD] at u⊢;rcases u with u|u|u;exact .inl (.inl u);exact (R b u).imp (fun h=>.inr (.inl h)) id;exact .inl (.inr (.inr u));have V:y.Nodup:=(by obtain⟨_,u,_⟩:=C;exact qcT u);refine yL.2 ⟨n1,yL.2 ⟨V,m2,fun a E b u e=>?_⟩,fun a E b u e=>?_⟩;subst e;rcases R a E with G|G;exact m3 a G a u rfl
 have:=hi.lt a u;omega
 subst e;rcases zD.1 u with u|u;rcases R a u with G|G;exact O a E a (by simp[G]) rfl
 have:=hk.lt a E;omega
 exact O a E a (by simp[u]) rfl
def NodeB.kidsL(h:NodeB Z w x n B):∃z,Buf encU 1 w x.2.2.2 n.kids z/\(∀b∈z,b∈B)/\∀J I y w',Fr z w w'->(∀b∈z,b∈Z)->(∀b∈y,b∈z\/w.heap.size<=b)->(∀a∈I,U32 a)-> ∃B',(∀b∈B',b∈B\/w.heap.size<=b)/\∀Z',NewZ Z w Z'->Buf encU 1 w' J I y->NodeB Z' w' (x.1,x.2.1,x.2.2.1,J) { n with kids:=I } B':=by
 obtain⟨h0,C,Bk,V,z,rfl,K,hk,hv,hi⟩:=h;obtain⟨n1,n2,O⟩:=yL.1 K;obtain⟨m1,m2,m3⟩:=yL.1 n2;refine⟨z,hi,fun b u=>by simp[u],fun J I y w' f hz R hl=>⟨Bk++(V++y),fun b u=>?_,fun Z' hZ E=>⟨h0,⟨C.1,C.2.1,hl⟩,Bk,V,y,rfl,?_,hk.frame f (fun b u U=>O b u b (by simp[U]) rfl) (fun b u=>.inl (hz b u)) hZ,hv.frame f (fun b u U=>m3 b u b U rfl) (fun b u=>.inl (hz b u)) hZ,E⟩⟩⟩;simp only[zD] at u⊢;rcases u with u|u|u;exact .inl (.inl u);exact .inl (.inr (.inl u));exact (R b u).imp (fun h=>.inr (.inr h)) id;refine yL.2 ⟨n1,yL.2 ⟨m1,qcT E,fun a A b u e=>?_⟩,fun a A b u e=>?_⟩;subst e;rcases R a u with G|G;exact m3 a A a G rfl
 have:=hv.lt a A;omega
 subst e;rcases zD.1 u with u|u;exact O a A a (by simp[u]) rfl;rcases R a u with G|G;exact O a A a (by simp[G]) rfl
 have:=hk.lt a A;omega
end
structure Ed (dbk pb:Nat) (FD:List Nat) (D:DiskM) (j:Nat) (S0 N0:List Nat) (w0 wa:World) (T Y F:List Nat) (M:PgM) (x:NdC) (n:NodeM) (B:List Nat):Prop where
 sg:Sg S0 w0 wa F T
 tw:TW dbk pb FD D j wa (T++(B++Y)) F M
 node:NodeB (Zo FD (T++(B++Y)) F) wa x n B
 sep:∀ b∈T,b∉B
 bnew:∀ b∈B,b∈N0\/w0.heap.size<=b
 nsub:∀ b∈N0,b∈S0
 ysep:∀ b∈B,b∉Y
section
variable {dbk pb j:Nat} {FD S0 N0 Y F F' T B B':List Nat} {D:DiskM} {w0 wa w w':World} {M M':PgM} {L:List (Nat×Obj)} {x x':NdC} {n n':NodeM}
def Ed.now(e:Ed dbk pb FD D j S0 N0 w0 wa T Y F M x n B)(h:Own T wa w L):Ed dbk pb FD D j S0 N0 w0 w (bks L) Y F M x n B where
 sg:=⟨e.sg.fr h,e.sg.new,e.sg.bks h⟩
 tw:=e.tw.now h
 node:=e.node.frame h.fr (fun b u y=>e.sep b y u) (fun b u=>.inl (by simp[u])) (qmV h)
 sep:=fun b u y=>by
  obtain⟨q,A,rfl⟩:=mem_map.1 u;rcases h.own q A with z|z;exact e.sep _ z y
  have:=e.node.lt _ y;omega
 bnew:=e.bnew
 nsub:=e.nsub
 ysep:=e.ysep
def Ed.rd(e:Ed dbk pb FD D j S0 N0 w0 wa T Y F M x n B):∀b∈B,b∈Zo FD (T++(B++Y)) F:=fun b h=>by simp[h]
def Ed.edit{Bk:List Nat}(e:Ed dbk pb FD D j S0 N0 w0 w (bks L) Y F M x n B)(h:Own T wa w L)(A:∀b∈Bk,b∈B)(f:Fr Bk w w')(E:NodeB (Zo FD (bks L++(B'++Y)) F) w' x' n' B')(z:∀b∈B',b∈B\/w.heap.size<=b):Ed dbk pb FD D j S0 N0 w0 w' (bks L) Y F M x' n' B'/\Own (bks L) w' w' L:=by
 refine⟨⟨⟨e.sg.tot.trans' f fun b u=>(e.bnew b (A b u)).imp (e.nsub b) id,e.sg.new,e.sg.own⟩,e.tw.frameY (f.mono fun b u _=>by simp[A b u]) (fun b u=>?_) (fun b u=>?_),E,fun b u C=>?_,fun b u=>(z b u).elim (e.bnew b) fun y=>.inr (zL e.sg.tot.size y),e.nsub,fun b u G=>?_⟩,qaV h f fun b u C=>e.sep b u (A b C)⟩;rcases zD.1 u with u|u;exact yC (e.tw.ylt b (by simp[u])) f.size;rcases zD.1 u with u|u;exact E.lt b u;exact yC (e.tw.ylt b (by simp[u])) f.size;rcases zD.1 u with u|u;exact .inl (by simp[u]);rcases zD.1 u with u|u;exact (z b u).imp (fun h=>by simp[h]) id;exact .inl (by simp[u]);rcases z b C with y|y;exact e.sep b u y
 have:=e.tw.ylt b (by simp[u]);omega
 rcases z b u with y|y;exact e.ysep b y G
 have:=e.tw.ylt b (by simp[G]);omega
def Ed.newZ(e:Ed dbk pb FD D j S0 N0 w0 w T Y F M x n B)(y:∀b∈B',b∈B\/w.heap.size<=b):NewZ (Zo FD (T++(B++Y)) F) w (Zo FD (T++(B'++Y)) F):=fun b u=>by simp only[Zo,zD,zG] at u⊢;rcases u with (u|u|u|u|u)|u;simp[u];simp[u];simp[u];exact (y b u).imp (fun h=>by simp[h]) id;simp[u];simp[u]
def Ed.next(e:Ed dbk pb FD D j S0 N0 w0 w (bks L) Y F M x n B)(h:Own T wa w L)(z:TW dbk pb FD D j w' (bks L++(B++Y)) F' M')(f:Fr F w w')(y:∀b∈F',b∈F\/w.heap.size<=b):Ed dbk pb FD D j S0 N0 w0 w' (bks L) Y F' M' x n B/\Own (bks L) w' w' L:=by have A:∀b∈bks L,b∉F:=fun b u=>e.tw.yf b (by simp[u]);refine⟨⟨⟨e.sg.tot.trans' f e.sg.new,fun b u=>(y b u).elim (e.sg.new b) fun C=>.inr (zL e.sg.tot.size C),e.sg.own⟩,z,e.node.frame f (fun b u=>e.tw.yf b (by simp[u])) (fun b u=>.inl (zoF u)) (TW.znew y),e.sep,e.bnew,e.nsub,e.ysep⟩,qaV h f A⟩
def Ed.next0(e:Ed dbk pb FD D j S0 N0 w0 w (bks L) Y F M x n B)(h:Own T wa w L)(f:Fr [] w w'):Ed dbk pb FD D j S0 N0 w0 w' (bks L) Y F M x n B/\Own (bks L) w' w' L:=
 e.next h (e.tw.frame0 f) (f.mono fun _ h=>nomatch h) fun b u=>.inl u
def Ed.nodeR(e:Ed dbk pb FD D j S0 N0 w0 w T Y F M x n B):NodeR (Zo FD (T++Y) F) w x n:=
 e.node.rd (fun b h u=>by
  simp only[Zo,zD,zG] at u;have y:=e.tw.sep b (by simp[h]);rcases u with (u|u|u|u)|u;exact y.1 u;exact y.2 u;exact e.sep b u h;exact e.ysep b h u;exact e.tw.yf b (by simp[h]) u) fun b h=>.inl (by
  simp only[Zo,zD,zG] at h⊢;rcases h with (h|h|h|h)|h<;>simp[h])
def Ed.tw'(e:Ed dbk pb FD D j S0 N0 w0 w T Y F M x n B):TW dbk pb FD D j w (T++Y) F M:=e.tw.weakY fun b u=>(zD.1 u).elim (fun h=>by simp[h]) fun h=>by simp[h]
end
end
section
section
variable {dbk pb j:Nat} {FD S0 N0 Y F F' F0 T T1 B B' Bk Bk':List Nat} {D:DiskM} {w0 wa w w':World} {M M':PgM} {L:List (Nat×Obj)} {x x':NdC} {n n':NodeM} {i q:Nat} {ii jj:Int} {ks:Sl} {key:Key} {vb:Nat} {T':TypeId}
structure Keep (FD Y F B B':List Nat) (T:List Nat) (w w':World):Prop where
 rdb:∀ s l,RdB (Zo FD (T++(B++Y)) F) w s l->RdB (Zo FD (T++(B'++Y)) F) w' s l
 node:∀ x n,NodeR (Zo FD (T++(B++Y)) F) w x n->NodeR (Zo FD (T++(B'++Y)) F) w' x n
def Ed.keep(e:Ed dbk pb FD D j S0 N0 w0 w T Y F M x n B)(y:∀b∈Bk,b∈B)(f:Fr Bk w w')(z:∀b∈B',b∈B\/w.heap.size<=b):Keep FD Y F B B' T w w':=⟨fun s l h=>h.frame (f.mono fun b u _=>by simp[y b u]) (e.newZ z),fun x n h=>h.frame (f.mono fun b u _=>by simp[y b u]) (e.newZ z)⟩
def Ed.rdb(e:Ed dbk pb FD D j F0 N0 w0 w T Y F M x n B)(y:RdB (Zo FD Y F0) w0 s l):RdB (Zo FD (T++(B++Y)) F) w s l:=
 y.frame (e.sg.tot.mono fun b u _=>zoF u) fun b u=>by rcases zD.1 u with u|u;rcases zD.1 u with u|u;exact .inl (by simp[u]);rcases zG.1 u with u|u;exact .inl (by simp[u]);rcases zD.1 u with u|u;exact (e.sg.own b u).imp (fun h=>zoF h) id;rcases zD.1 u with u|u;exact (e.bnew b u).imp (fun h=>zoF (e.nsub b h)) id;exact .inl (by simp[u]);exact (e.sg.new b u).imp (fun h=>zoF h) id
def Ed.sub(e:Ed dbk pb FD D j S0 N0 w0 w T Y F M x n B)(y:∀b∈T1,b∈T):Ed dbk pb FD D j S0 N0 w0 w T1 Y F M x n B where
 sg:=⟨e.sg.tot,e.sg.new,fun b u=>e.sg.own b (y b u)⟩
 tw:=e.tw.weakY fun b u=>(zD.1 u).elim (fun h=>zH _ (y b h)) fun h=>zI _ h
 node:=e.node.weak fun b u=>.inl (by simp only[Zo,zD,zG] at u⊢;rcases u with (u|u|u|u)|u;simp[u];simp[u];simp[y b u];simp[u];simp[u])
 sep:=fun b u=>e.sep b (y b u)
 bnew:=e.bnew
 nsub:=e.nsub
 ysep:=e.ysep
def qmX{L:List (Nat×Obj)}{q vb:Nat}{o:Obj}(h:L[q]?=some (vb,o)):vb∈bks L:=mem_map.2 ⟨_,yE h,rfl⟩
def Ed.insK(e:Ed dbk pb FD D j S0 N0 w0 w (bks L) Y F M x n B)(h:Own T wa w L)(hi:i<=n.keys.length)(G:ii=i)(I:n.keys.length<=100000)(q:Nat)(E:L[q]?=some (vb,.cells #[elSl ks] T' (0,0)))(J:RdB (Zo FD (bks L++(B++Y)) F) w ks key)(O:IsB key)(R:∀y B' w',Ed dbk pb FD D j S0 N0 w0 w' (bks L) Y F M (x.1,y,x.2.2) { n with keys:=insAt n.keys i key } B'->Own (bks L) w' w' L->Keep FD Y F B B' (bks L) w w'->K y w'): cW 138 [x.2.1.v,.i ii,.slice (pW vb) 1 1] [.one .slice] w K:=by obtain⟨Bk,z,u,C⟩:=e.node.keysL;refine z.ins (fun b z=>e.rd b (u b z)) hi G I (h.at E) (fun U=>e.sep vb (qmX E) (u vb U)) J fun y Bk' w' V f nk=>?_;obtain⟨B',A,hN⟩:=C y _ Bk' w' f (fun b z=>e.rd b (u b z)) nk fun a ha=>(qf7 ha).elim (fun h=>by rw[h];exact O) (e.node.2.1.1 a);obtain⟨e',h'⟩:=e.edit h u f (hN _ (e.newZ A) (V _ (e.newZ A))) A;exact R y B' w' e' h' (e.keep u f A)
def Ed.insV(e:Ed dbk pb FD D j S0 N0 w0 w (bks L) Y F M x n B)(h:Own T wa w L)(hi:i<=n.vals.length)(G:ii=i)(I:n.vals.length<=100000)(q:Nat)(E:L[q]?=some (vb,.cells #[elSl ks] T' (0,0)))(J:RdB (Zo FD (bks L++(B++Y)) F) w ks key)(O:IsB key)(R:∀y B' w',Ed dbk pb FD D j S0 N0 w0 w' (bks L) Y F M (x.1,x.2.1,y,x.2.2.2) { n with vals:=insAt n.vals i key } B'->Own (bks L) w' w' L->Keep FD Y F B B' (bks L) w w'->K y w'): cW 138 [x.2.2.1.v,.i ii,.slice (pW vb) 1 1] [.one .slice] w K:=by obtain⟨Bk,z,u,C⟩:=e.node.valsL;refine z.ins (fun b z=>e.rd b (u b z)) hi G I (h.at E) (fun U=>e.sep vb (qmX E) (u vb U)) J fun y Bk' w' V f nk=>?_;obtain⟨B',A,hN⟩:=C y _ Bk' w' f (fun b z=>e.rd b (u b z)) nk fun a ha=>(qf7 ha).elim (fun h=>by rw[h];exact O) (e.node.2.1.2.1 a);obtain⟨e',h'⟩:=e.edit h u f (hN _ (e.newZ A) (V _ (e.newZ A))) A;exact R y B' w' e' h' (e.keep u f A)
def Ed.insI{A:Int}(e:Ed dbk pb FD D j S0 N0 w0 w (bks L) Y F M x n B)(h:Own T wa w L)(hi:i<=n.kids.length)(J:ii=i)(O:n.kids.length<=100000)(q:Nat)(I:L[q]?=some (vb,.cells #[.u A] T' (0,0)))(R:U32 A)(U:∀z B' w',Ed dbk pb FD D j S0 N0 w0 w' (bks L) Y F M (x.1,x.2.1,x.2.2.1,z) { n with kids:=insAt n.kids i A } B'->Own (bks L) w' w' L->Keep FD Y F B B' (bks L) w w'->K z w'): cW 140 [x.2.2.2.v,.i ii,.slice (pW vb) 1 1] [.one .slice] w K:=by obtain⟨Bk,C,y,E⟩:=e.node.kidsL;refine qsj C hi J O (h.at I) (fun V=>e.sep vb (qmX I) (y vb V)) fun z Bk' w' hz f nk=>?_;obtain⟨B',G,hN⟩:=E z _ Bk' w' f (fun b C=>e.rd b (y b C)) nk fun a ha=>(qf7 ha).elim (fun h=>by rw[h];exact R) (e.node.2.1.2.2 a);obtain⟨e',h'⟩:=e.edit h y f (hN _ (e.newZ G) hz) G;exact U z B' w' e' h' (e.keep y f G)
def Ed.delK(e:Ed dbk pb FD D j S0 N0 w0 w (bks L) Y F M x n B)(h:Own T wa w L)(hi:i<n.keys.length)(E:ii=i)(G:jj=((i+1:Nat):Int))(I:n.keys.length<=100000)(J:∀z B' w',Ed dbk pb FD D j S0 N0 w0 w' (bks L) Y F M (x.1,z,x.2.2) { n with keys:=delAt n.keys i } B'->Own (bks L) w' w' L->Keep FD Y F B B' (bks L) w w'->K z w'): cW 141 [x.2.1.v,.i ii,.i jj] [.one .slice] w K:=by obtain⟨Bk,y,u,C⟩:=e.node.keysL;refine y.del (fun b y=>e.rd b (u b y)) hi E G I fun z w' O f=>?_;obtain⟨B',A,R⟩:=C z _ Bk w' f (fun b y=>e.rd b (u b y)) (fun b y=>.inl y) fun a U=>e.node.2.1.1 a (qf6 U);obtain⟨V,h'⟩:=e.edit h u f (R _ (e.newZ A) (O _ (e.newZ A))) A;exact J z B' w' V h' (e.keep u f A)
def Ed.delV(e:Ed dbk pb FD D j S0 N0 w0 w (bks L) Y F M x n B)(h:Own T wa w L)(hi:i<n.vals.length)(E:ii=i)(G:jj=((i+1:Nat):Int))(I:n.vals.length<=100000)(J:∀z B' w',Ed dbk pb FD D j S0 N0 w0 w' (bks L) Y F M (x.1,x.2.1,z,x.2.2.2) { n with vals:=delAt n.vals i } B'->Own (bks L) w' w' L->Keep FD Y F B B' (bks L) w w'->K z w'): cW 141 [x.2.2.1.v,.i ii,.i jj] [.one .slice] w K:=by obtain⟨Bk,y,u,C⟩:=e.node.valsL;refine y.del (fun b y=>e.rd b (u b y)) hi E G I fun z w' O f=>?_;obtain⟨B',A,R⟩:=C z _ Bk w' f (fun b y=>e.rd b (u b y)) (fun b y=>.inl y) fun a U=>e.node.2.1.2.1 a (qf6 U);obtain⟨V,h'⟩:=e.edit h u f (R _ (e.newZ A) (O _ (e.newZ A))) A;exact J z B' w' V h' (e.keep u f A)
def Ed.delI(e:Ed dbk pb FD D j S0 N0 w0 w (bks L) Y F M x n B)(h:Own T wa w L)(hi:i<n.kids.length)(E:ii=i)(G:jj=((i+1:Nat):Int))(I:n.kids.length<=100000)(J:∀y B' w',Ed dbk pb FD D j S0 N0 w0 w' (bks L) Y F M (x.1,x.2.1,x.2.2.1,y) { n with kids:=delAt n.kids i } B'->Own (bks L) w' w' L->Keep FD Y F B B' (bks L) w w'->K y w'): cW 214 [x.2.2.2.v,.i ii,.i jj] [.one .slice] w K:=by obtain⟨Bk,z,u,A⟩:=e.node.kidsL;refine qsg z hi E G I fun y w' O f=>?_;obtain⟨B',C,R⟩:=A y _ Bk w' f (fun b z=>e.rd b (u b z)) (fun b z=>.inl z) fun a U=>e.node.2.1.2.2 a (qf6 U);obtain⟨V,h'⟩:=e.edit h u f (R _ (e.newZ C) O) C;exact J y B' w' V h' (e.keep u f C)
def Ed.setK{K:WP}(e:Ed dbk pb FD D j S0 N0 w0 w (bks L) Y F M x n B)(h:Own T wa w L)(hi:i<n.keys.length)(C:ii=i)(E:RdB (Zo FD (bks L++(B++Y)) F) w ks key)(G:IsB key)(I:∀B' w',Ed dbk pb FD D j S0 N0 w0 w' (bks L) Y F M (x.1,x.2.1,x.2.2) { n with keys:=n.keys.set i key } B'->Own (bks L) w' w' L->Keep FD Y F B B' (bks L) w w'->K w'): idx x.2.1 ii 1 fun a=>st a [ks.v] w K:=by
 obtain⟨Bk,y,u,A⟩:=e.node.keysL;refine y.set (fun b y=>e.rd b (u b y)) hi C E fun w' J f=>?_;obtain⟨B',z,O⟩:=A x.2.1 _ Bk w' f (fun b y=>e.rd b (u b y)) (fun b y=>.inl y) fun a R=>(mem_or_eq_of_mem_set R).elim (e.node.2.1.1 a) fun h=>by rw[h];exact G
 obtain⟨U,V⟩:=e.edit h u f (O _ (e.newZ z) (J _ (e.newZ z))) z;exact I B' w' U V (e.keep u f z)
def Ed.setV{K:WP}(e:Ed dbk pb FD D j S0 N0 w0 w (bks L) Y F M x n B)(h:Own T wa w L)(hi:i<n.vals.length)(C:ii=i)(E:RdB (Zo FD (bks L++(B++Y)) F) w ks key)(G:IsB key)(I:∀B' w',Ed dbk pb FD D j S0 N0 w0 w' (bks L) Y F M (x.1,x.2.1,x.2.2.1,x.2.2.2) { n with vals:=n.vals.set i key } B'->Own (bks L) w' w' L->Keep FD Y F B B' (bks L) w w'->K w'): idx x.2.2.1 ii 1 fun a=>st a [ks.v] w K:=by
 obtain⟨Bk,y,u,A⟩:=e.node.valsL;refine y.set (fun b y=>e.rd b (u b y)) hi C E fun w' J f=>?_;obtain⟨B',z,O⟩:=A x.2.2.1 _ Bk w' f (fun b y=>e.rd b (u b y)) (fun b y=>.inl y) fun a R=>(mem_or_eq_of_mem_set R).elim (e.node.2.1.2.1 a) fun h=>by rw[h];exact G
 obtain⟨U,V⟩:=e.edit h u f (O _ (e.newZ z) (J _ (e.newZ z))) z;exact I B' w' U V (e.keep u f z)
def Ed.setI{A:Int}{K:WP}(e:Ed dbk pb FD D j S0 N0 w0 w (bks L) Y F M x n B)(h:Own T wa w L)(hi:i<n.kids.length)(G:ii=i)(I:U32 A)(J:∀B' w',Ed dbk pb FD D j S0 N0 w0 w' (bks L) Y F M (x.1,x.2.1,x.2.2.1,x.2.2.2) { n with kids:=n.kids.set i A } B'->Own (bks L) w' w' L->Keep FD Y F B B' (bks L) w w'->K w'): idx x.2.2.2 ii 1 fun a=>st a [.u A] w K:=by
 obtain⟨Bk,z,y,C⟩:=e.node.kidsL;refine qx6 z hi G fun w' O f=>?_;obtain⟨B',E,R⟩:=C x.2.2.2 _ Bk w' f (fun b z=>e.rd b (y b z)) (fun b z=>.inl z) fun a U=>(mem_or_eq_of_mem_set U).elim (e.node.2.1.2.2 a) fun h=>by rw[h];exact I
 obtain⟨V,h'⟩:=e.edit h y f (R _ (e.newZ E) O) E;exact J B' w' V h' (e.keep y f E)
def Ed.appK(e:Ed dbk pb FD D j S0 N0 w0 w (bks L) Y F M x n B)(h:Own T wa w L)(E:n.keys.length<=100000)(q:Nat)(G:L[q]?=some (vb,.cells #[elSl ks] T' (0,0)))(I:RdB (Zo FD (bks L++(B++Y)) F) w ks key)(J:IsB key)(O:∀y B' w',Ed dbk pb FD D j S0 N0 w0 w' (bks L) Y F M (x.1,y,x.2.2) { n with keys:=n.keys++[key] } B'->Own (bks L) w' w' L->Keep FD Y F B B' (bks L) w w'->K y w'): Pt.run [Ty1.one Cell.slice] ((Builtin.append_ #[22,22] 22 #[x.2.1.v,.slice (pW vb) 1 1]).run prog w) K:=by
 obtain⟨Bk,z,u,C⟩:=e.node.keysL;refine z.app1 (fun b z=>e.rd b (u b z)) E (h.at G) I fun y Bk' w' R f U=>?_;obtain⟨B',A,V⟩:=C y _ Bk' w' f (fun b z=>e.rd b (u b z)) U fun a ha=>(zD.1 ha).elim (e.node.2.1.1 a) fun h=>by rw[zE.1 h];exact J
 obtain⟨e',h'⟩:=e.edit h u f (V _ (e.newZ A) (R _ (e.newZ A))) A;exact O y B' w' e' h' (e.keep u f A)
def Ed.appV(e:Ed dbk pb FD D j S0 N0 w0 w (bks L) Y F M x n B)(h:Own T wa w L)(E:n.vals.length<=100000)(q:Nat)(G:L[q]?=some (vb,.cells #[elSl ks] T' (0,0)))(I:RdB (Zo FD (bks L++(B++Y)) F) w ks key)(J:IsB key)(O:∀y B' w',Ed dbk pb FD D j S0 N0 w0 w' (bks L) Y F M (x.1,x.2.1,y,x.2.2.2) { n with vals:=n.vals++[key] } B'->Own (bks L) w' w' L->Keep FD Y F B B' (bks L) w w'->K y w'): Pt.run [Ty1.one Cell.slice] ((Builtin.append_ #[22,22] 22 #[x.2.2.1.v,.slice (pW vb) 1 1]).run prog w) K:=by
 obtain⟨Bk,z,u,C⟩:=e.node.valsL;refine z.app1 (fun b z=>e.rd b (u b z)) E (h.at G) I fun y Bk' w' R f U=>?_;obtain⟨B',A,V⟩:=C y _ Bk' w' f (fun b z=>e.rd b (u b z)) U fun a ha=>(zD.1 ha).elim (e.node.2.1.2.1 a) fun h=>by rw[zE.1 h];exact J
 obtain⟨e',h'⟩:=e.edit h u f (V _ (e.newZ A) (R _ (e.newZ A))) A;exact O y B' w' e' h' (e.keep u f A)
def Ed.appI{A:Int}(e:Ed dbk pb FD D j S0 N0 w0 w (bks L) Y F M x n B)(h:Own T wa w L)(I:n.kids.length<=100000)(q:Nat)(J:L[q]?=some (vb,.cells #[.u A] T' (0,0)))(O:U32 A)(R:∀z B' w',Ed dbk pb FD D j S0 N0 w0 w' (bks L) Y F M (x.1,x.2.1,x.2.2.1,z) { n with kids:=n.kids++[A] } B'->Own (bks L) w' w' L->Keep FD Y F B B' (bks L) w w'->K z w'): Pt.run [Ty1.one Cell.slice] ((Builtin.append_ #[92,92] 92 #[x.2.2.2.v,.slice (pW vb) 1 1]).run prog w) K:=by
 obtain⟨Bk,C,y,E⟩:=e.node.kidsL;refine qrI C I (h.at J) fun z Bk' w' U f V=>?_;obtain⟨B',G,hN⟩:=E z _ Bk' w' f (fun b C=>e.rd b (y b C)) V fun a ha=>(zD.1 ha).elim (e.node.2.1.2.2 a) fun h=>by rw[zE.1 h];exact O
 obtain⟨e',h'⟩:=e.edit h y f (hN _ (e.newZ G) U) G;exact R z B' w' e' h' (e.keep y f G)
def Ed.appAllK(e:Ed dbk pb FD D j S0 N0 w0 w (bks L) Y F M x n B)(h:Own T wa w L)(G:n.keys.length+ps.length<=100000)(I:Rds encSl 1 S w src (slsP ps))(C:∀p∈ps,RdB (Zo FD (bks L++(B++Y)) F) w p.1 p.2)(J:∀a∈keyP ps,IsB a)(O:∀y B' w',Ed dbk pb FD D j S0 N0 w0 w' (bks L) Y F M (x.1,y,x.2.2) { n with keys:=n.keys++keyP ps } B'->Own (bks L) w' w' L->Keep FD Y F B B' (bks L) w w'->K y w'): Pt.run [Ty1.one Cell.slice] ((Builtin.append_ #[22,22] 22 #[x.2.1.v,src.v]).run prog w) K:=by obtain⟨Bk,z,u,E⟩:=e.node.keysL;refine z.appAll (fun b z=>e.rd b (u b z)) G I C fun y Bk' w' R f U=>?_;obtain⟨B',A,V⟩:=E y _ Bk' w' f (fun b z=>e.rd b (u b z)) U fun a ha=>(zD.1 ha).elim (e.node.2.1.1 a) (J a);obtain⟨e',h'⟩:=e.edit h u f (V _ (e.newZ A) (R _ (e.newZ A))) A;exact O y B' w' e' h' (e.keep u f A)
def Ed.appAllV(e:Ed dbk pb FD D j S0 N0 w0 w (bks L) Y F M x n B)(h:Own T wa w L)(G:n.vals.length+ps.length<=100000)(I:Rds encSl 1 S w src (slsP ps))(C:∀p∈ps,RdB (Zo FD (bks L++(B++Y)) F) w p.1 p.2)(J:∀a∈keyP ps,IsB a)(O:∀y B' w',Ed dbk pb FD D j S0 N0 w0 w' (bks L) Y F M (x.1,x.2.1,y,x.2.2.2) { n with vals:=n.vals++keyP ps } B'->Own (bks L) w' w' L->Keep FD Y F B B' (bks L) w w'->K y w'): Pt.run [Ty1.one Cell.slice] ((Builtin.append_ #[22,22] 22 #[x.2.2.1.v,src.v]).run prog w) K:=by obtain⟨Bk,z,u,E⟩:=e.node.valsL;refine z.appAll (fun b z=>e.rd b (u b z)) G I C fun y Bk' w' R f U=>?_;obtain⟨B',A,V⟩:=E y _ Bk' w' f (fun b z=>e.rd b (u b z)) U fun a ha=>(zD.1 ha).elim (e.node.2.1.2.1 a) (J a);obtain⟨e',h'⟩:=e.edit h u f (V _ (e.newZ A) (R _ (e.newZ A))) A;exact O y B' w' e' h' (e.keep u f A)
def Ed.appAllI{ys:List Int}(e:Ed dbk pb FD D j S0 N0 w0 w (bks L) Y F M x n B)(h:Own T wa w L)(G:n.kids.length+ys.length<=100000)(I:Rds encU 1 S w src ys)(J:∀y∈ys,U32 y)(O:∀z B' w',Ed dbk pb FD D j S0 N0 w0 w' (bks L) Y F M (x.1,x.2.1,x.2.2.1,z) { n with kids:=n.kids++ys } B'->Own (bks L) w' w' L->Keep FD Y F B B' (bks L) w w'->K z w'): Pt.run [Ty1.one Cell.slice] ((Builtin.append_ #[92,92] 92 #[x.2.2.2.v,src.v]).run prog w) K:=by obtain⟨Bk,A,u,C⟩:=e.node.kidsL;refine qwu A G I fun z Bk' w' R f U=>?_;obtain⟨B',E,V⟩:=C z _ Bk' w' f (fun b A=>e.rd b (u b A)) U fun a ha=>(zD.1 ha).elim (e.node.2.1.2.2 a) (J a);obtain⟨e',h'⟩:=e.edit h u f (V _ (e.newZ E) R) E;exact O z B' w' e' h' (e.keep u f E)
end
end
section
def qeU{D:DiskM}{M:PgM}(h:loadN D M k v p=(n,0)):rightV n k v:=by
 unfold loadN at h;split at h;rename_i u;exact absurd (congrArg (·.2) h) u
 have:=qqh (kind:=(pagerReadM D M p).1) (b:=(pagerReadM D M p).2.1) (k:=k) (v:=v) (by rw[h])
 rw[h] at this;exact this
def qeX(h:rightV n k v):n.keys.length<=498/\n.vals.length<=498/\n.kids.length<=498/\(n.leaf=true->n.vals.length=n.keys.length/\n.keys.length<=(capsV k v).1)/\(n.leaf=false->n.keys.length+1=n.kids.length/\n.kids.length<=(capsV k v).2/\2<=n.kids.length):=by
 have G:=qgL (k:=k) (v:=v);obtain⟨_,_,_,u⟩:=h;cases C:n.leaf with
 | true=>
  rw[C,if_pos rfl] at u;obtain⟨y,E,z,A⟩:=u;rw[y];exact⟨by omega,by omega,by simp,fun _=>⟨A,z⟩,fun h=>nomatch h⟩
 | false=>
  rw[C,if_neg (by decide)] at u;obtain⟨_,y,E,z,A⟩:=u;rw[y];exact⟨by omega,by simp,by omega,fun h=>(nomatch h),fun _=>⟨A,z,E⟩⟩
section
variable {D:DiskM} {M M1:PgM} {k v f:Nat} {key val:Key} {p e0 e1:Int} {n:NodeM} {g:Grown}
def qvR(h:loadN D M k v p=(n,e0))(u:e0≠0):putN D k v key val (f+1) M p=((zeroG,e0),M):=by unfold putN;rw[h,if_pos u]
def qvS(h:loadN D M k v p=(n,0))(u:n.leaf=true)(y:n.keys[placeV n.keys key]?=some key):putN D k v key val (f+1) M p=splitN k v M p { n with vals:=n.vals.set (placeV n.keys key) val } false:=by unfold putN;rw[h,if_neg (fun h=>h rfl),if_pos u,if_pos y]
def quz(h:loadN D M k v p=(n,0))(u:n.leaf=true)(y:¬n.keys[placeV n.keys key]?=some key):putN D k v key val (f+1) M p=splitN k v M p { n with keys:=insAt n.keys (placeV n.keys key) key,vals:=insAt n.vals (placeV n.keys key) val } true:=by unfold putN;rw[h,if_neg (fun h=>h rfl),if_pos u,if_neg y]
def qoc(h:loadN D M k v p=(n,0))(u:¬n.leaf=true)(y:putN D k v key val f M (n.kids.getD (kidV n.keys key) 0)=((g,e1),M1))(z:e1≠0):putN D k v key val (f+1) M p=((zeroG,e1),M1):=by unfold putN;rw[h,if_neg (fun h=>h rfl),if_neg u];dsimp only;rw[y,if_pos z]
def quA(h:loadN D M k v p=(n,0))(u:¬n.leaf=true)(y:putN D k v key val f M (n.kids.getD (kidV n.keys key) 0)=((g,0),M1))(z:g.page=n.kids.getD (kidV n.keys key) 0/\g.other=0):putN D k v key val (f+1) M p=((⟨p,g.fresh,[],0⟩,0),M1):=by unfold putN;rw[h,if_neg (fun h=>h rfl),if_neg u];dsimp only;rw[y,if_neg (fun h=>h rfl),if_pos z]
def qw5(h:loadN D M k v p=(n,0))(u:¬n.leaf=true)(y:putN D k v key val f M (n.kids.getD (kidV n.keys key) 0)=((g,0),M1))(z:¬(g.page=n.kids.getD (kidV n.keys key) 0/\g.other=0)):putN D k v key val (f+1) M p=splitN k v M1 p (grownN n (kidV n.keys key) g) g.fresh:=by unfold putN;rw[h,if_neg (fun h=>h rfl),if_neg u];dsimp only;rw[y,if_neg (fun h=>h rfl),if_neg z]
end
def qvL(u:n.leaf=true)(y:n.vals.length=n.keys.length):(sizeN n k v).1>(sizeN n k v).2->MidOk n ((sizeN n k v).1 / 2):=fun h=>by unfold MidOk;have e:(sizeN n k v).1=n.keys.length:=(by unfold sizeN;rw[if_pos u]);rw[if_pos u,y];rw[e] at h⊢;omega
def qup(u:¬n.leaf=true)(y:n.keys.length+1=n.kids.length)(z:2<=n.kids.length):(sizeN n k v).1>(sizeN n k v).2->MidOk n ((sizeN n k v).1 / 2):=fun h=>by unfold MidOk;have e:(sizeN n k v).1=n.kids.length:=(by unfold sizeN;rw[if_neg u]);rw[if_neg u];rw[e] at h⊢;omega
def qee{α:Type}{l:List α}{x:α}(h:i<=l.length):(insAt l i x).length=l.length+1:=by unfold insAt;simp;omega
def Rds.getU{l:List Int}{i:Int}{K:Addr->Int->Prop}(h:Rds encU 1 S w s l)(n:Nat)(hi:i=n)(I:n<l.length)(J:∀a,(∀S' w',Rds encU 1 S' w' s l->w'.cell? a=some (.u l[n]))->K a l[n]):idx s i 1 fun a=>ld .u a w fun y=>K a y:=by
 subst hi;have E:l[n]?=some l[n]:=zA I;obtain⟨V,b,o,G,_,cs,T,fr,hb,hc⟩:=h.at n E;refine qbo G ⟨by omega,by omega⟩ ?_;rw[zJ];have key:∀S' w',Rds encU 1 S' w' s l->w'.cell? ⟨b,o+n*1,none⟩=some (.u l[n]):=fun S' w' O=>by
  obtain⟨_,b',o',z,_,R,T',U,A,C⟩:=O.at n E;rw[G] at z;cases z;rw[qag A]
  have:=congrArg (·[0]?) C
  simpa[encU] using this
 exact qdY l[n] (key S w h) (J _ key)
section
variable {dbk pb j:Nat} {FD S0 N0 Y F F' F0 T B:List Nat} {D:DiskM} {w0 wa w w':World} {M M':PgM} {L:List (Nat×Obj)} {x:NdC} {n:NodeM} {k v:Nat} {t:Int}
def Ed.load{w7:World}(y:∀b∈N0,b∈S0)(g:Sg S0 w0 wa F T)(h:Own T wa w L)(A:TW dbk pb FD D j w7 (B++(bks L++Y)) F M)(C:NodeB (Zo FD (B++(bks L++Y)) F) w7 x n B)(f:Fr [] w w7)(z:∀c∈B,w.heap.size<=c)(E:∀b∈Y,b<w.heap.size): Ed dbk pb FD D j S0 N0 w0 w7 (bks L) Y F M x n B/\Own (bks L) w7 w7 L:=by
 refine⟨⟨g.next0 h f,A.weakY fun b u=>?_,C.weak fun b u=>.inl ?_,fun b u G=>?_,fun b u=>.inr (zL (g.fr h).size (z b u)),y,fun b u I=>?_⟩,qaV h f fun _ _ h=>nomatch h⟩;simp only[zD] at u⊢;rcases u with u|u|u<;>simp[u];simp only[Zo,zD,zG] at u⊢;rcases u with (u|u|u|u|u)|u<;>simp[u]
 have:=qjh h b u;have:=z b G;omega
 have:=E b I;have:=z b u;omega
def Ed.kidsR(e:Ed dbk pb FD D j S0 N0 w0 w T Y F M x n B):Rds encU 1 (Zo FD (T++Y) F) w x.2.2.2 n.kids:=e.nodeR.2.2.2.2
def Ed.fr(e:Ed dbk pb FD D j S0 N0 w0 w T Y F M x n B):Fr S0 w0 w:=e.sg.tot
def qam{L':List (Nat×Obj)}(h:Own T wa w L)(u:L'.Sublist L):Own (bks L') w w L':=(h.sub u).rebase
def qnj{ks vs:Sl}{key val:Key}(ac:IsB key)(af:IsB val):∀(f:Nat) {Y F:List Nat} {w0:World} {M:PgM} {p:Int} {K:GrC×Int->WP} (hT:TW dbk pb FD D j w0 Y F M) (hp:U32 p) (hk:RdB (Zo FD Y F) w0 ks key) (hv:RdB (Zo FD Y F) w0 vs val) (aj:(putN D k v key val f M p).1.2≠-1) (kk:∀gs F' w',GOk (putN D k v key val f M p).1.1->TW dbk pb FD D j w' Y F' (putN D k v key val f M p).2->RdB (Zo FD Y F') w' gs (putN D k v key val f M p).1.1.key->Fr F w0 w'->(∀b∈F',b∈F\/w0.heap.size<=b)->K (grX (putN D k v key val f M p).1.1 gs,(putN D k v key val f M p).1.2) w'), cW 108 [.agg (wkV (wkX k v pb t)),.u p,ks.v,vs.v] [.agg qaZ,.one .i] w0 K
 | 0,_,_,_,_,_,_,_,_,_,_,aj,_=>absurd rfl aj
 | f+1,Y,F,w0,M,p,K,hT,hp,hk,hv,aj,kk=>by
  refine qlH ?_;unfold qhk qb8 qdG qb9;have h:=oE [] w0;have g:=Sg.start F w0;refine oB h fun r1 w2 _ _ h=>oB h fun r3 w4 _ _ h=>oC h 1 rfl (wkX k v pb t) rfl ?_;rcases I:loadN D M k v p with ⟨n,e0⟩;refine qgV (k:=k) (v:=v) (hT.now0 h) hp fun x B w7 bb aI f7 bc=>?_;rw[I] at aI⊢;dsimp only at aI;obtain⟨e,h⟩:=Ed.load (N0:=[]) (fun _ h=>nomatch h) g h bb aI f7 bc fun b hb=>yC (hT.ylt b hb) h.fr.size;refine oB h fun r8 w9 _ _ h=>oD h 0 rfl (ndV x) fun bM h _=>qaa (fun R=>?_) (fun R=>?_);have aS:e0≠0:=by rw[zT] at R;exact zR.1 R
  rw[qvR I aS] at kk;exact oD h 1 rfl (grV (0,false,⟨none,0,0⟩,0)) fun bd h _=>oC h 1 rfl (0,false,⟨none,0,0⟩,0) rfl<|kk ⟨none,0,0⟩ F bd qlJ (e.now h).tw'.drop0 (.nil _ _ _ _) (e.now h).fr (e.now h).sg.new;have bf:e0=0:=by rw[yD] at R;exact yO.1 R
  subst bf;have hr:=qeU I;obtain⟨l1,l2,l3,l4,l5⟩:=qeX hr;have e:=e.now h;have h:=qam h (.refl _);have aT:x.1=n.leaf:=e.node.1;refine oA h 0 rfl x.1 rfl<|qaa (fun R=>?_) (fun R=>?_);rw[aT] at R;obtain⟨l6,l7⟩:=l4 R;refine oC h 0 rfl x rfl<|qk3 e.nodeR (e.rdb hk) ac hr.2.2.1 (by omega) fun bQ bi=>?_;obtain⟨e,h⟩:=e.next0 h bi;have al:=qn9 n.keys key;refine qaf (fun _ w'=>∃x' n' B',Own [r8,r3,r1] w' w' [(r8,.cells (ndV x') ND (0,0)),(r3,.cells (grV (0,false,⟨none,0,0⟩,0)) GR (0,0)),(r1,.cells (wkV (wkX k v pb t)) WK (0,0))]/\Ed dbk pb FD D j F [] w0 w' [r8,r3,r1] Y F M x' n' B'/\
   putN D k v key val (f+1) M p=splitN k v M p n' (!decide (n.keys[placeV n.keys key]?=some key))/\n'.leaf=true/\n'.vals.length=n'.keys.length/\n'.keys.length<=1000/\n'.kids.length<=1000) ?_ ?_
  refine qaa (fun J=>?_) (fun J=>?_);have aK:=zC J;have bR:=(zP.1 aK).1;refine oA h 0 rfl x.2.2.1 rfl<|e.setV h (i:=placeV n.keys key) (by omega) rfl (e.rdb hv) af fun B' bS e h _=>⟨x,_,B',h,e,?_,R,by dsimp only;rw[xE];exact l6,by dsimp only;omega,by dsimp only;omega⟩;rw[qvS I R aK,zZ aK];rfl;have az:=zB J;have E:putN D k v key val (f+1) M p=splitN k v M p { n with keys:=insAt n.keys (placeV n.keys key) key,vals:=insAt n.vals (placeV n.keys key) val } (!decide (n.keys[placeV n.keys key]?=some key)):=by rw[quz I R az,zU az];rfl
  have am:(insAt n.vals (placeV n.keys key) val).length=(insAt n.keys (placeV n.keys key) key).length:=(by rw[qee (by omega),qee al,l6]);have an:(insAt n.keys (placeV n.keys key) key).length<=1000:=(by rw[qee al];omega);refine⟨?_,?_,?_⟩;have h:=oF h;refine oA h 0 rfl x.2.1 rfl<|oA h 0 rfl x.2.2.1 rfl<|oB h fun bT bU _ _ h=>qan (h.cell 1 rfl rfl) (h.cell 1 rfl rfl) ?_;have e:=e.now h;refine e.insK h (i:=placeV n.keys key) al rfl (by omega) 0 rfl (e.rdb hk) ac fun U B1 aU e h _=>qaj (h.cell 1 rfl rfl)<|oB h fun bV bW _ _ h=>qan (h.cell 2 rfl rfl) (h.cell 2 rfl rfl) ?_;have e:=e.now h;exact e.insV h (i:=placeV n.keys key) (by dsimp only;omega) rfl (by dsimp only;omega) 0 rfl (e.rdb hv) af fun ao B2 aV e h _=>oD h 2 rfl (ndV (x.1,U,x.2.2.1,x.2.2.2)) fun aW h _=>oD h 2 rfl (ndV (x.1,U,ao,x.2.2.2)) fun aX h _=>⟨_,_,B2,qam h (.cons _ (.cons _ (.refl _))),(e.now h).sub (by simp),E,R,am,an,by dsimp only;omega⟩;have h:=oF h;refine oA h 0 rfl x.2.1 rfl<|oA h 0 rfl x.2.2.1 rfl<|oB h fun bX bY _ _ h=>qan (h.cell 1 rfl rfl) (h.cell 1 rfl rfl)<|oB h fun bZ b0 _ _ h=>qan (h.cell 2 rfl rfl) (h.cell 2 rfl rfl) ?_;have e:=e.now h;exact e.insK h (i:=placeV n.keys key) al rfl (by omega) 1 rfl (e.rdb hk) ac fun U B1 aU e h _=>qaj (h.cell 2 rfl rfl)<|e.insV h (i:=placeV n.keys key) (by dsimp only;omega) rfl (by dsimp only;omega) 0 rfl (e.rdb hv) af fun ao B2 aV e h _=>oD h 2 rfl (ndV (x.1,U,x.2.2.1,x.2.2.2)) fun aW h _=>oD h 2 rfl (ndV (x.1,U,ao,x.2.2.2)) fun aX h _=>⟨_,_,B2,qam h (.cons _ (.cons _ (.refl _))),(e.now h).sub (by simp),E,R,am,an,by dsimp only;omega⟩;have h:=oF h;refine oA h 0 rfl x.2.1 rfl<|oA h 0 rfl x.2.2.1 rfl<|oB h fun b1 b2 _ _ h=>qan (h.cell 1 rfl rfl) (h.cell 1 rfl rfl)<|oB h fun b3 b4 _ _ h=>qan (h.cell 2 rfl rfl) (h.cell 2 rfl rfl) ?_;have e:=e.now h;exact e.insK h (i:=placeV n.keys key) al rfl (by omega) 0 rfl (e.rdb hk) ac fun U B1 aU e h _=>qaj (h.cell 2 rfl rfl)<|e.insV h (i:=placeV n.keys key) (by dsimp only;omega) rfl (by dsimp only;omega) 1 rfl (e.rdb hv) af fun ao B2 aV e h _=>oD h 2 rfl (ndV (x.1,U,x.2.2.1,x.2.2.2)) fun aW h _=>oD h 2 rfl (ndV (x.1,U,ao,x.2.2.2)) fun aX h _=>⟨_,_,B2,qam h (.cons _ (.cons _ (.refl _))),(e.now h).sub (by simp),E,R,am,an,by dsimp only;omega⟩;rintro _ b5 ⟨x',n',B',h,e,E,m0,m1,m2,m3⟩;rw[E] at kk;refine oC h 2 rfl (wkX k v pb t) rfl<|oC h 0 rfl x' rfl<|qom (Y:=[r8,r3,r1]++Y) e.tw' e.nodeR (by omega) (by omega) (by omega) (qvL m0 m1) hp fun gs F' b8 hG aY z aZ bj=>?_;have g:=e.sg.next h aZ bj
  have h:=qaV h aZ fun b hb=>e.tw'.yf b (by simp at hb⊢;rcases hb with h|h|h<;>simp[h]);exact oG h 1 rfl (grV (grX (splitN k v M p n' (!decide (n.keys[placeV n.keys key]?=some key))).1.1 gs)) rfl rfl (zO rfl) fun bk h _=>oC h 1 rfl (grX (splitN k v M p n' (!decide (n.keys[placeV n.keys key]?=some key))).1.1 gs) rfl<|kk gs F' bk hG (aY.now h).drop0 (qlx (qaL z h)) (g.fr h) g.new
  ·rw[aT] at R;have ag:¬n.leaf=true:=(by rw[R];decide);obtain⟨l6,l7,l8⟩:=l5 R;refine oC h 0 rfl x rfl<|qoZ e.nodeR (e.rdb hk) ac hr.2.2.1 (by omega) fun b9 bl=>?_;obtain⟨e,h⟩:=e.next0 h bl;have ap:=qjQ n.keys key;generalize au:kidV n.keys key=c at ap⊢;have ah:c<n.kids.length:=(by omega);have aL:n.kids.getD c 0=n.kids[c]:=(by rw[yQ,zA ah];rfl);have hu:U32 n.kids[c]:=e.node.2.1.2.2 _ (zW ah);rcases aq:putN D k v key val f M n.kids[c] with ⟨⟨A,e1⟩,M1⟩;have V:putN D k v key val f M (n.kids.getD (kidV n.keys key) 0)=((A,e1),M1):=(by rw[au,aL];exact aq);have aB:e1≠-1:=fun h1=>by rw[h1] at V;rw[qoc I ag V (by decide)] at aj;exact aj rfl
   refine⟨?a,?b⟩;case' a=>
    have h:=oF h;have e:=e.now h;refine oC h 2 rfl (wkX k v pb t) rfl<|oA h 0 rfl x.2.2.2 rfl<|Rds.getU e.kidsR c rfl ah fun bm hh=>qnj ac af f e.tw hu (e.rdb hk) (e.rdb hv) (by rw[aq];exact aB) fun gs F1 bn hG aa z aM aN=>?_;rw[aq] at hG aa z⊢;obtain⟨e,h⟩:=e.next h aa aM aN
    refine oB h fun ar bo _ _ h=>qap (hh _ _ (e.now h).kidsR) (h.cell 1 rfl rfl) (h.cells 3 rfl rfl)<|oD h 0 rfl (grV (grX A gs)) fun a1 h _=>?_;have z:=qaL z h;have e:=e.now h;have h:=qam h (.refl _)
   case' b=>
    have h:=oF h;have e:=e.now h;have h:=qam h (.refl _);refine oC h 2 rfl (wkX k v pb t) rfl<|oA h 0 rfl x.2.2.2 rfl<|Rds.getU e.kidsR c rfl ah fun bm hh=>oB h fun ar bo _ _ h=>?_;have e:=e.now h;refine qap (hh _ _ e.kidsR) (h.cell 1 rfl rfl) (h.cells 3 rfl rfl)<|qnj ac af f e.tw hu (e.rdb hk) (e.rdb hv) (by rw[aq];exact aB) fun gs F1 bn hG aa z aM aN=>?_;rw[aq] at hG aa z⊢;obtain⟨e,h⟩:=e.next h aa aM aN
    refine oD h 0 rfl (grV (grX A gs)) fun a1 h _=>?_;have z:=qaL z h;have e:=e.now h;have h:=qam h (.refl _)
   all_goals
    refine qaa (fun J=>?_) (fun J=>?_);have a2:e1≠0:=by rw[zT] at J;exact zR.1 J
    rw[qoc I ag V a2] at kk;exact oD h 2 rfl (grV (0,false,⟨none,0,0⟩,0)) fun bp h _=>oC h 2 rfl (0,false,⟨none,0,0⟩,0) rfl<|kk ⟨none,0,0⟩ F1 bp qlJ (e.now h).tw'.drop0 (.nil _ _ _ _) (e.now h).fr (e.now h).sg.new;have bq:e1=0:=by rw[yD] at J;exact yO.1 J
    subst bq;refine qaf (fun b w'=>b=decide (A.page=n.kids[c]/\A.other=0)/\w'=a1.drew) ?_ ?_;have h:=oF h;refine oA h 0 rfl A.page rfl<|oA h 1 rfl x.2.2.2 rfl<|Rds.get (e.now h).kidsR c rfl (zA ah) (y:=n.kids[c]) rfl<|qaa (fun C=>?_) (fun C=>?_);have C:A.page=n.kids[c]:=yO.1 C;refine oA h 0 rfl A.other rfl ⟨?_,rfl⟩;rw[Bool.eq_iff_iff,yO,yM];exact⟨fun h=>⟨C,h⟩,fun h=>h.2⟩;have C:A.page≠n.kids[c]:=zR.1 C;exact⟨(zU fun h=>C h.1).symm,rfl⟩;rintro bt bu ⟨rfl,rfl⟩;have h:=oF h;have z:=qaL z h;have e:=e.now h;have h:=qam h (.refl _);refine qaa (fun C=>?_) (fun C=>?_);have C:=zC C;rw[<- aL,<- au] at C;rw[quA I ag V C] at kk;exact oA h 0 rfl A.fresh rfl<|oD h 2 rfl (grV (p,A.fresh,⟨none,0,0⟩,0)) fun a3 h _=>oC h 2 rfl (p,A.fresh,⟨none,0,0⟩,0) rfl<|kk ⟨none,0,0⟩ F1 a3 ⟨hp,qd7,.nil⟩ (e.now h).tw'.drop0 (.nil _ _ _ _) (e.now h).fr (e.now h).sg.new;have C:=zB C;rw[<- aL,<- au] at C;have E:=qw5 I ag V C;rw[au] at E;rw[E] at kk;refine oA h 1 rfl x.2.2.2 rfl<|oA h 0 rfl A.page rfl<|e.setI h (i:=c) ah rfl hG.page fun B1 bv e h kp=>?_;have z:=kp.rdb _ _ z;refine qaf (fun _ w'=>∃x' B',Own [ar,r8,r3,r1] w' w' [(ar,.cells (grV (grX A gs)) GR (0,0)),(r8,.cells (ndV x') ND (0,0)),(r3,.cells (grV (0,false,⟨none,0,0⟩,0)) GR (0,0)),(r1,.cells (wkV (wkX k v pb t)) WK (0,0))]/\Ed dbk pb FD D j F [] w0 w' [ar,r8,r3,r1] Y F1 M1 x' (grownN n c A) B'/\
     ¬(grownN n c A).leaf=true/\(grownN n c A).keys.length+1=(grownN n c A).kids.length/\2<=(grownN n c A).kids.length/\(grownN n c A).kids.length<=1000/\(grownN n c A).vals.length<=1000) ?_ ?_
    refine oA h 0 rfl A.other rfl<|qaa (fun O=>?_) (fun O=>?_);have O:A.other≠0:=by rw[zT] at O;exact zR.1 O
    have eg:grownN n c A={ n with kids:=insAt (n.kids.set c A.page) (c+1) A.other,keys:=insAt n.keys c A.key }:=(by unfold grownN;rw[if_pos O]);have ae:¬(grownN n c A).leaf=true/\(grownN n c A).keys.length+1=(grownN n c A).kids.length/\2<=(grownN n c A).kids.length/\(grownN n c A).kids.length<=1000/\(grownN n c A).vals.length<=1000:=(by rw[eg];dsimp only;rw[qee ap,qee (l:=n.kids.set c A.page) (by rw[xE];omega),xE];exact⟨ag,by omega,by omega,by omega,by omega⟩);rw[eg] at ae⊢;have ew:wrap .i64 ((c:Int)+1)=((c+1:Nat):Int):=qbM (by omega);rw[ew];refine⟨?_,?_,?_⟩;have h:=oF h;refine oA h 1 rfl x.2.2.2 rfl<|oA h 0 rfl A.other rfl<|oA h 1 rfl x.2.1 rfl<|oA h 0 rfl gs rfl<|oB h fun bw bx _ _ h=>qap (h.cell 1 rfl rfl) (h.cell 2 rfl rfl) (h.cell 2 rfl rfl) ?_;have z:=qaL z h;have e:=e.now h;refine e.insI h (i:=c+1) (by dsimp only;rw[xE];omega) rfl (by dsimp only;rw[xE];omega) 0 rfl hG.other fun G B2 aC e h kp=>?_;have z:=kp.rdb _ _ z;refine qan (h.cell 1 rfl rfl) (h.cell 2 rfl rfl)<|oB h fun bz bA _ _ h=>qap (h.cell 3 rfl rfl) (h.cell 2 rfl rfl) (h.cell 3 rfl rfl) ?_;have z:=qaL z h;have e:=e.now h;exact e.insK h (i:=c) ap rfl (by dsimp only;omega) 0 rfl z hG.key fun ab B3 aD e h _=>oD h 3 rfl (ndV (x.1,x.2.1,x.2.2.1,G)) fun aE h _=>oD h 3 rfl (ndV (x.1,ab,x.2.2.1,G)) fun aF h _=>⟨_,B3,qam h (.cons _ (.cons _ (.refl _))),(e.now h).sub (by simp),ae⟩;have h:=oF h;refine oA h 1 rfl x.2.2.2 rfl<|oA h 0 rfl A.other rfl<|oA h 1 rfl x.2.1 rfl<|oA h 0 rfl gs rfl<|oB h fun bB bC _ _ h=>qap (h.cell 1 rfl rfl) (h.cell 2 rfl rfl) (h.cell 2 rfl rfl)<|oB h fun bD bE _ _ h=>qap (h.cell 3 rfl rfl) (h.cell 2 rfl rfl) (h.cell 3 rfl rfl) ?_;have z:=qaL z h;have e:=e.now h;refine e.insI h (i:=c+1) (by dsimp only;rw[xE];omega) rfl (by dsimp only;rw[xE];omega) 1 rfl hG.other fun G B2 aC e h kp=>?_;have z:=kp.rdb _ _ z;exact qan (h.cell 2 rfl rfl) (h.cell 3 rfl rfl)<|e.insK h (i:=c) ap rfl (by dsimp only;omega) 0 rfl z hG.key fun ab B3 aD e h _=>oD h 3 rfl (ndV (x.1,x.2.1,x.2.2.1,G)) fun aE h _=>oD h 3 rfl (ndV (x.1,ab,x.2.2.1,G)) fun aF h _=>⟨_,B3,qam h (.cons _ (.cons _ (.refl _))),(e.now h).sub (by simp),ae⟩;have h:=oF h;refine oA h 1 rfl x.2.2.2 rfl<|oA h 0 rfl A.other rfl<|oA h 1 rfl x.2.1 rfl<|oA h 0 rfl gs rfl<|oB h fun bF bG _ _ h=>qap (h.cell 2 rfl rfl) (h.cell 1 rfl rfl) (h.cell 2 rfl rfl)<|oB h fun bH bI _ _ h=>qap (h.cell 2 rfl rfl) (h.cell 3 rfl rfl) (h.cell 3 rfl rfl) ?_;have z:=qaL z h;have e:=e.now h;refine e.insI h (i:=c+1) (by dsimp only;rw[xE];omega) rfl (by dsimp only;rw[xE];omega) 0 rfl hG.other fun G B2 aC e h kp=>?_;have z:=kp.rdb _ _ z;exact qan (h.cell 2 rfl rfl) (h.cell 3 rfl rfl)<|e.insK h (i:=c) ap rfl (by dsimp only;omega) 1 rfl z hG.key fun ab B3 aD e h _=>oD h 3 rfl (ndV (x.1,x.2.1,x.2.2.1,G)) fun aE h _=>oD h 3 rfl (ndV (x.1,ab,x.2.2.1,G)) fun aF h _=>⟨_,B3,qam h (.cons _ (.cons _ (.refl _))),(e.now h).sub (by simp),ae⟩;have O:¬A.other≠0:=(by rw[yD] at O;exact fun hh=>hh (yO.1 O));have eg:grownN n c A={ n with kids:=n.kids.set c A.page }:=(by unfold grownN;rw[if_neg O]);rw[eg];exact⟨x,B1,h,e,ag,by dsimp only;rw[xE];omega,by dsimp only;rw[xE];omega,by dsimp only;rw[xE];omega,by dsimp only;omega⟩;rintro _ bJ ⟨x',B',h,e,q1,q2,q3,q4,q5⟩;refine oC h 3 rfl (wkX k v pb t) rfl<|oC h 1 rfl x' rfl<|oA h 0 rfl A.fresh rfl<|qom (Y:=[ar,r8,r3,r1]++Y) e.tw' e.nodeR (by omega) (by omega) (by omega) (qup q1 q2 q3) hp fun aP F2 bK br aQ a5 aG a6=>?_;have g:=e.sg.next h aG a6
    have h:=qaV h aG fun b hb=>e.tw'.yf b (by simp at hb⊢;rcases hb with h|h|h|h<;>simp[h]);exact oG h 2 rfl (grV (grX (splitN k v M1 p (grownN n c A) A.fresh).1.1 aP)) rfl rfl (zO rfl) fun a7 h _=>oC h 2 rfl (grX (splitN k v M1 p (grownN n c A) A.fresh).1.1 aP) rfl<|kk aP F2 a7 br (aQ.now h).drop0 (qlx (qaL a5 h)) (g.fr h) g.new
end
end
section
def qaE{H u y z:WP}{K:Prop}(h:H w)(A:u w)(C:y w)(E:z w)(k:K):held [H,u,y,z] w K:=by unfold held;exact⟨⟨h,A,C,E⟩,k⟩
structure Opn (S0 Z:List Nat) (w:World) (x:NdC) (n:NodeM) (pk pv:Kps):Prop where
 lens:NodeL x n
 nb:NB n
 keys:keyP pk=n.keys
 vals:keyP pv=n.vals
 rk:Rds encSl 1 S0 w x.2.1 (slsP pk)
 rv:Rds encSl 1 S0 w x.2.2.1 (slsP pv)
 ri:Rds encU 1 S0 w x.2.2.2 n.kids
 ek:∀ p∈pk,RdB Z w p.1 p.2
 ev:∀ p∈pv,RdB Z w p.1 p.2
section
variable {S S0 S0' Z Z' B:List Nat} {w w':World} {x:NdC} {n:NodeM} {pk pv:Kps}
def NodeB.opn(h:NodeB Z w x n B)(y:∀b∈B,b∉S0):∃pk pv,Opn S0 Z w x n pk pv:=by have A:NodeR [] w x n:=h.rd (fun _ _ h=>(nomatch h)) fun _ h=>nomatch h;have C:=A.lens;obtain⟨V,z,Bk,Bv,Bi,rfl,E,⟨pk,G,I,J⟩,⟨pv,K,O,R⟩,U⟩:=h;exact⟨pk,pv,C,z,I,O,G.rds qcW fun b u=>y b (by simp[u]),K.rds qcW fun b u=>y b (by simp[u]),U.rds qaK fun b u=>y b (by simp[u]),J,R⟩
def Opn.frame(h:Opn S0 Z w x n pk pv)(f:Fr S w w')(A:∀b∈S,b∈S0)(z:∀b∈S,b∈Z)(y:NewZ S0 w S0')(E:NewZ Z w Z'):Opn S0' Z' w' x n pk pv where
 lens:=h.lens
 nb:=h.nb
 keys:=h.keys
 vals:=h.vals
 rk:=h.rk.frame (f.mono fun b u _=>A b u) y
 rv:=h.rv.frame (f.mono fun b u _=>A b u) y
 ri:=h.ri.frame (f.mono fun b u _=>A b u) y
 ek:=fun p C=>(h.ek p C).frame (f.mono fun b u _=>z b u) E
 ev:=fun p C=>(h.ev p C).frame (f.mono fun b u _=>z b u) E
def Opn.klen(h:Opn S0 Z w x n pk pv):pk.length=n.keys.length:=by rw[<- h.keys,zK]
def Opn.vlen(h:Opn S0 Z w x n pk pv):pv.length=n.vals.length:=by rw[<- h.vals,zK]
def Opn.rdK(h:Opn S0 Z w x n pk pv)(u:∀b∈S0,b∈Z):RdK S0 w x.2.1 pk:=⟨h.rk,fun p y=>(h.ek p y).frame (.refl _ _) fun b z=>.inl (u b z)⟩
def Opn.rdV(h:Opn S0 Z w x n pk pv)(u:∀b∈S0,b∈Z):RdK S0 w x.2.2.1 pv:=⟨h.rv,fun p y=>(h.ev p y).frame (.refl _ _) fun b z=>.inl (u b z)⟩
def Rds.getS{i:Int}{K:Addr->Sl->Prop}(h:Rds encSl 1 S w s (slsP ps))(n:Nat)(hi:i=n)(G:n<ps.length)(I:∀a,(∀S' w',Rds encSl 1 S' w' s (slsP ps)->w'.cell? a=some (.slice ps[n].1.a ps[n].1.len ps[n].1.cap))->K a ps[n].1):idx s i 1 fun a=>ld .slice a w fun y=>K a y:=by
 subst hi;have C:(slsP ps)[n]?=some ps[n].1:=(by rw[zQ,zA G];rfl);obtain⟨U,b,o,E,_,V,T,fr,hb,hc⟩:=h.at n C;refine qbo E ⟨by omega,by omega⟩ ?_;rw[zJ];have key:∀S' w',Rds encSl 1 S' w' s (slsP ps)->w'.cell? ⟨b,o+n*1,none⟩=some (.slice ps[n].1.a ps[n].1.len ps[n].1.cap):=fun S' w' J=>by
  obtain⟨_,b',o',u,_,O,T',R,z,A⟩:=J.at n C;rw[E] at u;cases u;rw[qag z]
  have:=congrArg (·[0]?) A
  simpa[encSl] using this
 exact qdY ps[n].1 (key S w h) (I _ key)
def Opn.keyAt(h:Opn S0 Z w x n pk pv)(hi:i<pk.length):n.keys.getD i []=pk[i].2:=by rw[<- h.keys,qdP hi]
def Opn.valAt(h:Opn S0 Z w x n pk pv)(hi:i<pv.length):n.vals.getD i []=pv[i].2:=by rw[<- h.vals,qdP hi]
def qdX{n:NodeM}(hi:i<n.kids.length):n.kids.getD i 0=n.kids[i]:=by rw[yQ,zA hi];rfl
end
structure ShapeN (n:NodeM):Prop where
 leaf:n.leaf=true->n.vals.length=n.keys.length
 inner:n.leaf=false->n.kids.length=n.keys.length+1
 keys:n.keys.length<=2000
 vals:n.vals.length<=2000
 kids:n.kids.length<=2000
section
variable {dbk pb j:Nat} {FD Y F Bl Br:List Nat} {D:DiskM} {w0:World} {M:PgM} {xl xr:NdC} {nl nr:NodeM} {ks:Sl} {key:Key}
def zoT{b:Nat}(h:b∈T):b∈Zo FD (T++Y) F:=by simp[h]
def qjM:∀b∈Zo FD Y F,b∈Zo FD (T++(Bl++Y)) F:=fun b h=>by simp only[Zo,zD,zG] at h⊢;rcases h with (h|h|h)|h<;>simp[h]
def qgS{α:Type}(l:List α)(x:α):insAt l 0 x=x::l:=by unfold insAt;simp
def qvA{K:NdC×NdC×Sl->WP}(hT:TW dbk pb FD D j w0 (Br++(Bl++Y)) F M)(hl:NodeB (Zo FD (Br++(Bl++Y)) F) w0 xl nl Bl)(hr:NodeB (Zo FD (Br++(Bl++Y)) F) w0 xr nr Br)(d1:∀b∈Br,b∉Bl)(d2:∀b∈Br,b∉Y)(d3:∀b∈Bl,b∉Y)(hk:RdB (Zo FD (Br++(Bl++Y)) F) w0 ks key)(aq:IsB key)(ba:nl.leaf=nr.leaf)(h1:1<=nl.keys.length)(sl:ShapeN nl)(sr:ShapeN nr)(kk:∀yl yr ay w',TW dbk pb FD D j w' Y F M->NodeR (Zo FD Y F) w' yl (giveN nl nr key).1->NodeR (Zo FD Y F) w' yr (giveN nl nr key).2.1->RdB (Zo FD Y F) w' ay (giveN nl nr key).2.2->Fr (Br++F) w0 w'->K (yl,yr,ay) w'): cW 180 [.agg (ndV xl),.agg (ndV xr),ks.v] [.agg qac,.agg qac,.one .slice] w0 K:=by
 refine qqD ?_;unfold qmQ qd3 qd4;obtain⟨pk,pv,o⟩:=hl.opn (S0:=Br++Zo FD Y F) fun b u R=>by rcases zD.1 R with R|R;exact d1 b R u;have h0:=hT.sep b (by simp[u]);simp only[Zo,zD,zG] at R;rcases R with (R|R|R)|R;exact h0.1 R;exact h0.2 R;exact d3 b u R;exact hT.yf b (by simp[u]) R
 have e0:Ed dbk pb FD D j (Br++F) Br w0 w0 [] (Bl++Y) F M xr nr Br:=⟨⟨.refl _ _,fun b u=>.inl (by simp[u]),fun _ h=>nomatch h⟩,hT,hr,fun _ h=>(nomatch h),fun b u=>.inl u,fun b u=>by simp[u],fun b u R=>(zD.1 R).elim (d1 b u) (d2 b u)⟩;have V:∀b∈Br++Zo FD Y F,b∈Zo FD (Br++(Bl++Y)) F:=fun b u=>by simp only[Zo,zD,zG] at u⊢;rcases u with u|(u|u|u)|u<;>simp[u]
 have aa:∀b∈Br++F,b∈Br++Zo FD Y F:=fun b u=>by simp only[Zo,zD,zG] at u⊢;rcases u with u|u<;>simp[u]
 have nZ:∀ {w' T x' n' B'},Ed dbk pb FD D j (Br++F) Br w0 w' T (Bl++Y) F M x' n' B'->NewZ (Zo FD (Br++(Bl++Y)) F) w0 (Zo FD (T++(B'++(Bl++Y))) F):=fun e b u=>by simp only[Zo,zD,zG] at u;rcases u with (u|u|u|u|u|u)|u;exact .inl (by simp[u]);exact .inl (by simp[u]);exact (e.sg.own b u).imp (fun h=>V b (aa b h)) id;exact (e.bnew b u).imp (fun h=>V b (aa b (e.nsub b h))) id;exact .inl (by simp[u]);exact .inl (by simp[u]);exact .inl (by simp[u])
 have G:∀ {w' T x' n' B'},Ed dbk pb FD D j (Br++F) Br w0 w' T (Bl++Y) F M x' n' B'->Opn (Br++Zo FD Y F) (Zo FD (T++(B'++(Bl++Y))) F) w' xl nl pk pv:=fun e=>o.frame e.fr aa (fun b u=>V b (aa b u)) (fun b u=>.inl u) (nZ e);have az:=o.rdK V;have aA:=o.rdV V;have ab:∀ {w' T x' n' B'},Ed dbk pb FD D j (Br++F) Br w0 w' T (Bl++Y) F M x' n' B'->Fr (Br++Zo FD Y F) w0 w':=fun e=>e.fr.mono fun b u _=>aa b u;have ac:∀b∈Zo FD Y F,b∈Br++Zo FD Y F\/w0.heap.size<=b:=fun b u=>.inl (zI _ u);have I:=o.lens;have kl:=o.klen;have vl:=o.vlen;have sk:=sl.keys;have bb:=sr.keys;have bc:=sr.vals;have bd:=sr.kids;have aK:wrap .i64 ((xl.2.1.len:Int)-1)=((nl.keys.length-1:Nat):Int):=(by rw[I.keys,wi' _ (by omega)];omega);have h:=oE [] w0;refine oB h fun r1 w2 _ _ h=>oB h fun r3 w4 _ _ h=>oB h fun r5 w6 _ _ h=>oB h fun r7 w8 _ _ h=>oA h 3 rfl xl.2.1 rfl<|oA h 3 rfl xl.1 rfl ?_;rw[aK];apply qaa<;>intro hc
 ·rw[I.leaf] at hc;have bf:=sl.leaf hc;have hG:giveN nl nr key=({ nl with keys:=nl.keys.take (nl.keys.length-1),vals:=nl.vals.take (nl.keys.length-1) },{ nr with keys:=nl.keys.getD (nl.keys.length-1) []::nr.keys,vals:=nl.vals.getD (nl.keys.length-1) []::nr.vals },nl.keys.getD (nl.keys.length-1) []):=(by unfold giveN;rw[if_pos hc]);have hi:nl.keys.length-1<pk.length:=(by omega);have J:nl.keys.length-1<pv.length:=(by omega);rw[hG,o.keyAt hi,o.valAt J] at kk;have U:IsB pk[nl.keys.length-1].2:=(by rw[<- o.keyAt hi];exact qbc o.nb.1 _);have au:IsB pv[nl.keys.length-1].2:=(by rw[<- o.valAt J];exact qbc o.nb.2.1 _);refine⟨?a1,?a2,?a3⟩;case' a1=>
   have h:=oF h;refine oA h 2 rfl xr.2.1 rfl<|oA h 3 rfl xl.2.1 rfl<|Rds.getS ((o.rk).frame0 h.fr) (nl.keys.length-1) rfl hi fun ae A=>oA h 2 rfl xr.2.2.1 rfl<|oA h 3 rfl xl.2.2.1 rfl<|Rds.getS ((o.rv).frame0 h.fr) (nl.keys.length-1) rfl J fun aB O=>oB h fun af ag _ _ h=>?_;have e:=e0.now h;refine qaE (O _ _ (G e).rv) (h.cell 4 rfl rfl) (h.cell 3 rfl rfl) (h.cell 3 rfl rfl)<|e.insK h (i:=0) (yW _) rfl (by omega) 0 rfl ((G e).ek _ (zW hi)) U fun y B1 ah e h _=>qap (O _ _ (G e).rv) (h.cell 4 rfl rfl) (h.cell 3 rfl rfl)<|oB h fun ai aj _ _ h=>?_;have e:=e.now h;refine qaE (h.cell 4 rfl rfl) (A _ _ (G e).rk) (h.cell 5 rfl rfl) (h.cell 4 rfl rfl)<|e.insV h (i:=0) (yW _) rfl (by dsimp only;omega) 0 rfl ((G e).ev _ (zW J)) au fun z B2 ak e h _=>?_
  case' a2=>
   have h:=oF h;refine oA h 2 rfl xr.2.1 rfl<|oA h 3 rfl xl.2.1 rfl<|Rds.getS ((o.rk).frame0 h.fr) (nl.keys.length-1) rfl hi fun ae A=>oA h 2 rfl xr.2.2.1 rfl<|oA h 3 rfl xl.2.2.1 rfl<|Rds.getS ((o.rv).frame0 h.fr) (nl.keys.length-1) rfl J fun aB O=>oB h fun af ag _ _ h=>qaE (O _ _ (G (e0.now h)).rv) (h.cell 4 rfl rfl) (h.cell 3 rfl rfl) (h.cell 3 rfl rfl)<|oB h fun ai aj _ _ h=>?_;have e:=e0.now h;refine qaE (h.cell 4 rfl rfl) (A _ _ (G e).rk) (h.cell 5 rfl rfl) (h.cell 4 rfl rfl)<|e.insK h (i:=0) (yW _) rfl (by omega) 1 rfl ((G e).ek _ (zW hi)) U fun y B1 ah e h _=>qap (O _ _ (G e).rv) (h.cell 5 rfl rfl) (h.cell 4 rfl rfl)<|e.insV h (i:=0) (yW _) rfl (by dsimp only;omega) 0 rfl ((G e).ev _ (zW J)) au fun z B2 ak e h _=>?_
  case' a3=>
   have h:=oF h;refine oA h 2 rfl xr.2.1 rfl<|oA h 3 rfl xl.2.1 rfl<|Rds.getS ((o.rk).frame0 h.fr) (nl.keys.length-1) rfl hi fun ae A=>oA h 2 rfl xr.2.2.1 rfl<|oA h 3 rfl xl.2.2.1 rfl<|Rds.getS ((o.rv).frame0 h.fr) (nl.keys.length-1) rfl J fun aB O=>oB h fun af ag _ _ h=>qaE (h.cell 3 rfl rfl) (A _ _ (G (e0.now h)).rk) (h.cell 4 rfl rfl) (h.cell 3 rfl rfl)<|oB h fun ai aj _ _ h=>?_;have e:=e0.now h;refine qaE (O _ _ (G e).rv) (h.cell 5 rfl rfl) (h.cell 4 rfl rfl) (h.cell 4 rfl rfl)<|e.insK h (i:=0) (yW _) rfl (by omega) 0 rfl ((G e).ek _ (zW hi)) U fun y B1 ah e h _=>qap (O _ _ (G e).rv) (h.cell 5 rfl rfl) (h.cell 4 rfl rfl)<|e.insV h (i:=0) (yW _) rfl (by dsimp only;omega) 1 rfl ((G e).ev _ (zW J)) au fun z B2 ak e h _=>?_
  all_goals
   refine oD h 4 rfl (ndV (xr.1,y,xr.2.2.1,xr.2.2.2)) fun aM h _=>oD h 4 rfl (ndV (xr.1,y,z,xr.2.2.2)) fun aN h _=>?_;have h:=oF h;refine oA h 5 rfl xl.2.1 rfl<|RdK.upto az (nl.keys.length-1) rfl (by omega) fun C al=>oA h 5 rfl xl.2.2.1 rfl<|RdK.upto aA (nl.keys.length-1) rfl (by omega) fun E am=>oD h 5 rfl (ndV (xl.1,C,xl.2.2.1,xl.2.2.2)) fun aO h _=>oD h 5 rfl (ndV (xl.1,C,E,xl.2.2.2)) fun aP h _=>?_;have h:=oF h;refine oC h 5 rfl (xl.1,C,E,xl.2.2.2) rfl<|oC h 4 rfl (xr.1,y,z,xr.2.2.2) rfl<|oA h 4 rfl y rfl ?_;have e:=e.now h;have h:=qam h (.refl _);obtain⟨q0,qN,⟨qk,ao,aE⟩,q4,q5⟩:=e.nodeR;have av:0<qk.length:=by
    have:=congrArg List.length aE
    dsimp only at this;rw[qgS,zK,yH] at this;omega
   have aQ:qk[0].2=pk[nl.keys.length-1].2:=(by rw[<- qdP av,aE];dsimp only;rw[qgS];rfl);refine Rds.getS ao.1 0 rfl av fun bg aF=>oD h 3 rfl (ndV (xl.1,C,E,xl.2.2.2)) fun aR h _=>qap (aF [] _ (ao.1.frame (h.fr.mono fun b u _=>zoT u) fun _ h=>nomatch h)) (h.cell 4 rfl rfl) (h.cells 4 rfl rfl)<|oD h 2 rfl (ndV (xr.1,y,z,xr.2.2.2)) fun aw h _=>qan (aF [] _ (ao.1.frame (h.fr.mono fun b u _=>zoT u) fun _ h=>nomatch h)) (h.cell 4 rfl rfl)<|oC h 3 rfl (xl.1,C,E,xl.2.2.2) rfl<|oC h 2 rfl (xr.1,y,z,xr.2.2.2) rfl ?_;have ap:=qaL (ao.2 _ (zW av)) h;rw[aQ] at ap;have e:=e.now h;have hR:=e.nodeR.weak (S':=Zo FD Y F) fun b u=>.inl (qjM b u);rw[qgS,qgS] at hR;exact kk (xl.1,C,E,xl.2.2.2) (xr.1,y,z,xr.2.2.2) _ aw (e.tw'.weakY fun b u=>by simp[u]) ⟨I.leaf,⟨fun a ha=>o.nb.1 a (yU ha),fun a ha=>o.nb.2.1 a (yU ha),o.nb.2.2⟩,⟨_,al.frame (ab e) ac,by rw[qc0,o.keys]⟩,⟨_,am.frame (ab e) ac,by rw[qc0,o.vals]⟩,o.ri.frame (ab e) ac⟩
    hR (ap.frame (.refl _ _) fun b u=>.inl (qjM b u)) e.fr
 ·rw[I.leaf] at hc;have aS:¬nl.leaf=true:=(by rw[hc];decide);have il:=sl.inner hc;have hG:giveN nl nr key=({ nl with keys:=nl.keys.take (nl.keys.length-1),kids:=nl.kids.take (nl.keys.length-1+1) },{ nr with keys:=key::nr.keys,kids:=nl.kids.getD (nl.keys.length-1+1) 0::nr.kids },nl.keys.getD (nl.keys.length-1) []):=(by unfold giveN;rw[if_neg aS]);have hi:nl.keys.length-1<pk.length:=(by omega);have an:nl.keys.length-1+1<nl.kids.length:=(by omega);rw[hG,o.keyAt hi,qdX an] at kk;have U:U32 nl.kids[nl.keys.length-1+1]:=o.nb.2.2 _ (zW an);have aT:wrap .i64 (((nl.keys.length-1:Nat):Int)+1)=((nl.keys.length-1+1:Nat):Int):=qbM (by omega);rw[aT];have kw:∀ {w' T x' n' B'},Ed dbk pb FD D j (Br++F) Br w0 w' T (Bl++Y) F M x' n' B'->RdB (Zo FD (T++(B'++(Bl++Y))) F) w' ks key:=fun e=>hk.frame (e.fr.mono fun b u _=>V b (aa b u)) (nZ e);refine oA h 3 rfl xl.2.1 rfl<|Rds.getS ((o.rk).frame0 h.fr) (nl.keys.length-1) rfl hi fun a4 a5=>⟨?b1,?b2,?b3⟩;case' b1=>
   have h:=oF h;refine oA h 2 rfl xr.2.1 rfl<|oA h 2 rfl xr.2.2.2 rfl<|oA h 3 rfl xl.2.2.2 rfl<|Rds.getU ((o.ri).frame0 h.fr) (nl.keys.length-1+1) rfl an fun ae A=>oB h fun af ag _ _ h=>?_;have e:=e0.now h;refine qaE (A _ _ (G e).ri) (h.cell 4 rfl rfl) (h.cell 3 rfl rfl) (h.cell 3 rfl rfl)<|e.insK h (i:=0) (yW _) rfl (by omega) 0 rfl (kw e) aq fun y B1 ah e h _=>qap (A _ _ (G e).ri) (h.cell 4 rfl rfl) (h.cell 3 rfl rfl)<|oB h fun ai aj _ _ h=>?_;have e:=e.now h;refine qan (h.cell 4 rfl rfl) (h.cell 4 rfl rfl)<|e.insI h (i:=0) (yW _) rfl (by dsimp only;omega) 0 rfl U fun z B2 ak e h _=>?_
  case' b2=>
   have h:=oF h;refine oA h 2 rfl xr.2.1 rfl<|oA h 2 rfl xr.2.2.2 rfl<|oA h 3 rfl xl.2.2.2 rfl<|Rds.getU ((o.ri).frame0 h.fr) (nl.keys.length-1+1) rfl an fun ae A=>oB h fun af ag _ _ h=>qaE (A _ _ (G (e0.now h)).ri) (h.cell 4 rfl rfl) (h.cell 3 rfl rfl) (h.cell 3 rfl rfl)<|oB h fun ai aj _ _ h=>?_;have e:=e0.now h;refine qan (h.cell 4 rfl rfl) (h.cell 4 rfl rfl)<|e.insK h (i:=0) (yW _) rfl (by omega) 1 rfl (kw e) aq fun y B1 ah e h _=>qap (A _ _ (G e).ri) (h.cell 5 rfl rfl) (h.cell 4 rfl rfl)<|e.insI h (i:=0) (yW _) rfl (by dsimp only;omega) 0 rfl U fun z B2 ak e h _=>?_
  case' b3=>
   have h:=oF h;refine oA h 2 rfl xr.2.1 rfl<|oA h 2 rfl xr.2.2.2 rfl<|oA h 3 rfl xl.2.2.2 rfl<|Rds.getU ((o.ri).frame0 h.fr) (nl.keys.length-1+1) rfl an fun ae A=>oB h fun af ag _ _ h=>qan (h.cell 3 rfl rfl) (h.cell 3 rfl rfl)<|oB h fun ai aj _ _ h=>?_;have e:=e0.now h;refine qaE (A _ _ (G e).ri) (h.cell 5 rfl rfl) (h.cell 4 rfl rfl) (h.cell 4 rfl rfl)<|e.insK h (i:=0) (yW _) rfl (by omega) 0 rfl (kw e) aq fun y B1 ah e h _=>qap (A _ _ (G e).ri) (h.cell 5 rfl rfl) (h.cell 4 rfl rfl)<|e.insI h (i:=0) (yW _) rfl (by dsimp only;omega) 1 rfl U fun z B2 ak e h _=>?_
  all_goals
   refine oD h 4 rfl (ndV (xr.1,y,xr.2.2.1,xr.2.2.2)) fun aM h _=>oD h 4 rfl (ndV (xr.1,y,xr.2.2.1,z)) fun aN h _=>?_;have h:=oF h;refine oA h 5 rfl xl.2.1 rfl<|RdK.upto az (nl.keys.length-1) rfl (by omega) fun C al=>oA h 5 rfl xl.2.2.2 rfl<|Rds.upto1 o.ri (nl.keys.length-1+1) rfl (by omega) fun E am=>oD h 5 rfl (ndV (xl.1,C,xl.2.2.1,xl.2.2.2)) fun aO h _=>oD h 5 rfl (ndV (xl.1,C,xl.2.2.1,E)) fun aP h _=>?_;have h:=oF h;refine oC h 5 rfl (xl.1,C,xl.2.2.1,E) rfl<|oC h 4 rfl (xr.1,y,xr.2.2.1,z) rfl<|oD h 3 rfl (ndV (xl.1,C,xl.2.2.1,E)) fun aR h _=>qaj (h.cells 4 rfl rfl)<|oD h 2 rfl (ndV (xr.1,y,xr.2.2.1,z)) fun aw h _=>oC h 3 rfl (xl.1,C,xl.2.2.1,E) rfl<|oC h 2 rfl (xr.1,y,xr.2.2.1,z) rfl ?_;have e:=e.now h;have hR:=e.nodeR.weak (S':=Zo FD Y F) fun b u=>.inl (qjM b u);rw[qgS,qgS] at hR;exact kk (xl.1,C,xl.2.2.1,E) (xr.1,y,xr.2.2.1,z) _ aw (e.tw'.weakY fun b u=>by simp[u]) ⟨I.leaf,⟨fun a ha=>o.nb.1 a (yU ha),o.nb.2.1,fun a ha=>o.nb.2.2 a (yU ha)⟩,⟨_,al.frame (ab e) ac,by rw[qc0,o.keys]⟩,⟨_,aA.frame (ab e) ac,o.vals⟩,am.frame (ab e) ac⟩
    hR (((G e).ek _ (zW hi)).frame (.refl _ _) fun b u=>.inl (by simp only[Zo,zD,zG] at u⊢;rcases u with (u|u|u)|u<;>simp[u])) e.fr
end
end
end
end Go.Proofs.YtmmkegapckbomaaGreatDoor
