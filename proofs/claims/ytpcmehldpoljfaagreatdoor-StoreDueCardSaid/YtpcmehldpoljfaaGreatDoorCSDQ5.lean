/- Conditions: those that stand in each line. -/
import Derived.Test.YtpcmehldpoljfaaGreatDoorCSDQ4
import Derived.Test.YtpcmehldpoljfaaGreatDoorCSDQ3
set_option linter.unusedVariables false
set_option linter.unusedSimpArgs false
set_option linter.defProp false
namespace Go.Proofs.YtpcmehldpoljfaaGreatDoor
open Go.Proofs.Tryz (prog)
section
open Go Go.Pt List
open Go.IntKind (wrap)
attribute [local irreducible] ld dJ iH mZ i7 fi st new idx i8 jr fB js iY lV gT nn call dV inv run fc iM join loop held ext jR eI mH mz mI IntKind.wrap
variable {B:List Nat} {K:Sl->WP} {cs:Array Value} {i:Nat} {ii:Int} {l:List Int} {s:Sl} {w:World}
def BS:∃i,prog.info? 101=some i/\i.zero=some (.slice none 0 0)/\i.size=1/\i.bytes=24:=se oK
abbrev fN (s:Sl):Value:=s.v
abbrev mK (n:Int):Value:=.u n
def BN{α:Type}(e:α->Value)(l:List α)(i:Nat)(x:α):(l.take i++[x]++l.drop i).map e=(l.map e).take i++[e x]++(l.map e).drop i:=by rw[xM,xM,xO,xP];rfl
def qta{α:Type}(e:α->Value)(l:List α)(i:Nat):(l.take i++l.drop (i+1)).map e=(l.map e).take i++(l.map e).drop (i+1):=by rw[xM,xO,xP]
def xi{a:Addr}{len cap:Nat}{hi:Int}{u:Nat}{K:Sl->Prop}(n:Nat)(C:hi=n)(h:n<=cap)(k:K ⟨some a,n,cap⟩):fB ⟨some a,len,cap⟩ none (some hi) none u K:=by subst C;refine wD ⟨oJ,by dsimp only;omega⟩ ?_;rw[zJ];exact k
def rC{b len cap:Nat}{lo:Int}{K:Sl->Prop}(n:Nat)(h:lo=n)(C:n<=len)(u:len<=cap)(E:n<cap)(k:K ⟨some (dd b n),len-n,cap-n⟩):fB ⟨pW b,len,cap⟩ (some lo) none none 1 K:=by subst h;refine CB oJ oJ u oJ ?_;rw[zJ,xS,xR];exact k
def qwH{lo hi mx:Int}{u:Nat}{K:Sl->Prop}(h:0<=lo/\lo<=hi/\hi<=mx/\mx<=s.cap)(k:∀C,K C):fB s (some lo) (some hi) (some mx) u K:=by unfold fB;exact⟨by simpa using h,k _⟩
def wO{α:Type}{e:α->Value}{b:Nat}{T:TypeId}{E:Nat×Nat}{l:List α}(G:w.heap[b]?=some (.cells cs T E))(I:cs.toList.take l.length=l.map e)(i:Nat):∀(j:Nat) u,((l.map e).drop i)[j]?=some u->w.cell? (Addr.add (dd b i) j)=some u:=fun j u C=>by rw[Addr.q9,je G];rw[yZ] at C;have h:=(zP.1 C).1;rw[zK] at h;rw[<- I,xA,if_pos h] at C;simpa using C
def qlA{α:Type}{e:α->Value}{l:List α}(h:cs.toList.take l.length=l.map e)(hi:i<=l.length):cs.toList.take i=(l.map e).take i:=by rw[<- h,take_take,xQ hi]
def Bp{α:Type}{enc:α->List Value}{e:α->Value}(u:∀x,enc x=[e x]){l:List α}(h:cs.toList.take l.length=l.flatMap enc):cs.toList.take l.length=l.map e:=by rw[h,yc u]
def qtP{l:List Sl}{x:Sl}{vb:Nat}{T':TypeId}(h:eO gg 1 w s l B)(hi:i<=l.length)(he:ii=i)(hl:l.length<=100000)(hv:w.heap[vb]?=some (.cells #[fN x] T' (0,0)))(ak:vb∉B)(kk:∀s' B' w',eO gg 1 w' s' (fy l i x) B'->Fr B w w'->(∀b∈B',b∈B\/w.heap.size<=b)->K s' w'): cW 165 [s.v,.i ii,.slice (pW vb) 1 1] de w K:=by
 obtain⟨aG,ab,hz,al,am⟩:=BS;refine qk9 (s:=s) (i:=ii) (v:=⟨pW vb,1,1⟩) ?_;subst he;have an:=h.len;have ac:∀w',Fr B w w'->∀(j:Nat) u,([fN x]:List Value)[j]?=some u->w'.cell? (Addr.add (dd vb) j)=some u:=fun w' f j u hj=>by rw[Addr.q9,je (by rw[f.block vb (eT hv) ak];exact hv),xR];simpa using hj
 refine dW.part (S:=[]) (eO.jq (enc:=gg) (k:=1) (fun _=>rfl) h (fun _ _ h=>nomatch h)) (lo:=some (i:Int)) (hi:=none) i l.length rfl (by rw[xV,an]) hi (zM _) fun s1 _ _ _=>cond_false rfl ?_;apply dR<;>intro hc;have J:i=l.length:=(by have:=yO.1 hc;omega);have ao:Src prog 1 171 (.slice (pW vb) 1 1) 1 ([x].flatMap gg) w:=.ofSlice w (e':=101) oK _ 1 1 _ rfl (ac w (.refl _ _)) (fun u hu=>by rw[yG,flatMap_nil,xG] at hu;rw[zE.1 hu];rfl);refine eO.j1 (ys:=[x]) (e:=101) h (fun _=>rfl) oK ab hz al rfl ao rfl (by rw[am];omega) oJ fun s' B' w' b' f' n' _=>kk s' B' w' ?_ f' n';have e:fy l i x=l++[x]:=(by unfold fy;rw[J,xY,drop_length,xG]);rw[e];exact b';have J:i<l.length:=by
  have:=(zR.1 hc)
  omega
 have aH:l≠[]:=fun e=>by rw[e] at J;exact absurd J (xX _)
 obtain⟨b,cs,T,rfl,ha,hb,hn,ap,aq,aI⟩:=h.ptr aH;have hM:=Bp (e:=fN) (fun _=>rfl) aI;obtain⟨sa,sn,sc⟩:=s;dsimp only at ha hn ap aq;subst ha hn;have aJ:vb≠b:=(oP ak);have E:(l.map fN).length=l.length:=zK ..;have ar:∀v∈(l.map fN).drop i,Value.oneCell' v=true:=fun v I=>by obtain⟨y,_,rfl⟩:=mem_map.1 (yT I);rfl
 have R:((l.map fN).drop i).length=l.length-i:=(by rw[yB,E]);have U:wrap .i64 ((l.length:Int)+1)=((l.length+1:Nat):Int):=(by rw[gc _ oJ];rfl);have au:wrap .i64 ((i:Int)+1)=((i+1:Nat):Int):=(by rw[gc _ oJ];rfl);have aK:wrap .i64 (((l.length+1:Nat):Int)-(i:Int))=((l.length+1-i:Nat):Int):=(by rw[gc _ oJ];omega);apply cD<;>intro hc;have hg:sc<l.length+1:=by
  have:=hc
  dsimp only at this;rw[show (((1:Nat):Int))=1 from rfl,U] at this;omega
 refine xi i rfl oJ ?_;dsimp only;rw[show (((1:Nat):Int))=1 from rfl,U,aK,au];have av:i+(l.length+1-i)=l.length+1:=oJ;refine Gt (e:=101) (i:=aG) (kn:=.i64) (olds:=(l.map fN).take i) oK oK ab hz al rfl (by rw[yK,E];omega) (fun h=>nomatch h) (fun a ha j u hj=>?_) oJ oJ (by rw[av,am];omega) oJ fun b2 aM c w2 e2 af f2 V aN aO=>?_;cases ha;have aw:=wO hb hM 0 j u;rw[xE] at aw;rw[xA] at hj;split at hj;exact aw hj;cases hj;rw[av] at V⊢;have ax:=eT hb;have aZ:Fr [b2] w w2:=f2.mono fun _ h _=>nomatch h;refine rC i rfl oJ V oJ<|ve (vs:=[fN x]) (src:=⟨pW vb,1,1⟩) af (el:=101) oK oK ?_ (fun _=>⟨_,rfl,ac w2 (f2.mono fun _ h _=>nomatch h)⟩) (fun v I=>by rw[zE.1 I];rfl) oO fun w3 ag f3=>?_;show 1=min 1 (l.length+1-i);omega;refine rC (i+1) rfl oJ V oJ<|rC i rfl oJ oJ oJ ?_;have aP:w3.heap[b]?=some (.cells cs T (0,0)):=by rw[f3.block b (yC ax f2.size) oO,f2.block b ax (fun h=>nomatch h)];exact hb
 refine ve (w:=w3.drew) (vs:=(l.map fN).drop i) (src:=⟨some (dd b i),l.length-i,sc-i⟩) ag (el:=101) oK oK ?_ (fun _=>⟨_,rfl,wO (w:=w3.drew) aP hM i⟩) ar (by rw[mG,R];omega) fun w4 aQ f4=>?_;rw[R];show l.length-i=min (l.length-i) (l.length+1-(i+1));omega;have G:=qv0 (cs:=aM) (M:=l.map fN) (i:=i) (v:=fN x) (by rw[E];omega) (by rw[E];omega) aO;have C:(fy l i x).length=l.length+1:=(by unfold fy;simp;omega);refine kk _ [b2] w4 (eO.one (e:=fN) (fun _=>rfl) aQ C.symm V (by rw[mG,mG];exact aN) ?_) ?_ (fun b' ah=>?_);rw[C];rw[E] at G;rw[G];exact (BN fN l i x).symm;refine Fr.j8 (S:=[b]) (T:=[b2]) (f2.mono fun _ h _=>nomatch h) (f3.drew.trans f4) fun i hi=>.inr ?_;rw[zE.1 hi,e2];exact zM _;rw[zE.1 ah,e2];exact .inr (zM _);have hg:l.length+1<=sc:=by
  have:=hc
  dsimp only at this;rw[show (((1:Nat):Int))=1 from rfl,U] at this;omega
 dsimp only;rw[show (((1:Nat):Int))=1 from rfl,U,au];refine xi (l.length+1) rfl hg<|rC (i+1) rfl oJ hg oJ<|Cv (e:=Extern.SlicesOverlaps.overlaps #[171,171] #[4]) Tryz.func196 oK oK oK oK false w (qnx oK ab hv hb aJ oJ)<|cond_true rfl<|rC (i+1) rfl oJ hg oJ<|rC i rfl oJ hg oJ<|ve (w:=w.drew) (vs:=(l.map fN).drop i) (src:=⟨some (dd b i),l.length+1-i,sc-i⟩) hb (el:=101) oK oK ?_ (fun _=>⟨_,rfl,wO (w:=w.drew) hb hM i⟩) ar (by rw[R];omega) fun w2 af f2=>?_;rw[R];show l.length-i=min (l.length+1-i) (l.length+1-(i+1));omega;refine rC i rfl oJ hg oJ<|ve (vs:=[fN x]) (src:=⟨pW vb,1,1⟩) af (el:=101) oK oK ?_ (fun _=>⟨_,rfl,ac w2 ((Fr.refl [b] w).drew.trans f2)⟩) (fun v I=>by rw[zE.1 I];rfl) (by rw[mG];simp;omega) fun w3 ag f3=>?_;show 1=min 1 (l.length+1-i);omega;have G:=qv2 (cs:=cs) (M:=l.map fN) (i:=i) (v:=fN x) (by rw[E];omega) (by rw[E];omega) (qlA hM oJ);have C:(fy l i x).length=l.length+1:=(by unfold fy;simp;omega);refine kk _ [b] w3 (eO.one (e:=fN) (fun _=>rfl) ag C.symm hg (by rw[mG,mG];exact aq) ?_) (((Fr.refl [b] w).drew.trans f2).trans f3) (fun b' ah=>.inl ah);rw[C];rw[E] at G;rw[G];exact (BN fN l i x).symm
def qtM{l:List Sl}{jj:Int}(h:eO gg 1 w s l B)(hi:i<l.length)(he:ii=i)(hj:jj=((i+1:Nat):Int))(hl:l.length<=100000)(kk:∀s' w',eO gg 1 w' s' (gH l i) B->Fr B w w'->K s' w'): cW 168 [s.v,.i ii,.i jj] de w K:=by
 obtain⟨aw,ac,hz,ad,ax⟩:=BS;refine qk7 ?_;subst he hj;have ae:l≠[]:=fun e=>by rw[e] at hi;exact absurd hi (xX _)
 obtain⟨b,cs,T,rfl,ha,hb,hn,U,G,af⟩:=h.ptr ae;have hM:=Bp (e:=fN) (fun _=>rfl) af;obtain⟨sa,sn,sc⟩:=s;dsimp only at ha hn U G;subst ha hn;have C:(l.map fN).length=l.length:=zK ..;have aA:∀v∈(l.map fN).drop (i+1),Value.oneCell' v=true:=fun v ag=>by obtain⟨y,_,rfl⟩:=mem_map.1 (yT ag);rfl
 have aB:((l.map fN).drop (i+1)).length=l.length-(i+1):=(by rw[yB,C]);refine qwH oN fun _=>cond_false (zR.2 oJ)<|xi i rfl oJ ?_;have ah:∀R,R.heap[b]?=some (.cells (dN cs i ((l.map fN).drop (i+1))) T (0,0))->Fr [b] w R->fB ⟨pW b,l.length-1,sc⟩ (some (((l.length-1:Nat)):Int)) (some ((l.length:Nat):Int)) none 1 fun (I:Sl)=>
  run [] ((Builtin.clear_ #[171] 0 (#[Value.slice I.a I.len I.cap])).run prog R)<|
  fun (aC:PUnit) (ai:World)=>
  K ⟨pW b,l.length-1,sc⟩ ai:=fun R J f5=>by
  refine BD oJ oJ oJ oJ ?_;rw[zJ,zJ,xS,xR];have h1:l.length-(l.length-1)=1:=oJ;rw[h1];dsimp only;refine qs7 (e:=101) (z:=(Value.slice none 0 0)) J oK oK rfl rfl oJ (by rw[mG];omega) fun w6 ak f6=>?_;have E:=qvF (cs:=cs) (M:=l.map fN) (i:=i) (z:=(Value.slice none 0 0)) (by rw[C];omega) (by rw[C];exact hM);have V:(gH l i).length=l.length-1:=(by unfold gH;simp;omega);refine kk _ w6 (eO.one (e:=fN) (fun _=>rfl) ak V.symm oJ (by rw[mG,mG];exact G) ?_) (f5.trans f6);rw[V];rw[C] at E;rw[show List.replicate 1 ((Value.slice none 0 0))=[(Value.slice none 0 0)] from rfl,E];exact (qta fN l i).symm
 refine dW.part (S:=[]) (eO.jq (enc:=gg) (k:=1) (fun _=>rfl) h (fun _ _ h=>nomatch h)) (lo:=some ((i+1:Nat):Int)) (hi:=none) (i+1) l.length rfl rfl oJ (zM _) fun s3 aa h3 aH=>?_;have ab:Src prog 1 171 s3.v s3.len ((l.map fN).drop (i+1)) w.drew:=by
  have:=uv (P:=prog) (tx:=171) (e':=101) (h3.same (mS.refl w).drew) (fun _=>rfl) (fun x u hu=>by rw[zE.1 hu];rfl) oK
  rw[yc (enc:=gg) (e:=fN) (fun _=>rfl),xY,xP] at this;exact this
 dsimp only;refine qs1 (w:=w.drew) (e:=101) hb oK ac ad ab (by rw[aa];omega) G fun R J f5=>?_;have e:i+s3.len=l.length-1:=(by rw[aa];omega);rw[e];exact ah R J ((Fr.refl [b] w).drew.trans f5)
def qtQ{x:Int}{vb:Nat}{T':TypeId}(h:eO ik 1 w s l B)(hi:i<=l.length)(he:ii=i)(hl:l.length<=100000)(hv:w.heap[vb]?=some (.cells #[mK x] T' (0,0)))(ak:vb∉B)(kk:∀s' B' w',eO ik 1 w' s' (fy l i x) B'->Fr B w w'->(∀b∈B',b∈B\/w.heap.size<=b)->K s' w'): cW 167 [s.v,.i ii,.slice (pW vb) 1 1] de w K:=by
 obtain⟨aG,ab,hz,al,am⟩:=uP;refine qla (s:=s) (i:=ii) (v:=⟨pW vb,1,1⟩) ?_;subst he;have an:=h.len;have ac:∀w',Fr B w w'->∀(j:Nat) u,([mK x]:List Value)[j]?=some u->w'.cell? (Addr.add (dd vb) j)=some u:=fun w' f j u hj=>by rw[Addr.q9,je (by rw[f.block vb (eT hv) ak];exact hv),xR];simpa using hj
 refine dW.part (S:=[]) (eO.jq (enc:=ik) (k:=1) (fun _=>rfl) h (fun _ _ h=>nomatch h)) (lo:=some (i:Int)) (hi:=none) i l.length rfl (by rw[xV,an]) hi (zM _) fun s1 _ _ _=>cond_false rfl ?_;apply dR<;>intro hc;have J:i=l.length:=(by have:=yO.1 hc;omega);have ao:Src prog 1 172 (.slice (pW vb) 1 1) 1 ([x].flatMap ik) w:=.ofSlice w (e':=63) oK _ 1 1 _ rfl (ac w (.refl _ _)) (fun u hu=>by rw[yG,flatMap_nil,xG] at hu;rw[zE.1 hu];rfl);refine eO.j1 (ys:=[x]) (e:=63) h (fun _=>rfl) oK ab hz al rfl ao rfl (by rw[am];omega) oJ fun s' B' w' b' f' n' _=>kk s' B' w' ?_ f' n';have e:fy l i x=l++[x]:=(by unfold fy;rw[J,xY,drop_length,xG]);rw[e];exact b';have J:i<l.length:=by
  have:=(zR.1 hc)
  omega
 have aH:l≠[]:=fun e=>by rw[e] at J;exact absurd J (xX _)
 obtain⟨b,cs,T,rfl,ha,hb,hn,ap,aq,aI⟩:=h.ptr aH;have hM:=Bp (e:=mK) (fun _=>rfl) aI;obtain⟨sa,sn,sc⟩:=s;dsimp only at ha hn ap aq;subst ha hn;have aJ:vb≠b:=(oP ak);have E:(l.map mK).length=l.length:=zK ..;have ar:∀v∈(l.map mK).drop i,Value.oneCell' v=true:=fun v I=>by obtain⟨y,_,rfl⟩:=mem_map.1 (yT I);rfl
 have R:((l.map mK).drop i).length=l.length-i:=(by rw[yB,E]);have U:wrap .i64 ((l.length:Int)+1)=((l.length+1:Nat):Int):=(by rw[gc _ oJ];rfl);have au:wrap .i64 ((i:Int)+1)=((i+1:Nat):Int):=(by rw[gc _ oJ];rfl);have aK:wrap .i64 (((l.length+1:Nat):Int)-(i:Int))=((l.length+1-i:Nat):Int):=(by rw[gc _ oJ];omega);apply cD<;>intro hc;have hg:sc<l.length+1:=by
  have:=hc
  dsimp only at this;rw[show (((1:Nat):Int))=1 from rfl,U] at this;omega
 refine xi i rfl oJ ?_;dsimp only;rw[show (((1:Nat):Int))=1 from rfl,U,aK,au];have av:i+(l.length+1-i)=l.length+1:=oJ;refine Gt (e:=63) (i:=aG) (kn:=.i64) (olds:=(l.map mK).take i) oK oK ab hz al rfl (by rw[yK,E];omega) (fun h=>nomatch h) (fun a ha j u hj=>?_) oJ oJ (by rw[av,am];omega) oJ fun b2 aM c w2 e2 af f2 V aN aO=>?_;cases ha;have aw:=wO hb hM 0 j u;rw[xE] at aw;rw[xA] at hj;split at hj;exact aw hj;cases hj;rw[av] at V⊢;have ax:=eT hb;have aZ:Fr [b2] w w2:=f2.mono fun _ h _=>nomatch h;refine rC i rfl oJ V oJ<|ve (vs:=[mK x]) (src:=⟨pW vb,1,1⟩) af (el:=63) oK oK ?_ (fun _=>⟨_,rfl,ac w2 (f2.mono fun _ h _=>nomatch h)⟩) (fun v I=>by rw[zE.1 I];rfl) oO fun w3 ag f3=>?_;show 1=min 1 (l.length+1-i);omega;refine rC (i+1) rfl oJ V oJ<|rC i rfl oJ oJ oJ ?_;have aP:w3.heap[b]?=some (.cells cs T (0,0)):=by rw[f3.block b (yC ax f2.size) oO,f2.block b ax (fun h=>nomatch h)];exact hb
 refine ve (w:=w3.drew) (vs:=(l.map mK).drop i) (src:=⟨some (dd b i),l.length-i,sc-i⟩) ag (el:=63) oK oK ?_ (fun _=>⟨_,rfl,wO (w:=w3.drew) aP hM i⟩) ar (by rw[mG,R];omega) fun w4 aQ f4=>?_;rw[R];show l.length-i=min (l.length-i) (l.length+1-(i+1));omega;have G:=qv0 (cs:=aM) (M:=l.map mK) (i:=i) (v:=mK x) (by rw[E];omega) (by rw[E];omega) aO;have C:(fy l i x).length=l.length+1:=(by unfold fy;simp;omega);refine kk _ [b2] w4 (eO.one (e:=mK) (fun _=>rfl) aQ C.symm V (by rw[mG,mG];exact aN) ?_) ?_ (fun b' ah=>?_);rw[C];rw[E] at G;rw[G];exact (BN mK l i x).symm;refine Fr.j8 (S:=[b]) (T:=[b2]) (f2.mono fun _ h _=>nomatch h) (f3.drew.trans f4) fun i hi=>.inr ?_;rw[zE.1 hi,e2];exact zM _;rw[zE.1 ah,e2];exact .inr (zM _);have hg:l.length+1<=sc:=by
  have:=hc
  dsimp only at this;rw[show (((1:Nat):Int))=1 from rfl,U] at this;omega
 dsimp only;rw[show (((1:Nat):Int))=1 from rfl,U,au];refine xi (l.length+1) rfl hg<|rC (i+1) rfl oJ hg oJ<|Cv (e:=Extern.SlicesOverlaps.overlaps #[172,172] #[4]) Tryz.func200 oK oK oK oK false w (qnx oK ab hv hb aJ oJ)<|cond_true rfl<|rC (i+1) rfl oJ hg oJ<|rC i rfl oJ hg oJ<|ve (w:=w.drew) (vs:=(l.map mK).drop i) (src:=⟨some (dd b i),l.length+1-i,sc-i⟩) hb (el:=63) oK oK ?_ (fun _=>⟨_,rfl,wO (w:=w.drew) hb hM i⟩) ar (by rw[R];omega) fun w2 af f2=>?_;rw[R];show l.length-i=min (l.length+1-i) (l.length+1-(i+1));omega;refine rC i rfl oJ hg oJ<|ve (vs:=[mK x]) (src:=⟨pW vb,1,1⟩) af (el:=63) oK oK ?_ (fun _=>⟨_,rfl,ac w2 ((Fr.refl [b] w).drew.trans f2)⟩) (fun v I=>by rw[zE.1 I];rfl) (by rw[mG];simp;omega) fun w3 ag f3=>?_;show 1=min 1 (l.length+1-i);omega;have G:=qv2 (cs:=cs) (M:=l.map mK) (i:=i) (v:=mK x) (by rw[E];omega) (by rw[E];omega) (qlA hM oJ);have C:(fy l i x).length=l.length+1:=(by unfold fy;simp;omega);refine kk _ [b] w3 (eO.one (e:=mK) (fun _=>rfl) ag C.symm hg (by rw[mG,mG];exact aq) ?_) (((Fr.refl [b] w).drew.trans f2).trans f3) (fun b' ah=>.inl ah);rw[C];rw[E] at G;rw[G];exact (BN mK l i x).symm
def qtN{jj:Int}(h:eO ik 1 w s l B)(hi:i<l.length)(he:ii=i)(hj:jj=((i+1:Nat):Int))(hl:l.length<=100000)(kk:∀s' w',eO ik 1 w' s' (gH l i) B->Fr B w w'->K s' w'): cW 239 [s.v,.i ii,.i jj] de w K:=by
 obtain⟨aw,ac,hz,ad,ax⟩:=uP;refine qk8 ?_;subst he hj;have ae:l≠[]:=fun e=>by rw[e] at hi;exact absurd hi (xX _)
 obtain⟨b,cs,T,rfl,ha,hb,hn,U,G,af⟩:=h.ptr ae;have hM:=Bp (e:=mK) (fun _=>rfl) af;obtain⟨sa,sn,sc⟩:=s;dsimp only at ha hn U G;subst ha hn;have C:(l.map mK).length=l.length:=zK ..;have aA:∀v∈(l.map mK).drop (i+1),Value.oneCell' v=true:=fun v ag=>by obtain⟨y,_,rfl⟩:=mem_map.1 (yT ag);rfl
 have aB:((l.map mK).drop (i+1)).length=l.length-(i+1):=(by rw[yB,C]);refine qwH oN fun _=>cond_false (zR.2 oJ)<|xi i rfl oJ ?_;have ah:∀R,R.heap[b]?=some (.cells (dN cs i ((l.map mK).drop (i+1))) T (0,0))->Fr [b] w R->fB ⟨pW b,l.length-1,sc⟩ (some (((l.length-1:Nat)):Int)) (some ((l.length:Nat):Int)) none 1 fun (I:Sl)=>
  run [] ((Builtin.clear_ #[172] 0 (#[Value.slice I.a I.len I.cap])).run prog R)<|
  fun (aC:PUnit) (ai:World)=>
  K ⟨pW b,l.length-1,sc⟩ ai:=fun R J f5=>by
  refine BD oJ oJ oJ oJ ?_;rw[zJ,zJ,xS,xR];have h1:l.length-(l.length-1)=1:=oJ;rw[h1];dsimp only;refine qs7 (e:=63) (z:=(Value.int .u32 0)) J oK oK rfl rfl oJ (by rw[mG];omega) fun w6 ak f6=>?_;have E:=qvF (cs:=cs) (M:=l.map mK) (i:=i) (z:=(Value.int .u32 0)) (by rw[C];omega) (by rw[C];exact hM);have V:(gH l i).length=l.length-1:=(by unfold gH;simp;omega);refine kk _ w6 (eO.one (e:=mK) (fun _=>rfl) ak V.symm oJ (by rw[mG,mG];exact G) ?_) (f5.trans f6);rw[V];rw[C] at E;rw[show List.replicate 1 ((Value.int .u32 0))=[(Value.int .u32 0)] from rfl,E];exact (qta mK l i).symm
 refine dW.part (S:=[]) (eO.jq (enc:=ik) (k:=1) (fun _=>rfl) h (fun _ _ h=>nomatch h)) (lo:=some ((i+1:Nat):Int)) (hi:=none) (i+1) l.length rfl rfl oJ (zM _) fun s3 aa h3 aH=>?_;have ab:Src prog 1 172 s3.v s3.len ((l.map mK).drop (i+1)) w.drew:=by
  have:=uv (P:=prog) (tx:=172) (e':=63) (h3.same (mS.refl w).drew) (fun _=>rfl) (fun x u hu=>by rw[zE.1 hu];rfl) oK
  rw[yc (enc:=ik) (e:=mK) (fun _=>rfl),xY,xP] at this;exact this
 dsimp only;refine qs1 (w:=w.drew) (e:=63) hb oK ac ad ab (by rw[aa];omega) G fun R J f5=>?_;have e:i+s3.len=l.length-1:=(by rw[aa];omega);rw[e];exact ah R J ((Fr.refl [b] w).drew.trans f5)
end
section
open Go Go.Pt List
open Go.IntKind (wrap)
open Classical
attribute [local irreducible] ld dJ iH mZ i7 fi st new idx i8 jr fB js iY lV gT nn call dV inv run fc iM join loop held ext jR eI mH mz mI IntKind.wrap
variable {B S:List Nat} {K:Sl->WP} {L:List (Nat×Obj)} {T:TypeId} {b l:List Int} {e:Int×Int×List Int} {k v:Nat} {kind:Int} {n:dG} {ps:oS} {s:Sl} {w w0:World} {x:jP}
def qth{i j:Nat}(h:i+j<=10000000):wrap .i64 (Int.fdiv (wrap .u64 (wrap .i64 ((i:Int)+(j:Int)))) (2^1))=(((i+j) / 2:Nat):Int):=by have e1:wrap .i64 ((i:Int)+(j:Int))=(i:Int)+(j:Int):=gc _ oJ;have u:wrap .u64 ((i:Int)+(j:Int))=(i:Int)+(j:Int):=IntWalk.u64_in _ oJ;rw[e1,u,Int.fdiv_eq_ediv_of_nonneg _ oM];have e:((i:Int)+(j:Int)) / 2^1=(((i+j) / 2:Nat):Int):=oJ;rw[e,gc _ oJ]
def qvq{n:Nat}{v:Value}{p:Nat->Bool}{K:Int->WP}(E:n<=1000000)(hf:∀w1 (i:Nat) (K':Bool->WP),Fr [] w w1->i<n->(∀w2,Fr [] w w2->K' (p i) w2)->dV prog v [.i i] dg w1 K')(u:∀i j,i<=j->j<n->p i=true->p j=true)(hk:∀(r:Nat) w',r<=n->(∀i,i<r->p i=false)->(∀i,r<=i->i<n->p i=true)->Fr [] w w'->K r w'): cW 123 [.i n,v] df w K:=by
 refine qoD<|iV (fun s w'=>∃i j:Nat,s=((i:Int),(j:Int))/\i<=j/\j<=n/\(∀a,a<i->p a=false)/\(∀a,j<=a->a<n->p a=true)/\Fr [] w w') (fun s _=>(s.2-s.1).toNat) ⟨0,n,rfl,oJ,oJ,fun _ h=>absurd h (xX _),fun a G I=>oJ,.refl _ _⟩ ?_;rintro s w1 ⟨i,j,rfl,ag,J,G,I,hs⟩ X hX;dsimp only;apply cD<;>intro R;have ah:i<j:=oJ;rw[qth oJ];refine hf w1 ((i+j) / 2) _ hs oJ fun w2 C=>?_;cases hp:p ((i+j) / 2);refine cond_true rfl ?_;have e:wrap .i64 ((((i+j) / 2:Nat):Int)+1)=(((i+j) / 2+1:Nat):Int):=(by rw[gc _ oJ];rfl);rw[e];refine hX _ _ ⟨(i+j) / 2+1,j,rfl,oJ,J,fun a U=>?_,I,C⟩ oN;cases V:p a;rfl
 have:=u a ((i+j) / 2) oJ oJ V
 rw[hp] at this;exact this.symm;exact cond_false rfl<|hX _ _ ⟨i,(i+j) / 2,rfl,oJ,oJ,G,fun a U E=>u _ a U E hp,C⟩ oN;have ai:¬i<j:=oJ;exact hk i w1 oJ G (fun a U E=>I a oJ E) hs
def qyi{n:Nat}{v:Value}{c:Nat->Int}{K:Int×Bool->WP}(R:n<=1000000)(hf:∀w1 (i:Nat) (K':Int->WP),Fr [] w w1->i<n->(∀w2,Fr [] w w2->K' (c i) w2)->dV prog v [.i i] df w1 K')(u:∀i j,i<=j->j<n->c j>0->c i>0)(hk:∀(r:Nat) w',r<=n->(∀i,i<r->c i>0)->(∀i,r<=i->i<n->¬c i>0)->Fr [] w w'->K (r,decide (r<n/\c r=0)) w'): cW 125 [.i n,v] dp w K:=by
 refine qrW<|iV (fun s w'=>∃i j:Nat,s=((i:Int),(j:Int))/\i<=j/\j<=n/\(∀a,a<i->c a>0)/\(∀a,j<=a->a<n->¬c a>0)/\Fr [] w w') (fun s _=>(s.2-s.1).toNat) ⟨0,n,rfl,oJ,oJ,fun _ h=>absurd h (xX _),fun a U V=>oJ,.refl _ _⟩ ?_;rintro s w1 ⟨i,j,rfl,ai,aa,U,V,hs⟩ X hX;dsimp only;apply cD<;>intro G;have aj:i<j:=oJ;rw[qth oJ];refine hf w1 ((i+j) / 2) _ hs oJ fun w2 C=>?_;apply dR<;>intro I;have I:=zC I;have e:wrap .i64 ((((i+j) / 2:Nat):Int)+1)=(((i+j) / 2+1:Nat):Int):=(by rw[gc _ oJ];rfl);rw[e];exact hX _ _ ⟨(i+j) / 2+1,j,rfl,oJ,aa,fun a ha=>u a _ oJ oJ I,V,C⟩ oN;have I:=zB I;exact hX _ _ ⟨i,(i+j) / 2,rfl,oJ,oJ,U,fun a ha R ad=>I (u _ a ha R ad),C⟩ oN;have ak:¬i<j:=oJ;have J:=fun w'=>hk i w' oJ U (fun a ha R=>V a oJ R);apply cD<;>intro G;have E:i<n:=oJ;refine hf w1 i _ hs E fun w2 C=>?_;have e:(c i==0)=decide (i<n/\c i=0):=by rw[Bool.eq_iff_iff,yO,yM];exact⟨fun h=>⟨E,h⟩,fun h=>h.2⟩
 rw[e];exact J w2 C;have E:¬i<n:=by omega
 have:=J w1 hs
 rw[zU (fun h=>E h.1)] at this;exact this
section
variable {S S':List Nat} {w:World} {x:jP} {n:dG} {ks:Sl} {key:Key}
def BX{K:Int×Bool->WP}(hx:ef S w x n)(hk:eE S' w ks key)(hB:eB key)(hr:fE n.J6)(hl:n.J6.length<=1000000)(kk:∀w',Fr [] w w'->K (dI n.J6 key,decide (n.J6[dI n.J6 key]?=some key)) w'): cW 92 [.agg (eF x),ks.v] dp w K:=by
 obtain⟨h0,ab,⟨pk,I,E⟩,_⟩:=hx;refine qp6<|oB (oE [] w) fun r1 w1 e1 f1 h=>oB h fun r3 w2 e2 f2 h=>oA h 1 rfl x.2.1 rfl ?_;have R:x.2.1.len=pk.length:=I.len;have ao:n.J6.length=pk.length:=(by rw[<- E,zK]);have u:∀(i:Nat) (C:i<pk.length),n.J6[i]?=some pk[i].2:=fun i C=>by rw[<- E,zQ,zA C];rfl
 rw[R];refine qyi (c:=fun i=>cmpL key (n.J6.getD i [])) oJ (fun w3 i K' f3 C ac=>?_) (fun i j aq hj hc=>?_) fun r w' au ad ae f'=>?_;refine sA (lb:=[dB r3,dB r1]) rfl oK ?_;have J:=h.q7 f3;refine qmk ?_;have J:=J.drew;refine oA J 0 rfl ks rfl<|oA J 1 rfl x.2.1 rfl<|i9.get (I.q7 J.fr) i rfl C<|A3 (hk.q7 J.fr) ((I.q7 J.fr).2 pk[i] (zW C)) hB (ab.1 _ (yE (u i C))) ?_;have e:n.J6.getD i []=pk[i].2:=by rw[yQ,u i C];rfl
 have:=ac w3.drew f3.drew
 rw[e] at this;exact this;by_cases hij':i=j;rw[hij'];exact hc;have C:=u i oJ;have U:=u j hj;rw[yQ,U,xU] at hc;rw[yQ,C,xU];have h1:fD pk[j].2 key:=(by unfold fD;rw[tA];omega);have V:=om (Dv hr oJ C U) h1;unfold fD at V;rw[tA] at V;omega;have hp:dI n.J6 key=r:=qwn oJ (fun i a C ha=>by
  have:=ad i C
  rw[yQ,ha,xU,tA] at this;show cmpL a key<0;omega) fun a ha=>by
  have ay:=(zP.1 ha).1
  have:=ae r (zM _) oJ
  rw[yQ,ha,xU,tA] at this;show ¬cmpL a key<0;omega
 have G:=kk w' (h.fr.trans f');rw[hp] at G;have e:decide (n.J6[r]?=some key)=decide (r<pk.length/\cmpL key (n.J6.getD r [])=0):=by refine decide_eq_decide.2 ⟨fun h=>?_,fun h=>?_⟩;refine⟨by have:=(zP.1 h).1;omega,?_⟩;rw[yQ,h,xU,EK];have V:=h.2;rw[yQ,u r h.1,xU] at V;exact (u r h.1).trans (congrArg some (FF V).symm)
 rw[e] at G;exact G
def Bc{K:Int->WP}(hx:ef S w x n)(hk:eE S' w ks key)(hB:eB key)(hr:fE n.J6)(hl:n.J6.length<=1000000)(kk:∀w',Fr [] w w'->K (dZ n.J6 key) w'): cW 91 [.agg (eF x),ks.v] df w K:=by
 obtain⟨h0,ab,⟨pk,I,C⟩,_⟩:=hx;refine qsF<|oB (oE [] w) fun r1 w1 e1 f1 h=>oB h fun r3 w2 e2 f2 h=>oA h 1 rfl x.2.1 rfl ?_;have R:x.2.1.len=pk.length:=I.len;have ao:n.J6.length=pk.length:=(by rw[<- C,zK]);have E:∀(i:Nat) (u:i<pk.length),n.J6[i]?=some pk[i].2:=fun i u=>by rw[<- C,zQ,zA u];rfl
 rw[R];refine qvq (p:=fun i=>decide (cmpL key (n.J6.getD i [])<0)) oJ (fun w3 i K' f3 u ac=>?_) (fun i j aq hj U=>?_) fun r w' au ad ae f'=>?_;refine sA (lb:=[dB r3,dB r1]) rfl oK ?_;have J:=h.q7 f3;refine qop ?_;have J:=J.drew;refine oA J 0 rfl ks rfl<|oA J 1 rfl x.2.1 rfl<|i9.get (I.q7 J.fr) i rfl u<|A3 (hk.q7 J.fr) ((I.q7 J.fr).2 pk[i] (zW u)) hB (ab.1 _ (yE (E i u))) ?_;have e:n.J6.getD i []=pk[i].2:=(by rw[yQ,E i u];rfl);have e2:decide (cmpL key (n.J6.getD i [])<0)=decide (cmpL key pk[i].2<0):=decide_eq_decide.2 (by rw[e]);rw[<- e2];exact ac w3.drew f3.drew;by_cases hij':i=j;rw[<- hij'];exact U;have u:=E i oJ;have V:=E j hj;have U:=zC U;rw[yQ,u,xU] at U;refine zZ ?_;rw[yQ,V,xU];exact om U (Dv hr oJ u V);have hp:dZ n.J6 key=r:=qyN oJ (fun i a u ha=>by
  have:=zB (ad i u)
  rw[yQ,ha,xU] at this;exact this) fun a ha=>by
  have ax:=(zP.1 ha).1
  have:=zC (ae r (zM _) oJ)
  rw[yQ,ha,xU] at this;exact this
 have G:=kk w' (h.fr.trans f');rw[hp] at G;exact G
end
section
def BW{p:Prop}{i:Decidable p}(h:p):true=decide p:=by simp[h]
def qG{i:Nat}(h:i<=100000000):wrap .i64 ((i:Int)+1)=((i+1:Nat):Int):=by rw[gc _ oJ];rfl
section
variable {S:List Nat} {w:World} {s:Sl}
def qqq{v:Value}{p:Key->Bool}{K:Bool->WP}(U:i9 S w s ps)(hl:ps.length<=1000000)(hf:∀w1 (x:Sl×Key) (V:Bool->WP),Fr [] w w1->x∈ps->(∀w2,Fr [] w w2->V (p x.2) w2)->dV prog v [x.1.v] dg w1 V)(kk:∀w',Fr [] w w'->K ((fV ps).any p) w'): cW 233 [s.v,v] dg w K:=by
 refine qf8<|qiH ?_;have ab:=U.len;refine iV (fun i w'=>∃n:Nat,i=(n:Int)/\n<=ps.length/\((fV ps).take n).any p=false/\Fr [] w w') (fun i _=>((ps.length:Int)-i).toNat) ⟨0,rfl,yW _,rfl,.refl _ _⟩ ?_;rintro _ w1 ⟨n,rfl,hn,C,u⟩ X hX;apply cD<;>intro I;have h:n<ps.length:=oJ;refine i9.get (U.q7 u) n rfl h<|hf w1 ps[n] _ u (zW h) fun w2 E=>?_;have G:(fV ps)[n]?=some ps[n].2:=(by rw[zQ,zA h];rfl);apply dR<;>intro J;have:(fV ps).any p=true:=any_eq_true.2 ⟨ps[n].2,yE G,J⟩;show K (decide (((n:Nat):Int)>=0)) w2;rw[zZ (show ((n:Nat):Int)>=0 by omega)];rw[<- this];exact kk w2 E;rw[qG oJ];refine hX _ _ ⟨n+1,rfl,h,?_,E⟩ oJ;rw[take_add_one,G,any_append,C];simpa using J;have R:n=ps.length:=oJ;show K (decide ((-1:Int)>=0)) w1;rw[zU (show ¬(-1:Int)>=0 by decide)];have:(fV ps).any p=false:=by rw[<- C,R,zS (by rw[zK];exact zM _)]
 rw[<- this];exact kk w1 u
def qqr{v:Value}{p:Int->Bool}{K:Bool->WP}(V:Rd S w s l)(hl:l.length<=1000000)(hf:∀w1 (x:Int) (K':Bool->WP),Fr [] w w1->x∈l->(∀w2,Fr [] w w2->K' (p x) w2)->dV prog v [.u x] dg w1 K')(kk:∀w',Fr [] w w'->K (l.any p) w'): cW 193 [s.v,v] dg w K:=by
 refine qf9<|qiI ?_;have ac:=V.1;refine iV (fun i w'=>∃n:Nat,i=(n:Int)/\n<=l.length/\(l.take n).any p=false/\Fr [] w w') (fun i _=>((l.length:Int)-i).toNat) ⟨0,rfl,yW _,rfl,.refl _ _⟩ ?_;rintro _ w1 ⟨n,rfl,hn,G,h⟩ X hX;apply cD<;>intro J;have C:n<l.length:=oJ;have E:l[n]?=some l[n]:=zA C;refine dW.get (V.q7 h) n rfl E (y:=l[n]) rfl<|hf w1 l[n] _ h (zW C) fun w2 I=>?_;apply dR<;>intro R;have:l.any p=true:=any_eq_true.2 ⟨l[n],yE E,R⟩;show K (decide (((n:Nat):Int)>=0)) w2;rw[zZ (show ((n:Nat):Int)>=0 by omega)];rw[<- this];exact kk w2 I;rw[qG oJ];refine hX _ _ ⟨n+1,rfl,C,?_,I⟩ oJ;rw[take_add_one,E,any_append,G];simpa using R;have U:n=l.length:=oJ;show K (decide ((-1:Int)>=0)) w1;rw[zU (show ¬(-1:Int)>=0 by decide)];have:l.any p=false:=by rw[<- G,U,zS (zM _)]
 rw[<- this];exact kk w1 h
def qrq{m:Nat}{K:Bool->WP}(R:i9 S w s ps)(U:ps.length<=1000000)(V:∀w',Fr [] w w'->K (decide (∀a∈fV ps,a.length=m)) w'): cW 191 [s.v,.i m] dg w K:=by
 refine qrv<|oB (oE [] w) fun r1 w1 e1 I h=>?_;have u:=R.q7 I;refine qqq (p:=fun a=>decide (a.length≠m)) u U (fun w2 x K' J hx C=>?_) fun w' f'=>?_;refine sA (lb:=[dB r1]) rfl oK<|qnu<|oA (h.q7 J) 0 rfl (m:Int) rfl ?_;have E:=(u.2 x hx).1;have e:(!((x.1.len:Int)==(m:Int)))=decide (x.2.length≠m):=by rw[E,Bool.eq_iff_iff];simp;omega
 rw[e];exact C w2 J;have e:(!((fV ps).any fun a=>decide (a.length≠m)))=decide (∀a∈fV ps,a.length=m):=by
  rw[Bool.eq_iff_iff,yM,zT,any_eq_false];constructor;intro h a G
  have:=h a G
  simpa using this;intro h a G;simp[h a G]
 rw[e];exact V w' (I.trans f')
def qwj{K:Bool->WP}(hs:i9 S w s ps)(hB:∀a∈fV ps,eB a)(hl:ps.length<=1000000)(kk:∀w',Fr [] w w'->K (decide (fE (fV ps))) w'): cW 192 [s.v] dg w K:=by
 refine qqa ?_;have ae:=hs.len;have C:∀(i:Nat) (hi:i<ps.length),(fV ps)[i]?=some ps[i].2:=fun i hi=>by rw[zQ,zA hi];rfl
 refine iV (fun i w'=>∃n:Nat,i=(n:Int)/\1<=n/\(∀(j:Nat) a b,j+1<n->(fV ps)[j]?=some a->(fV ps)[j+1]?=some b->fD a b)/\Fr [] w w') (fun i _=>((ps.length:Int)-i).toNat) ⟨1,rfl,zM _,fun j a b h=>oJ,.refl _ _⟩ ?_;rintro _ w1 ⟨n,rfl,hn,J,E⟩ X hX;apply cD<;>intro hc;have G:n<ps.length:=oJ;have e1:wrap .i64 ((n:Int)-1)=((n-1:Nat):Int):=(by rw[gc _ oJ];omega);have I:=hs.q7 E.drew;rw[e1];refine i9.get I (n-1) rfl oJ<|i9.get I n rfl G<|A3 (I.2 ps[n-1] (zW _)) (I.2 ps[n] (zW _)) (hB _ (yE (C (n-1) oJ))) (hB _ (yE (C n G))) ?_;apply dR<;>intro R;have R:=zC R;have:¬fE (fV ps):=fun hr=>by
  have:=Dv hr (show n-1<n by omega) (C (n-1) oJ) (C n G)
  unfold fD at this;omega
 have u:=kk _ E.drew;rw[zU this] at u;exact u;have R:=zB R;rw[qG oJ];refine hX _ _ ⟨n+1,rfl,oJ,fun j a b hj V U=>?_,E.drew⟩ oJ;by_cases hjn:j+1<n;exact J j a b hjn V U;obtain rfl:n=j+1:=by omega
 rw[C j oJ] at V;rw[C (j+1) G] at U;cases V;cases U;show cmpL _ _<0;simp only[Nat.add_sub_cancel] at R;omega;have ai:¬n<ps.length:=oJ;have:fE (fV ps):=qke fun j a b V U=>J j a b (by
  have:=(zP.1 U).1
  rw[zK] at this;omega) V U
 have u:=kk w1 E;rw[zZ this] at u;exact u
def qxg:sI (k:Int) (v:Int)=(((dQ k v).1:Int),((dQ k v).2:Int)):=by unfold sI dQ;by_cases h:k<1\/k>24\/v>108;rw[if_pos h,iP];rfl;rw[if_neg h,iN];rfl
def FI{w:World}{K:Int×Int->WP}(h:∀w',Fr [] w w'->K (((dQ k v).1:Int),((dQ k v).2:Int)) w'):cW 122 [.i k,.i v] di w K:=
 qye fun w' u=>by rw[qxg];exact h w' (.of_same u)
def qqC{K:Bool->WP}(hx:ef S w x n)(h1:n.J6.length<=1000000)(h2:n.Q0.length<=1000000)(h3:n.J9.length<=1000000)(kk:∀w',Fr [] w w'->K (decide (fx n k v)) w'): cW 160 [.agg (eF x),.i k,.i v] dg w K:=by
 obtain⟨h0,al,⟨pk,ad,C⟩,⟨pv,af,U⟩,ab⟩:=hx;refine qp7<|oB (oE [] w) fun r1 w1 e1 f1 h=>FI fun w2 f2=>?_;have h:=h.q7 f2;have l1:pk.length=n.J6.length:=(by rw[<- C,zK]);have l2:pv.length=n.Q0.length:=(by rw[<- U,zK]);have n1:x.2.1.len=n.J6.length:=(by rw[ad.len,l1]);have n2:x.2.2.1.len=n.Q0.length:=(by rw[af.len,l2]);have n3:x.2.2.2.len=n.J9.length:=ab.1;refine gQ (fun b w'=>b=decide (¬((∀a∈n.J6,a.length=k)/\(∀a∈n.Q0,a.length=v)/\fE n.J6))/\dM [] w w' [(r1,.cells (eF x) 174)]) ?_ ?_;refine oA h 0 rfl x.2.1 rfl<|qrq (m:=k) (ad.q7 h.fr) oJ fun w3 f3=>?_;have h:=h.q7 f3;rw[C];refine dR (fun G=>⟨?_,h⟩) (fun G=>?_);have:¬ ∀a∈n.J6,a.length=k:=zB (oP G);exact BW fun J=>this J.1;have q1:∀a∈n.J6,a.length=k:=zC (oP G);refine oA h 0 rfl x.2.2.1 rfl<|qrq (m:=v) (af.q7 h.fr) oJ fun w4 f4=>?_;have h:=h.q7 f4;rw[U];refine dR (fun G=>⟨?_,h⟩) (fun G=>?_);have:¬ ∀a∈n.Q0,a.length=v:=zB (oP G);exact BW fun J=>this J.2.1;have q2:∀a∈n.Q0,a.length=v:=zC (oP G);refine oA h 0 rfl x.2.1 rfl<|qwj (ad.q7 h.fr) (by rw[C];exact al.1) oJ fun w5 f5=>?_;have h:=h.q7 f5;rw[C];refine⟨?_,h⟩;rw[Bool.eq_iff_iff,zT,decide_eq_false_iff_not,yM];exact⟨fun J g=>J g.2.2,fun J g=>J ⟨q1,q2,g⟩⟩;rintro b w3 ⟨rfl,h⟩;have no:∀ {w'},¬fx n k v->Fr [] w w'->K false w':=fun hn f=>by
  have:=kk _ f
  rw[zU hn] at this;exact this
 refine dR (fun G=>no (fun E=>zC G ⟨E.1,E.2.1,E.2.2.1⟩) h.fr) (fun G=>?_);have hq:=Classical.not_not.1 (zB G);have u:fx n k v↔(if n.Q4 then n.J9=[]/\1<=n.J6.length/\n.J6.length<=(dQ k v).1/\n.Q0.length=n.J6.length
   else (∀x∈n.J9,2<=x)/\n.Q0=[]/\2<=n.J9.length/\n.J9.length<=(dQ k v).2/\n.J6.length+1=n.J9.length):=⟨fun E=>E.2.2.2,fun J=>⟨hq.1,hq.2.1,hq.2.2,J⟩⟩
 refine oA h 0 rfl x.1 rfl ?_;apply dR<;>intro G;rw[h0] at G;rw[if_pos G] at u;have ae:∀ {Q:Sl->Prop},Q x.2.1->ld .slice (dd r1 1) w3 Q:=fun q=>oA h 0 rfl x.2.1 rfl q;refine oA h 0 rfl x.2.2.2 rfl<|dR (fun R=>?_) (fun R=>no (fun E=>?_) h.fr);refine ae (dR (fun V=>?_) (fun V=>no (fun E=>?_) h.fr));refine ae (dR (fun I=>?_) (fun I=>no (fun E=>?_) h.fr));refine oA h 0 rfl x.2.2.1 rfl (ae ?_);have R:=yO.1 R;have V:=zC V;have I:=zC I;have e:((x.2.2.1.len:Int)==(x.2.1.len:Int))=decide (fx n k v):=by rw[Bool.eq_iff_iff,yO,yM,u];dsimp only at I;constructor;intro J;exact⟨eq_nil_of_length_eq_zero oJ,oJ,oJ,oJ⟩;intro J;omega
 rw[e];exact kk w3 h.fr
 have:=(u.1 E).2.2.1
 have I:=zB I;dsimp only at I;omega
 have:=(u.1 E).2.1
 have V:=zB V;omega
 have:=(u.1 E).1
 have R:=zR.1 R;rw[this] at n3;exact R (by rw[n3];rfl);rw[h0] at G;rw[if_neg (by rw[G];decide)] at u;have aa:∀ {w'} {Q:Sl->Prop},dM [] w w' [(r1,.cells (eF x) 174)]->Q x.2.2.2->ld .slice (dd r1 3) w' Q:=fun h q=>oA h 0 rfl x.2.2.2 rfl q;refine aa h<|qqr (p:=fun y=>decide (y<2)) (ab.q7 h.fr) h3 (fun w4 y K' f4 hy ap=>?_) fun w4 f4=>?_;exact sA (lb:=[]) rfl oK<|qml<|ap w4 f4;have h:=h.q7 f4;refine dR (fun c0=>no (fun E=>?_) h.fr) (fun c0=>?_);obtain⟨y,hy,ar⟩:=any_eq_true.1 c0
 have:=(u.1 E).1 y hy
 have:=zC ar
 omega;have ah:∀y∈n.J9,2<=y:=fun y hy=>by
  have:=any_eq_false.1 c0 y hy
  simp at this;exact this
 refine oA h 0 rfl x.2.2.1 rfl<|dR (fun R=>?_) (fun R=>no (fun E=>?_) h.fr);refine aa h (dR (fun V=>?_) (fun V=>no (fun E=>?_) h.fr));refine aa h (dR (fun I=>?_) (fun I=>no (fun E=>?_) h.fr));refine oA h 0 rfl x.2.1 rfl (aa h ?_);have R:=yO.1 R;have V:=zC V;have I:=zC I;dsimp only at I;have ew:wrap .i64 ((x.2.2.2.len:Int)-1)=(x.2.2.2.len:Int)-1:=gc _ oJ;have e:((x.2.1.len:Int)==wrap .i64 ((x.2.2.2.len:Int)-1))=decide (fx n k v):=by rw[ew,Bool.eq_iff_iff,yO,yM,u];constructor;intro J;exact⟨ah,eq_nil_of_length_eq_zero oJ,oJ,oJ,oJ⟩;intro J;omega
 rw[e];exact kk _ h.fr
 have:=(u.1 E).2.2.2.1
 have I:=zB I;dsimp only at I;omega
 have:=(u.1 E).2.2.1
 have V:=zB V;omega
 have:=(u.1 E).2.1
 have R:=zR.1 R;rw[this] at n2;exact R (by rw[n2];rfl)
end
end
section
def wC{src:Sl}{ys:List Int}(h:fO w s l B)(J:eE S w src ys)(hl:l.length+ys.length<=1000000)(R:∀E B' w',fO w' E (l++ys) B'->Fr B w w'->(∀b∈B',b∈B\/w.heap.size<=b)->K E w'): Pt.run de ((Builtin.append_ #[101,101] 101 #[s.v,src.v]).run prog w) K:=by obtain⟨i,U,V,G,I⟩:=uL;have C:=J.1;exact eO.j1 (e:=5) h k8 oK U V G rfl (uv (e':=5) J k8 (fun x u hu=>by rw[zE.1 hu];rfl) oK) C (by rw[I];omega) oJ fun E B' w' b' f' n' _=>R E B' w' b' f' n'
def qzq(n:Int):be n 2=[wrap .u8 (Int.fdiv n (2^8)),wrap .u8 n]:=by show [gl n 1,gl n 0]=_;unfold gl;rw[show (min (8*1) 32:Nat)=8 from rfl,show (min (8*0) 32:Nat)=0 from rfl,Int.pow_zero,Int.fdiv_one]
def qAa(n:Int):be n 4=[wrap .u8 (Int.fdiv n (2^24)),wrap .u8 (Int.fdiv n (2^16)),wrap .u8 (Int.fdiv n (2^8)),wrap .u8 n]:=by show [gl n 3,gl n 2,gl n 1,gl n 0]=_;unfold gl;rw[show (min (8*3) 32:Nat)=24 from rfl,show (min (8*2) 32:Nat)=16 from rfl,show (min (8*1) 32:Nat)=8 from rfl,show (min (8*0) 32:Nat)=0 from rfl,Int.pow_zero,Int.fdiv_one]
def i9.get'(h:i9 S w s ps)(n:Nat){i:Int}{K:Addr->Sl->Prop}(hi:i=n)(J:n<ps.length)(R:∀a,w.cell? a=some (.slice ps[n].1.a ps[n].1.len ps[n].1.cap)->(∀w',i9 S w' s ps->w'.cell? a=some (.slice ps[n].1.a ps[n].1.len ps[n].1.cap))->K a ps[n].1):idx s i 1 fun a=>ld .slice a w fun x=>K a x:=by
 subst hi;have G:(ij ps)[n]?=some ps[n].1:=(by rw[zQ,zA J];rfl);obtain⟨hl,b,o,I,_,cs,T,fr,hb,hc⟩:=h.1.at n G;refine pY I ⟨oJ,oJ⟩ ?_;rw[zJ];have key:∀w',i9 S w' s ps->w'.cell? ⟨b,o+n*1,none⟩=some (.slice ps[n].1.a ps[n].1.len ps[n].1.cap):=fun w' U=>by
  obtain⟨_,b',o',u,_,V,T',aa,C,E⟩:=U.1.at n G;rw[I] at u;cases u;rw[je C]
  have:=congrArg (·[0]?) E
  simpa[gg] using this
 exact oV ps[n].1 (key w h) (R _ (key w h) key)
def DV{b n:Nat}(u:w.heap[b]?=some (.cells (l.map (Value.int .u8)).toArray T (0,0)))(h:n=l.length):fO w ⟨pW b,n,n⟩ l [b]:=
 eO.one (e:=Value.int .u8) (fun _=>rfl) u h (zM _) (by simp[h]) (by rw[<- zK (f:=Value.int .u8),xY])
def qyU{b:Nat}{n:Int}(u:w.heap[b]?=some (.cells #[.b (wrap .u8 (Int.fdiv n (2^24))),.b (wrap .u8 (Int.fdiv n (2^16))),.b (wrap .u8 (Int.fdiv n (2^8))),.b (wrap .u8 n)] T (0,0))):eE [] w ⟨pW b,4,4⟩ (be n 4):=by rw[qAa];exact eO.jq k8 (DV (n:=4) u rfl) fun _ _ h=>nomatch h
section
variable {S:List Nat} {w:World} {s:Sl}
def qyk{n:Nat}(hn:n<=1000000)(U:∀u B w',fO w' u [] B->Fr [] w w'->(∀b∈B,w.heap.size<=b)->K u w'): cW 121 [.slice none 0 0,.i n] de w K:=by obtain⟨E,V,hz,G,I⟩:=uL;refine qoC (s:=dC) (n:=n) ?_;have e0:wrap .i64 (((0:Nat):Int)-((0:Nat):Int))=0:=gc _ oM;have e1:wrap .i64 ((n:Int)-0)=(n:Int):=(by rw[gc _ oJ];omega);refine gQ (fun _ w'=>w=w') (cond_false (zU oJ) rfl) ?_;rintro _ _ rfl;refine gQ (fun u w'=>∃B,fO w' u [] B/\Fr [] w w'/\∀b∈B,w.heap.size<=b) ?_ (fun u w' ⟨B,b1,f1,n1⟩=>U u B w' b1 f1 n1);dsimp only;rw[e0,e1];refine dR (fun R=>?_) (fun R=>⟨[],.nil _ _ _,.refl _ _,fun _ h=>nomatch h⟩);have C:0<n:=(by have:=zC R;omega);refine wD ⟨oJ,by dsimp only;omega⟩ ?_;rw[zJ];dsimp only;refine Gt (e:=5) (i:=E) (kn:=.i64) (olds:=[]) oK oK V hz G rfl rfl (fun _=>rfl) (fun a ha=>nomatch ha) C oJ (by rw[I];omega) oJ fun b cs c w2 e2 hb f2 h1 h2 h3=>wD ⟨oJ,by dsimp only;omega⟩ ?_;rw[zJ];exact⟨[b],eO.fresh (cap:=c) k8 hb rfl (yW _) oJ rfl,f2,fun b' J=>by rw[zE.1 J,e2];exact zM _⟩
def qjL{i:Nat}(hi:i<ps.length):((fV ps).take (i+1)).flatten=((fV ps).take i).flatten++ps[i].2:=by rw[take_add_one,zQ,zA hi,flatten_append];simp
def Ej(i:Nat):((fV ps).take i).flatten.length<=(fV ps).flatten.length:=by have:(fV ps).flatten=((fV ps).take i).flatten++((fV ps).drop i).flatten:=(by rw[<- flatten_append,xD]);rw[this,zF];omega
def qoO(R:i9 S w s ps)(hl:ps.length<=1000000)(ht:(fV ps).flatten.length<=1000000)(kk:∀s' B w',fO w' s' (fV ps).flatten B->Fr [] w w'->(∀b∈B,w.heap.size<=b)->K s' w'): cW 88 [s.v] de w K:=by
 refine qmB ?_;have ag:=R.len;refine iV (fun t w'=>∃i:Nat,t=((((fV ps).take i).flatten.length:Int),(i:Int))/\i<=ps.length/\w'=w) (fun t _=>((ps.length:Int)-t.2).toNat) ⟨0,rfl,yW _,rfl⟩ ?_;rintro t w' ⟨i,rfl,hi,rfl⟩ X hX;dsimp only;apply cD<;>intro E;have u:i<ps.length:=oJ;have G:=Ej (ps:=ps) (i+1);have C:=qjL u;have ac:=(R.2 ps[i] (zW u)).1;have e:wrap .i64 ((((fV ps).take i).flatten.length:Int)+(ps[i].1.len:Int))=(((fV ps).take (i+1)).flatten.length:Int):=by rw[C,zF] at G⊢;rw[gc _ oJ,ac];rfl
 refine gQ (fun x w2=>x=(((fV ps).take (i+1)).flatten.length:Int)/\w2=w') ?_ ?_;refine i9.get R i rfl u ?_;rw[e];exact cond_false (zU oJ) ⟨rfl,rfl⟩;rintro x w2 ⟨rfl,rfl⟩;rw[qG oJ];exact hX _ _ ⟨i+1,rfl,u,rfl⟩ oN;have I:i=ps.length:=oJ;refine qyk (zL (Ej (ps:=ps) i) ht) fun s1 B1 w1 b1 f1 n1=>iV (fun t w2=>∃(j:Nat) (U:Sl) (V:List Nat),t=(U,(j:Int))/\j<=ps.length/\fO w2 U ((fV ps).take j).flatten V/\Fr [] w' w2/\∀b∈V,w'.heap.size<=b) (fun t _=>((ps.length:Int)-t.2).toNat) ⟨0,s1,B1,rfl,yW _,b1,f1,n1⟩ ?_;rintro t w2 ⟨j,U,V,rfl,hj,b2,f2,n2⟩ X hX;dsimp only;apply cD<;>intro E;have u:j<ps.length:=oJ;have G:=Ej (ps:=ps) (j+1);have C:=qjL u;have J:=R.q7 f2;refine i9.get J j rfl u<|wC b2 (J.2 ps[j] (zW u)) (by rw[C,zF] at G;omega) fun s3 B3 w3 b3 f3 n3=>?_;rw[qG oJ];refine hX _ _ ⟨j+1,s3,B3,rfl,u,by rw[C];exact b3,f2.j8 f3 fun i hi=>.inr (n2 i hi),fun b hb=>?_⟩ oN;rcases n3 b hb with h|h;exact n2 b h;exact zL f2.size h;have I:j=ps.length:=oJ;rw[I,zS (by rw[zK];exact zM _)] at b2;exact kk U V w2 b2 f2 n2
def qw7{K:Int×Sl×Int->WP}(hx:ef S w x n)(h1:n.J6.length<=1000000)(h2:n.Q0.length<=1000000)(h3:n.J9.length<=1000000)(kk:∀s w',(∀G:List Nat,(∀b∈G,b<w.heap.size)->eE G w' s (eH n k v).2.1)->Fr [] w w'->K ((eH n k v).1,s,(eH n k v).2.2) w'): cW 162 [.agg (eF x),.i k,.i v] dj w K:=by
 have aY:=hx;obtain⟨h0,bh,⟨pk,aq,E⟩,⟨pv,ar,aa⟩,an⟩:=hx;refine qp8<|oB (oE [] w) fun R w1 e1 f1 h=>oC h 0 rfl x rfl<|qqC (x:=x) (aY.q7 f1) h1 h2 h3 fun w2 f2=>?_;have h:=h.q7 f2;apply dR<;>intro C;have hn:¬fx n k v:=zB (oP C)
 have:=kk dC w2 (fun G _=>by unfold eH;rw[if_neg hn];exact .nil _ _ _ _) h.fr
 unfold eH at this;rw[if_neg hn] at this;exact this;have hR:fx n k v:=zC (oP C);have hW:eH n k v=(iv n,fZ n,0):=(by unfold eH;rw[if_pos hR]);rw[hW] at kk;have aG:=(Co hR).2;have l1:pk.length=n.J6.length:=(by rw[<- E,zK]);have l2:pv.length=n.Q0.length:=(by rw[<- aa,zK]);have n1:x.2.1.len=n.J6.length:=(by rw[aq.len,l1]);have n3:x.2.2.2.len=n.J9.length:=an.1;have aH:∀ {s' B w'},fO w' s' (fZ n) B->(∀b∈B,w.heap.size<=b)->Fr [] w w'->K (iv n,s',0) w':=fun b hB f=>kk _ _ (fun G hG=>b.jq k8 fun c C hm=>by have:=hB c C;have:=hG c hm;omega) f;refine oA h 0 rfl x.1 rfl ?_;apply dR<;>intro C;rw[h0] at C;have u:fZ n=be n.J6.length 2++(n.J6.zip n.Q0).flatMap (fun x=>x.1++x.2):=(by unfold fZ;rw[if_pos C];rfl);have J:iv n=3:=(by unfold iv;rw[if_pos C]);have aI:=hR.2.2.2;rw[if_pos C] at aI;have aJ:(n.J6.zip n.Q0).length=n.J6.length:=(by rw[length_zip,aI.2.2.2,Nat.min_self]);refine oA h 0 rfl x.2.1 rfl<|oA h 0 rfl x.2.1 rfl<|oB h fun r9 w3 e3 f3 h=>oA h 1 rfl x.2.1 rfl ?_;have h9:=h.at (i:=0) rfl;have av:=h.sub (L':=[(R,.cells (eF x) 174)]) (sublist_cons_self _ _);have aw:R≠r9:=fun e=>by have:=h.nodup;simp[e] at this
 have ab:w.heap.size<=r9:=(h.own (r9,_) (mem_cons_self ..)).elim (fun h=>nomatch h) id;refine iV (fun t w'=>∃(i:Nat) (s2:Sl) (B2:List Nat),t=(s2,(i:Int))/\i<=n.J6.length/\fO w' s2 (be n.J6.length 2++((n.J6.zip n.Q0).take i).flatMap (fun x=>x.1++x.2)) B2/\dM [] w w' [(R,.cells (eF x) 174)]/\R∉B2/\∀b∈B2,w.heap.size<=b) (fun t _=>((n.J6.length:Int)-t.2).toNat)
  ⟨0,_,[r9],rfl,yW _,?_,av,by simpa using aw,fun b hb=>by rw[zE.1 hb];exact ab⟩ ?_
 rw[qzq,take_zero,flatMap_nil,xG];refine DV (T:=5) ?_ rfl;rw[n1] at h9;exact h9;rintro t w4 ⟨i,s2,B2,rfl,hi,b2,ho,ae,I⟩ X hX;dsimp only;apply dR<;>intro C;have ak:i<n.J6.length:=(by have:=zC C;omega);have bv:i<n.Q0.length:=oJ;have aL:=aq.q7 ho.fr;refine i9.get aL i rfl oJ ?_;have af:=ho.drew;refine oA af 0 rfl x.2.2.1 rfl ?_;have a1:=ar.q7 af.fr;have ag:i<pv.length:=oJ;have ao:i<pk.length:=oJ;refine i9.get' a1 i rfl ag fun a ha hh=>?_;have al:n.J6[i]?=some pk[i].2:=(by rw[<- E,zQ,zA ao];rfl);have a2:n.Q0[i]?=some pv[i].2:=(by rw[<- aa,zQ,zA ag];rfl);have hz:(n.J6.zip n.Q0)[i]?=some (pk[i].2,pv[i].2):=List.getElem?_zip_eq_some.2 ⟨al,a2⟩;have U:((n.J6.zip n.Q0).take (i+1)).flatMap (fun x=>x.1++x.2)=((n.J6.zip n.Q0).take i).flatMap (fun x=>x.1++x.2)++(pk[i].2++pv[i].2):=by rw[take_add_one,hz,yP];simp
 have am:(be n.J6.length 2++((n.J6.zip n.Q0).take (i+1)).flatMap (fun x=>x.1++x.2)).length<=500:=(by refine zL ?_ aG;rw[u,zF,zF];have e:(n.J6.zip n.Q0).flatMap (fun x=>x.1++x.2)=((n.J6.zip n.Q0).take (i+1)).flatMap (fun x=>x.1++x.2)++((n.J6.zip n.Q0).drop (i+1)).flatMap (fun x=>x.1++x.2):=(by rw[<- yP,xD]);rw[e,zF];omega);rw[U,zF,zF,zF] at am;have bA:=ho.drew;refine wC (w:=w4.drew) (b2.q7 (Fr.refl [] w4).drew) ((aL.2 pk[i] (zW ao)).q7 (Fr.refl [] w4).drew) (by rw[zF];omega) fun s3 B3 w5 b3 f5 n5=>?_;have V:=af.q8 f5 (fun i hi=>.inr (I i hi)) (fun p hp=>by rw[zE.1 hp];exact ae);have aN:∀b∈B3,w.heap.size<=b:=fun b hb=>by rcases n5 b hb with h|h;exact I b h;exact zL af.fr.size h
 refine jX (hh w5 (ar.q7 V.fr)) (V.cell 0 rfl rfl) ?_;have aO:R∉B3:=fun hm=>by
  rcases n5 R hm with h|h;exact ae h
  have:=eT (af.at (i:=0) rfl);dsimp only at this;omega
 refine wC b3 ((ar.q7 V.fr).2 pv[i] (zW ag)) (by rw[zF,zF];omega) fun s6 B6 w6 b6 f6 n6=>?_;have aB:=V.q8 f6 (fun i hi=>.inr (aN i hi)) (fun p hp=>by rw[zE.1 hp];exact aO);rw[qG oJ];refine hX _ _ ⟨i+1,s6,B6,rfl,ak,by rw[U,<- zV,<- zV];exact b6,aB,fun hm=>?_,fun b hb=>?_⟩ oN;rcases n6 R hm with h|h;exact aO h
 have:=eT (V.at (i:=0) rfl);dsimp only at this;omega
 rcases n6 b hb with h|h;exact aN b h;exact zL V.fr.size h;have aC:i=n.J6.length:=(by have:=zB C;omega);rw[aC,<- aJ,xY,aJ,<- u] at b2
 have:=aH b2 I ho.fr
 rw[J] at this;exact this;rw[h0] at C;have aQ:¬n.Q4=true:=(by rw[C];decide);have u:fZ n=be n.J9.length 2++n.J9.flatMap (fun x=>be x 4)++n.J6.flatten:=(by unfold fZ;rw[if_neg aQ]);have J:iv n=4:=(by unfold iv;rw[if_neg aQ]);refine oA h 0 rfl x.2.2.2 rfl<|oA h 0 rfl x.2.2.2 rfl<|oB h fun r9 w3 e3 f3 h=>oA h 1 rfl x.2.2.2 rfl ?_;have h9:=h.at (i:=0) rfl;have av:=h.sub (L':=[(R,.cells (eF x) 174)]) (sublist_cons_self _ _);have aw:R≠r9:=fun e=>by have:=h.nodup;simp[e] at this
 have ab:w.heap.size<=r9:=(h.own (r9,_) (mem_cons_self ..)).elim (fun h=>nomatch h) id;have a4:(be n.J9.length 2++n.J9.flatMap (fun x=>be x 4)).length+n.J6.flatten.length<=500:=(by rw[<- zF,<- u];exact aG);refine iV (fun t w'=>∃(i:Nat) (s2:Sl) (B2:List Nat),t=(s2,(i:Int))/\i<=n.J9.length/\fO w' s2 (be n.J9.length 2++(n.J9.take i).flatMap (fun x=>be x 4)) B2/\dM [] w w' [(R,.cells (eF x) 174)]/\R∉B2/\∀b∈B2,w.heap.size<=b) (fun t _=>((n.J9.length:Int)-t.2).toNat)
  ⟨0,_,[r9],rfl,yW _,?_,av,by simpa using aw,fun b hb=>by rw[zE.1 hb];exact ab⟩ ?_
 rw[qzq,take_zero,flatMap_nil,xG];refine DV (T:=5) ?_ rfl;rw[n3] at h9;exact h9;rintro t w4 ⟨i,s2,B2,rfl,hi,b2,ho,ae,I⟩ X hX;dsimp only;apply cD<;>intro C;have ak:i<n.J9.length:=oJ;have al:n.J9[i]?=some n.J9[i]:=zA ak;refine dW.get (an.q7 ho.fr) i rfl al (y:=n.J9[i]) rfl<|oB ho fun r6 w5 e5 f5 h5=>?_;have a5:=h5.at (i:=0) rfl;have U:(n.J9.take (i+1)).flatMap (fun x=>be x 4)=(n.J9.take i).flatMap (fun x=>be x 4)++be n.J9[i] 4:=by rw[take_add_one,al,yP];simp
 have am:(be n.J9.length 2++(n.J9.take (i+1)).flatMap (fun x=>be x 4)).length<=500:=(by have e:n.J9.flatMap (fun x=>be x 4)=(n.J9.take (i+1)).flatMap (fun x=>be x 4)++(n.J9.drop (i+1)).flatMap (fun x=>be x 4):=(by rw[<- yP,xD]);rw[e,zF,zF] at a4;rw[zF];omega);rw[U,zF,zF] at am;have ap:eE [] w5 ⟨pW r6,4,4⟩ (be n.J9[i] 4):=qyU (T:=5) a5;have aD:=jQ n.J9[i] 4;generalize be n.J9[i] 4=aR at U am ap aD;refine wC (src:=⟨pW r6,4,4⟩) (ys:=aR) (b2.q7 f5) ap (by rw[zF];omega) fun s6 B6 w6 b6 f6 n6=>?_;have aE:=h5.sub (L':=[(R,.cells (eF x) 174)]) (sublist_cons_self _ _);have aB:=aE.q8 f6 (fun i hi=>.inr (I i hi)) (fun p hp=>by rw[zE.1 hp];exact ae);rw[qG oJ];refine hX _ _ ⟨i+1,s6,B6,rfl,ak,by rw[U,<- zV];exact b6,aB,fun hm=>?_,fun b hb=>?_⟩ oN;rcases n6 R hm with h|h;exact ae h
 have:=eT (aE.at (i:=0) rfl);dsimp only at this;omega
 rcases n6 b hb with h|h;exact I b h;exact zL aE.fr.size h;have aC:i=n.J9.length:=oJ;rw[aC,xY] at b2;refine oA ho 0 rfl x.2.1 rfl<|qoO (aq.q7 ho.fr) oJ (by rw[E];omega) fun s5 B5 w5 b5 f5 n5=>?_;rw[E] at b5;refine wC (b2.q7 f5) (b5.jq k8 (S:=[]) (fun _ _ h=>nomatch h)) oJ fun s6 B6 w6 b6 f6 n6=>?_;rw[<- u] at b6
 have:=aH b6 (fun b hb=>by rcases n6 b hb with h|h;exact I b h;exact zL (zL ho.fr.size f5.size) h) ((ho.fr.trans f5).j8 f6 fun i hi=>.inr (I i hi))
 rw[J] at this;exact this
end
end
abbrev ND:TypeId:=174
def Cz{k v:Nat}:∀(c:Nat) (b:List Int),(iC k v c b).1.length=c/\(iC k v c b).2.length=c
 | 0,_=>⟨rfl,rfl⟩
 | c+1,b=>by
  have:=Cz (k:=k) (v:=v) c (b.drop (k+v))
  exact⟨by rw[iC,yH,this.1],by rw[iC,yH,this.2]⟩
def qnl{k v:Nat}:∀(c:Nat) (b:List Int),iC k v (c+1) b=((iC k v c b).1++[(b.drop (c*(k+v))).take k],(iC k v c b).2++[((b.drop (c*(k+v))).drop k).take v])
 | 0,b=>by simp[iC]
 | c+1,b=>by have ih:=qnl (k:=k) (v:=v) c (b.drop (k+v));have e:(k+v)+c*(k+v)=(c+1)*(k+v):=(by rw[xT];omega);rw[iC,ih];simp only[xC,e];rfl
def qnk:∀(c:Nat) (b:List Int),y6 (c+1) b=y6 c b++[gR ((b.drop (c*4)).take 4)]
 | 0,b=>by simp[y6]
 | c+1,b=>by have ih:=qnk c (b.drop 4);have e:4+c*4=(c+1)*4:=oJ;rw[y6,ih,xC,e];rfl
def qni{k:Nat}:∀(c:Nat) (b:List Int),kI k (c+1) b=kI k c b++[(b.drop (c*k)).take k]
 | 0,b=>by simp[kI]
 | c+1,b=>by have ih:=qni (k:=k) c (b.drop k);have e:k+c*k=(c+1)*k:=(by rw[xT];omega);rw[kI,ih,xC,e];rfl
def FS:∀(c:Nat) (b:List Int),(y6 c b).length=c
 | 0,_=>rfl
 | c+1,b=>by rw[y6,yH,FS c]
def Dq{k:Nat}:∀(c:Nat) (b:List Int),(kI k c b).length=c
 | 0,_=>rfl
 | c+1,b=>by rw[kI,yH,Dq c]
def oX{x:Sl}{l:List Sl}{vb:Nat}{T':TypeId}(h:eO gg 1 w s l B)(hl:l.length<=100000)(U:w.heap[vb]?=some (.cells #[fN x] T' (0,0)))(V:∀C B' w',eO gg 1 w' C (l++[x]) B'->Fr B w w'->(∀b∈B',b∈B\/w.heap.size<=b)->K C w'): Pt.run de ((Builtin.append_ #[171,171] 171 #[s.v,.slice (pW vb) 1 1]).run prog w) K:=by obtain⟨aa,E,hz,G,I⟩:=BS;refine eO.j1 (ys:=[x]) (e:=101) h vh oK E hz G rfl (.ofSlice w (e':=101) oK _ 1 1 _ rfl (fun j u J=>?_) fun u R=>?_) rfl (by rw[I];omega) oJ fun C B' w' b' f' n' _=>V C B' w' b' f' n';rw[Addr.q9,je U,xR];rw[yG,flatMap_nil,xG] at J;simpa[gg] using J;rw[yG,flatMap_nil,xG] at R;rw[zE.1 R];rfl
def qs2{x:Int}{vb:Nat}{T':TypeId}(h:eO ik 1 w s l B)(hl:l.length<=100000)(U:w.heap[vb]?=some (.cells #[.u x] T' (0,0)))(V:∀C B' w',eO ik 1 w' C (l++[x]) B'->Fr B w w'->(∀b∈B',b∈B\/w.heap.size<=b)->K C w'): Pt.run de ((Builtin.append_ #[172,172] 172 #[s.v,.slice (pW vb) 1 1]).run prog w) K:=by obtain⟨aa,E,hz,G,I⟩:=uP;refine eO.j1 (ys:=[x]) (e:=63) h qy oK E hz G rfl (.ofSlice w (e':=63) oK _ 1 1 _ rfl (fun j u J=>?_) fun u R=>?_) rfl (by rw[I];omega) oJ fun C B' w' b' f' n' _=>V C B' w' b' f' n';rw[Addr.q9,je U,xR];rw[yG,flatMap_nil,xG] at J;simpa[ik] using J;rw[yG,flatMap_nil,xG] at R;rw[zE.1 R];rfl
abbrev qZ (h:Nat):Value:=.func (.func 232) #[] #[dB h]
def qr1{u i m:Nat}(h:dM [] w0 w L)(hi:L[i]?=some (u,.cells #[fN s] T (0,0)))(E:eE [] w0 s b)(C:m<=b.length)(hl:b.length<=1000000)(kk:∀J B' R w',dM [] w0 w' (L.set i (u,.cells #[fN R] T (0,0)))->fO w' J (b.take m) B'->(∀c∈B',w.heap.size<=c)->eE [] w0 R (b.drop m)->Fr [u] w w'->K J w'): dV prog (qZ u) [.i m] de w K:=by
 refine sA (lb:=[dB u]) rfl oK<|qmm<|oA h i hi s rfl<|dW.part (S:=[]) E (lo:=none) (hi:=some (m:Int)) 0 m rfl rfl (yW _) C fun s1 _ U _=>?_;rw[xE] at U;refine wZ (U.q7 h.fr) (by rw[yK];omega) fun s2 B2 w2 b2 V n2 _ _=>?_;have h2:=h.q7 V;refine oA h2 i hi s rfl<|dW.part (S:=[]) E (lo:=some (m:Int)) (hi:=none) m b.length rfl (by rw[xV,E.1]) C (zM _) fun s3 _ h3 _=>?_;rw[xY] at h3;have G:=eT (h.at hi);refine oG h2 i hi #[fN s3] rfl rfl (zM _) fun w3 I f3=>kk s2 B2 s3 w3 I (b2.q8 f3 fun c hc C=>?_) n2 h3 ((V.mono fun _ h _=>nomatch h).trans f3)
 have:=n2 c hc
 rw[zE.1 C] at this;dsimp only at G;omega
def uj (x:jP) (o:Nat):Sl:=if o=1 then x.2.1 else x.2.2.1
def vX (x:jP) (o:Nat) (s:Sl):jP:=if o=1 then (x.1,s,x.2.2) else (x.1,x.2.1,s,x.2.2.2)
def Gs{o:Nat}(h:o=1\/o=2):(eF x)[o]?=some (fN (uj x o)):=by rcases h with rfl|rfl<;>rfl
def qyX{o:Nat}(h:o=1\/o=2):dN (eF x) o [fN s]=eF (vX x o s):=by rcases h with rfl|rfl<;>rfl
def DQ{E I m o:Nat}{s':Sl}{l:List Sl}{Bk:List Nat}{K:WP}(ho:o=1\/o=2)(h:dM [] w0 w ((E,.cells (eF x) ND (0,0))::(I,.cells #[fN s'] T (0,0))::L))(hr:eE [] w0 s' b)(C:m<=b.length)(aI:b.length<=1000000)(ae:eO gg 1 w (uj x o) l Bk)(ab:∀c∈Bk,w0.heap.size<=c/\c∉E::I::L.map (·.1))(hl:l.length<=100000)(kk:∀sn sN R Bk' w',dM [] w0 w' ((E,.cells (eF (vX x o R)) ND (0,0))::(I,.cells #[fN sN] T (0,0))::L)->eE [] w0 sN (b.drop m)->eO gg 1 w' R (l++[sn]) Bk'-> (∀c∈Bk',c∈Bk\/w.heap.size<=c)->(∀c∈Bk',c∉E::I::L.map (·.1))->Fr (E::I::Bk) w w'->(∀G:List Nat,(∀c∈G,c<w.heap.size\/c∈Bk')->eE G w' sn (b.take m))->K w'): (ld Cell.slice (dd E o) w.drew<| fun (u:Sl)=> dV prog (qZ I) ([Value.int IntKind.i64 m]) (de) w.drew<| fun (U:Sl) (af:World)=> held [fun (au:Go.World)=>World.cell? au (dd E o)=some (Value.slice u.a u.len u.cap)] af<| new (.cells #[Value.slice U.a U.len U.cap] 101) af<| fun (av:Nat) (ag:World)=> held [fun (aw:Go.World)=>World.cell? aw (dd E o)=some (Value.slice u.a u.len u.cap)] ag<| run de ((Builtin.append_ (#[171,171]) 171 (#[Value.slice u.a u.len u.cap,Value.slice (pW av) 1 1])).run prog ag)<| fun (V:Sl) (ax:World)=> st (dd E o) ([Value.slice V.a V.len V.cap]) ax K):=by
 have hd:=h.drew;refine oA hd 0 rfl (uj x o) (Gs ho)<|qr1 hd (i:=1) rfl hr C aI fun aJ aK sN aj ac aL aM hN ak=>?_;have ac:dM [] w0 aj ((E,.cells (eF x) ND (0,0))::(I,.cells #[fN sN] T (0,0))::L):=ac;refine ia (ac.cell 0 rfl (Gs ho))<|oB ac fun aZ a0 a1 al am=>ia (am.cell 1 rfl (Gs ho)) ?_;have an:eO gg 1 w.drew (uj x o) l Bk:=ae;have ay:=an.q8 ak fun c J C=>(ab c J).2 (by rw[zE.1 C];simp);have az:=ay.q7 al;refine oX az hl (am.at (i:=0) rfl) fun R Bk' a2 aN ao aA=>?_;have aB:=am.sub (L':=(E,.cells (eF x) ND (0,0))::(I,.cells #[fN sN] T (0,0))::L) (sublist_cons_self _ _);have a3:w.heap.size<=aj.heap.size:=ak.size;have a4:=al.size;have a5:=ao.size;have aa:∀c∈E::I::L.map (·.1),c<w.heap.size:=fun c J=>by obtain⟨p,hp,rfl⟩:=mem_map.1 (show c∈((E,Obj.cells (eF x) ND (0,0))::(I,.cells #[fN s'] T (0,0))::L).map (·.1) from J);exact eT (h.eA p hp)
 have ap:∀p∈((E,Obj.cells (eF x) ND (0,0))::(I,.cells #[fN sN] T (0,0))::L),p.1∉Bk:=fun p hp C=>(ab p.1 C).2 (zY (f:=(·.1)) hp);have aP:=aB.q8 ao (fun i hi=>.inr (ab i hi).1) ap;have ah:∀c∈Bk',c∈Bk\/w.heap.size<=c:=fun c J=>(aA c J).elim .inl fun h=>.inr oJ;have aC:∀c∈Bk',c∉E::I::L.map (·.1):=fun c J C=>by
  rcases ah c J with h|h;exact (ab c h).2 C
  have:=aa c C;omega
 refine oG aP 0 rfl (eF (vX x o R)) (qyX ho) rfl (by rcases ho with rfl|rfl<;>exact zO rfl) fun aq aQ aD=>?_;have h5:∀c∈Bk',c∉[E]:=fun c J C=>aC c J (by rw[zE.1 C];simp);have aE:Fr (E::I::Bk) aj aq:=((al.mono fun _ h _=>nomatch h).trans (ao.mono fun i hi _=>by simp[hi])).trans (aD.mono fun i hi _=>by simp[zE.1 hi]);have aR:Fr (E::I::Bk) w aq:=((Fr.refl _ w).drew.trans (ak.mono fun i hi _=>by simp[zE.1 hi])).trans aE;refine kk aJ sN R Bk' aq aQ hN (aN.q8 aD h5) ah aC aR fun G hG=>?_;have aF:∀c∈aK,c∉E::I::Bk++G.filter fun c=>decide (c<w.heap.size):=fun c J C=>by
  have h1:w.heap.size<=c:=aM c J;rcases zD.1 C with C|C;rcases zG.1 C with rfl|C
  have:=aa c oL;omega
  rcases zG.1 C with rfl|C
  have:=aa c oL;omega
  have:=ae.lt c C;omega
  have:=(mem_filter.1 C).2
  simp at this;omega
 refine (aL.jq k8 aF).q8 (aE.mono fun i hi _=>zH _ hi) fun c J=>?_;rcases hG c J with h1|h1;exact .inl (zI _ (mem_filter.2 ⟨J,by simpa using h1⟩));rcases aA c h1 with h2|h2;exact .inl (zH _ (by simp[h2]));exact .inr oJ
section
def Bh{L':List (Nat×Obj)}(h:dM S w0 w L)(p:L.Perm L'):dM S w0 w L':=⟨fun x u=>h.eA x (p.mem_iff.2 u),(p.map _).nodup_iff.1 h.nodup,h.fr,fun x u=>h.own x (p.mem_iff.2 u)⟩
def xe{α:Type}{enc:α->List Value}{l:List α}(h:eO enc k w s l B):B.Nodup:=by rcases h with ⟨_,_,rfl⟩|⟨b,_,_,_,rfl,_⟩<;>simp
def tq (w:World) (ps:oS) (T:List Nat):Prop:=∀p∈ps,eE T w p.1 p.2
def tq.q8{w w':World}{ps:oS}{T T' S:List Nat}(h:tq w ps T)(f:Fr S w w')(u:∀b∈S,b∈T)(C:∀b∈T',b∈T\/w.heap.size<=b):tq w' ps T':=fun p E=>(h p E).q8 (f.mono fun i G _=>u i G) C
def tq.snoc{T:List Nat}{a:Key}(h:tq w ps T)(g:eE T w s a):tq w (ps++[(s,a)]) T:=fun p u=>by rcases zD.1 u with u|u;exact h p u;rw[zE.1 u];exact g
def qty{G:List Nat}{pk pv:oS}{Bk h u T:List Nat}(h0:x.1=n.Q4)(hN:NB n)(R:eO gg 1 w x.2.1 (ij pk) Bk)(e1:fV pk=n.J6)(U:eO gg 1 w x.2.2.1 (ij pv) h)(e2:fV pv=n.Q0)(V:eO ik 1 w x.2.2.2 n.J9 u)(d1:∀c∈Bk,c∉h/\c∉u)(d2:∀c∈h,c∉u)(g1:tq w pk T)(g2:tq w pv T)(hT:∀c∈G++(Bk++(h++u)),c∈T):eV (G++(Bk++(h++u))) w x n (Bk++(h++u)):=by refine⟨h0,hN,Bk,h,u,rfl,?_,⟨pk,R,e1,fun p I=>(g1 p I).j6 fun c J=>.inl (hT c J)⟩,⟨pv,U,e2,fun p I=>(g2 p I).j6 fun c J=>.inl (hT c J)⟩,V⟩;refine yL.2 ⟨xe R,yL.2 ⟨xe U,xe V,fun a E b C e=>d2 a E (e▸C)⟩,fun a E b C e=>?_⟩;rcases zD.1 C with C|C;exact (d1 a E).1 (e▸C);exact (d1 a E).2 (e▸C)
section
variable {w:World} {s:Sl} {b:List Int}
def qyP{count:Nat}{K:jP×Bool->WP}(hb:eE [] w s b)(hB:eB b)(hl:b.length<=1000)(hc:count<=100000)(hk:1<=k/\k<=1000)(hv:v<=1000)(kk:∀x B n w',(b.length=count*(k+v)->n=⟨true,(iC k v count b).1,(iC k v count b).2,[]⟩)->eV (List.range w.heap.size++B) w' x n B->Fr [] w w'->(∀c∈B,w.heap.size<=c)->K (x,decide (b.length=count*(k+v))) w'): cW 158 [s.v,.i count,.i k,.i v] [.agg dT,.one .bool] w K:=by
 refine qru<|oB (oE [] w) fun C w1 e1 f1 h=>?_;have a4:count*(k+v)<=100000*2000:=Nat.mul_le_mul hc oJ;have ew:wrap .i64 ((count:Int)*wrap .i64 ((k:Int)+(v:Int)))=((count*(k+v):Nat):Int):=by have e1:wrap .i64 ((k:Int)+(v:Int))=((k+v:Nat):Int):=(by rw[gc _ oJ];rfl);rw[e1,<- Int.natCast_mul,gc _ oJ]
 rw[ew];have aq:=hb.1;apply dR<;>intro ad;have ar:b.length≠count*(k+v):=fun e=>by rw[aq,e] at ad;simp at ad
 refine oD h 0 rfl (eF fl) fun w2 h f2=>oC h 0 rfl fl rfl ?_
 have:=kk fl [] ie w2 (fun e=>absurd e ar) (.zero _ _) h.fr (fun _ h=>nomatch h)
 rw[zU ar] at this;exact this;have aL:b.length=count*(k+v):=by
  have:((s.len:Int)==((count*(k+v):Nat):Int))=true:=by simpa using ad
  have:=yO.1 this
  omega
 have a':count<=1000:=(by have:count*1<=count*(k+v):=Nat.mul_le_mul_left _ oJ;omega);refine oB h fun E w2 e2 f2 h=>oD h 0 rfl (eF (true,dC,dC,dC)) fun w3 h f3=>qiY<|oB h fun G w4 e4 f4 h=>?_;have h:=Bh h (List.Perm.swap _ _ _);have ba:=h.nodup;have bb:=fun p hp=>(h.own p hp).elim (fun h=>(nomatch h:False).elim) (id:w.heap.size<=p.1->_);refine iV (fun i w'=>∃(c:Nat) (sk sv sn:Sl) (pk pv:oS) (Bk I:List Nat),i=(c:Int)/\c<=count/\dM [] w w' [(E,.cells (eF (true,sk,sv,dC)) ND (0,0)),(G,.cells #[fN sn] 101 (0,0)),(C,.cells (eF fl) ND (0,0))]/\
   eE [] w sn (b.drop (c*(k+v)))/\eO gg 1 w' sk (ij pk) Bk/\fV pk=(iC k v c b).1/\eO gg 1 w' sv (ij pv) I/\fV pv=(iC k v c b).2/\(∀c∈Bk,w.heap.size<=c/\c∉[E,G,C])/\(∀c∈I,w.heap.size<=c/\c∉[E,G,C])/\(∀c∈Bk,c∉I)/\
   tq w' pk (List.range w.heap.size++E::G::C::(Bk++I))/\tq w' pv (List.range w.heap.size++E::G::C::(Bk++I))) (fun i _=>((count:Int)-i).toNat)
  ⟨0,dC,dC,s,[],[],[],[],rfl,yW _,h,by rw[Nat.zero_mul,xE];exact hb,.nil _ _ _,rfl,.nil _ _ _,rfl,fun _ h=>(nomatch h),fun _ h=>(nomatch h),fun _ h=>(nomatch h),fun _ h=>(nomatch h),fun _ h=>(nomatch h)⟩ ?_
 rintro _ w' ⟨c,sk,sv,sn,pk,pv,Bk,I,rfl,bd,h,aM,au,ek,ae,ev,nk,nv,ak,gk,gv⟩ X hX;have lk:pk.length=c:=(by rw[<- zK (f:=(·.2)),show pk.map (·.2)=fV pk from rfl,ek,(Cz c b).1]);have lv:pv.length=c:=(by rw[<- zK (f:=(·.2)),show pv.map (·.2)=fV pv from rfl,ev,(Cz c b).2]);have R:∀z∈[E,G,C],z<w'.heap.size:=fun z u=>by simp only[zG,xW,or_false] at u;rcases u with rfl|rfl|rfl;exact eT (h.at (i:=0) rfl);exact eT (h.at (i:=1) rfl);exact eT (h.at (i:=2) rfl)
 apply cD<;>intro al;have av:c<count:=oJ;have am:(c+1)*(k+v)<=count*(k+v):=Nat.mul_le_mul_right _ av;rw[xT,Nat.one_mul] at am;have bg:(b.drop (c*(k+v))).length=b.length-c*(k+v):=yB;refine DQ (o:=1) (m:=k) (.inl rfl) h aM oJ oJ (x:=(true,sk,sv,dC)) au (fun z u=>nk z u) oO fun V sN aa Bk' w5 h5 aP b5 n5 m5 f5 g5=>?_;have h5:dM [] w w5 [(E,.cells (eF (true,aa,sv,dC)) ND (0,0)),(G,.cells #[fN sN] 101 (0,0)),(C,.cells (eF fl) ND (0,0))]:=h5;have aw:=ae.q8 f5 fun z u J=>by simp only[zG] at J;rcases J with rfl|rfl|J;exact (nv _ u).2 oL;exact (nv _ u).2 oL;exact ak z J u
 have ax:∀z∈List.range w.heap.size++E::G::C::(Bk'++I),z∈List.range w.heap.size++E::G::C::(Bk++I)\/w'.heap.size<=z:=fun z u=>by simp only[zD,zG] at u⊢;rcases u with u|rfl|rfl|rfl|u|u;exact .inl (.inl u);simp;simp;simp;rcases n5 z u with h|h;simp[h];exact .inr h;simp[u]
 have ay:∀z∈E::G::Bk,z∈List.range w.heap.size++E::G::C::(Bk++I):=fun z u=>by simp only[zD,zG] at u⊢;rcases u with rfl|rfl|u<;>simp[*]
 have aT:=(gk.q8 f5 ay ax).snoc (s:=V) (a:=(b.drop (c*(k+v))).take k) (g5 _ fun z u=>by
  simp only[zD,zG,mem_range] at u
  have:=h.fr.size
  rcases u with u|rfl|rfl|rfl|u|u;exact .inl oJ;exact .inl (R _ oL);exact .inl (R _ oL);exact .inl (R _ oL);exact .inr u;exact .inl (ae.lt z u))
 have aU:=gv.q8 f5 ay ax;have an:∀z∈Bk',w.heap.size<=z/\z∉[E,G,C]:=fun z u=>⟨by rcases n5 z u with U|U;exact (nk z U).1;exact zL h.fr.size U,m5 z u⟩;have aj:∀z∈Bk',z∉I:=fun z u J=>by
  rcases n5 z u with U|U;exact ak z U J
  have:=ae.lt z J;omega
 have aV:eO gg 1 w5 aa (ij (pk++[(V,(b.drop (c*(k+v))).take k)])) Bk':=(by rw[show ij (pk++[(V,(b.drop (c*(k+v))).take k)])=ij pk++[V] by simp];exact b5);refine DQ (o:=2) (m:=v) (.inr rfl) h5 aP (by rw[yB];omega) (by rw[yB];omega) (x:=(true,aa,sv,dC)) aw (fun z u=>nv z u) oO fun ag az aA aB w6 h6 aC b6 n6 m6 f6 g6=>?_;have h6:dM [] w w6 [(E,.cells (eF (true,aa,aA,dC)) ND (0,0)),(G,.cells #[fN az] 101 (0,0)),(C,.cells (eF fl) ND (0,0))]:=h6;have ab:∀z∈[E,G,C],z<w5.heap.size:=fun z u=>yC (R z u) f5.size;have aD:=aV.q8 f6 fun z u J=>by simp only[zG] at J;rcases J with rfl|rfl|J;exact (an _ u).2 oL;exact (an _ u).2 oL;exact aj z u J
 have aE:∀z∈List.range w.heap.size++E::G::C::(Bk'++aB),z∈List.range w.heap.size++E::G::C::(Bk'++I)\/w5.heap.size<=z:=fun z u=>by simp only[zD,zG] at u⊢;rcases u with u|rfl|rfl|rfl|u|u;exact .inl (.inl u);simp;simp;simp;simp[u];rcases n6 z u with h|h;simp[h];exact .inr h
 have aF:∀z∈E::G::I,z∈List.range w.heap.size++E::G::C::(Bk'++I):=fun z u=>by simp only[zD,zG] at u⊢;rcases u with rfl|rfl|u<;>simp[*]
 have aZ:=(aU.q8 f6 aF aE).snoc (s:=ag) (a:=((b.drop (c*(k+v))).drop k).take v) (g6 _ fun z u=>by
  simp only[zD,zG,mem_range] at u
  have:=h5.fr.size
  rcases u with u|rfl|rfl|rfl|u|u;exact .inl oJ;exact .inl (ab _ oL);exact .inl (ab _ oL);exact .inl (ab _ oL);exact .inl (b5.lt z u);exact .inr u)
 have a0:=aT.q8 f6 aF aE;rw[qG oJ];have aG:=qnl (k:=k) (v:=v) c b;refine hX _ _ ⟨c+1,aa,aA,az,pk++[(V,(b.drop (c*(k+v))).take k)],pv++[(ag,((b.drop (c*(k+v))).drop k).take v)],Bk',aB,rfl,av,h6,?_,aD,?_,?_,?_,an,fun z u=>⟨?_,m6 z u⟩,fun z u J=>?_,a0,aZ⟩ oJ;rw[xC,xC] at aC;have e:c*(k+v)+(k+v)=(c+1)*(k+v):=(by rw[xT];omega);rw[<- e];exact aC;rw[aG];simp[ek];rw[show ij (pv++[(ag,((b.drop (c*(k+v))).drop k).take v)])=ij pv++[ag] by simp];exact b6;rw[aG];simp[ev];rcases n6 z u with U|U;exact (nv z U).1;exact zL h5.fr.size U;rcases n6 z J with U|U;exact aj z u U
 have:=b5.lt z u;omega
 have a1:c=count:=oJ;subst a1;refine oC h 0 rfl (true,sk,sv,dC) rfl<|oD h 2 rfl (eF (true,sk,sv,dC)) fun w5 h5 f5=>oC h5 2 rfl (true,sk,sv,dC) rfl ?_;have aH:∀ {B:List Nat},(∀z∈B,w.heap.size<=z/\z∉[E,G,C])->∀z∈B,z∉[C]:=fun hB z u J=>(hB z u).2 (by rw[zE.1 J];simp);have aI:∀z∈[C],z∈List.range w.heap.size++E::G::C::(Bk++I):=fun z u=>by rw[zE.1 u];simp
 have:=kk (true,sk,sv,dC) (Bk++(I++[])) ⟨true,(iC k v c b).1,(iC k v c b).2,[]⟩ w5 (fun _=>rfl)
  (qty (T:=List.range w.heap.size++E::G::C::(Bk++I)) rfl ⟨(Eo c hB).1,(Eo c hB).2,fun _ h=>(nomatch h)⟩ (au.q8 f5 (aH nk)) ek (ae.q8 f5 (aH nv)) ev (.nil _ _ _) (fun z u=>⟨ak z u,fun h=>nomatch h⟩) (fun _ _ h=>nomatch h)
   (gk.q8 f5 aI fun z u=>.inl u) (gv.q8 f5 aI fun z u=>.inl u) fun z u=>by simp only[xG,zD,zG] at u⊢;rcases u with u|u|u<;>simp[*]) h5.fr (fun z u=>by
   rw[xG] at u;rcases zD.1 u with u|u;exact (nk z u).1;exact (nv z u).1)
 rw[zZ aL] at this;exact this
end
end
section
def qsr(u:eB l)(E:4<=l.length):fg (l.take 4)=gR (l.take 4):=by
 match l,E with
 | a::b::c::d::r,_=>
  have G:=u a oL;have I:=u b oL;have J:=u c oL;have R:=u d oL;show fg [a,b,c,d]=gR [a,b,c,d];show nO a b c d=_;rw[qq8 G I J R,Cb (fun v C=>u v (by simp at C⊢;rcases C with h|h|h|h<;>simp[h])) (zM _)];show _=(((0*256+a)*256+b)*256+c)*256+d;omega
def qxt(l:List Int):gy (gR l):=by
 unfold gR;have:∀(l:List Int) (r:Int),gy r->gy (l.foldl (fun r x=>bits .or .u32 (wrap .u32 (r*2^8)) (wrap .u32 x)) r):=by
  intro l;induction l with
  | nil=>intro r h;exact h
  | cons x l ih=>intro r h;exact ih _ (Ci _ _ _)
 exact this l 0 ⟨oM,oM⟩
def qpo:∀(c:Nat) (b:List Int),∀x∈y6 c b,gy x
 | 0,_,_,h=>nomatch h
 | c+1,b,x,h=>by rcases zG.1 h with rfl|h;exact qxt _;exact qpo c _ x h
def qy3{I J:Nat}{s':Sl}{Bi:List Nat}{K:WP}(h:dM [] w0 w ((I,.cells (eF x) ND (0,0))::(J,.cells #[fN s'] T (0,0))::L))(hr:eE [] w0 s' b)(hB:eB b)(hm:4<=b.length)(aC:b.length<=1000000)(aj:eO ik 1 w x.2.2.2 l Bi)(ac:∀c∈Bi,w0.heap.size<=c/\c∉I::J::L.map (·.1))(hl:l.length<=100000)(kk:∀sN R U w',dM [] w0 w' ((I,.cells (eF (x.1,x.2.1,x.2.2.1,R)) ND (0,0))::(J,.cells #[fN sN] T (0,0))::L)->eE [] w0 sN (b.drop 4)->eO ik 1 w' R (l++[gR (b.take 4)]) U-> (∀c∈U,w0.heap.size<=c/\c∉I::J::L.map (·.1))->K w'): (dV prog (qZ J) ([Value.int IntKind.i64 4]) (de) w<| fun (E:Sl) (u:World)=> ld Cell.slice (dd I 3) u.drew<| fun (C:Sl)=> idx E 0 1<| fun (ak:Addr)=> ld (Cell.int IntKind.u8) ak u.drew<| fun (al:Int)=> idx E 1 1<| fun (am:Addr)=> ld (Cell.int IntKind.u8) am u.drew<| fun (an:Int)=> idx E 2 1<| fun (ao:Addr)=> ld (Cell.int IntKind.u8) ao u.drew<| fun (ap:Int)=> idx E 3 1<| fun (aq:Addr)=> ld (Cell.int IntKind.u8) aq u.drew<| fun (ar:Int)=> new (.cells #[Value.int IntKind.u32 (bits .or .u32 (bits .or .u32 (bits .or .u32 (wrap IntKind.u32 (wrap IntKind.u32 al*2^24)) (wrap IntKind.u32 (wrap IntKind.u32 an*2^16))) (wrap IntKind.u32 (wrap IntKind.u32 ap*2^8))) (wrap IntKind.u32 ar))] 63) u.drew<| fun (au:Nat) (af:World)=> held [fun (av:Go.World)=>World.cell? av (dd I 3)=some (Value.slice C.a C.len C.cap)] af<| run de ((Builtin.append_ (#[172,172]) 172 (#[Value.slice C.a C.len C.cap,Value.slice (pW au) 1 1])).run prog af)<| fun (V:Sl) (aw:World)=> st (dd I 3) ([Value.slice V.a V.len V.cap]) aw K):=by
 refine qr1 (m:=4) h (i:=1) rfl hr hm aC fun aD aZ sN ad aE aF a0 hN aG=>?_;have hd:dM [] w0 ad.drew ((I,.cells (eF x) ND (0,0))::(J,.cells #[fN sN] T (0,0))::L):=oF aE;refine oA hd 0 rfl x.2.2.2 rfl ?_;have G:eE [] ad.drew aD (b.take 4):=(aF.jq k8 (S:=[]) (fun _ _ h=>nomatch h)).q7 (Fr.refl [] ad).drew;have h4:4<=(b.take 4).length:=(by rw[yK];omega);refine eE.at G 0 rfl (getD_some oJ)<|eE.at G 1 rfl (getD_some oJ)<|eE.at G 2 rfl (getD_some oJ)<|eE.at G 3 rfl (getD_some oJ) ?_;have e4:=qsr hB hm;unfold fg nO at e4;rw[e4];refine oB hd fun a2 aH a3 aI ag=>ia (ag.cell 1 rfl rfl) ?_;have ax:=aj.q8 aG fun c hc hm=>(ac c hc).2 (by rw[zE.1 hm];simp);have ay:=(ax.q7 (Fr.refl [] ad).drew).q7 aI;refine qs2 ay hl (ag.at (i:=0) rfl) fun R U a4 aJ aK aL=>?_;have aa:=ag.sub (L':=(I,.cells (eF x) ND (0,0))::(J,.cells #[fN sN] T (0,0))::L) (sublist_cons_self _ _);have ai:∀p∈((I,Obj.cells (eF x) ND (0,0))::(J,.cells #[fN sN] T (0,0))::L),p.1∉Bi:=fun p hp hm=>(ac p.1 hm).2 (zY (f:=(·.1)) hp);have aN:=aa.q8 aK (fun i hi=>.inr (ac i hi).1) ai;have az:∀c∈I::J::L.map (·.1),c<aH.heap.size:=fun c hc=>by obtain⟨p,hp,rfl⟩:=mem_map.1 (show c∈((I,Obj.cells (eF x) ND (0,0))::(J,.cells #[fN sN] T (0,0))::L).map (·.1) from hc);exact eT (aa.eA p hp)
 have aA:∀c∈U,w0.heap.size<=c/\c∉I::J::L.map (·.1):=fun c hc=>by rcases aL c hc with h|h;exact ac c h;exact⟨zL aa.fr.size h,fun hm=>by have:=az c hm;omega⟩
 exact oD aN 0 rfl (eF (x.1,x.2.1,x.2.2.1,R)) fun aO aP aQ=>kk sN R U aO aP hN (aJ.q8 aQ fun c hc hm=>(aA c hc).2 (by rw[zE.1 hm];simp)) aA
section
variable {w:World} {s:Sl} {b:List Int}
def qvY{count:Nat}{K:jP×Bool->WP}(hb:eE [] w s b)(hB:eB b)(hl:b.length<=1000)(hc:count<=100000)(hk:1<=k/\k<=1000)(kk:∀x B n w',(1<=count/\b.length=count*4+(count-1)*k->n=⟨false,kI k (count-1) (b.drop (count*4)),[],y6 count b⟩)->eV (List.range w.heap.size++B) w' x n B->Fr [] w w'->(∀c∈B,w.heap.size<=c)->K (x,decide (1<=count/\b.length=count*4+(count-1)*k)) w'): cW 159 [s.v,.i count,.i k] [.agg dT,.one .bool] w K:=by
 refine qp9<|oB (oE [] w) fun C w1 e1 f1 h=>?_;have ao:=hb.1;have ap:(count-1)*k<=100000*1000:=Nat.mul_le_mul oJ hk.2;refine gQ (fun d w'=>d = !decide (1<=count/\b.length=count*4+(count-1)*k)/\w'=w1) ?_ ?_;apply dR<;>intro h1;have h1:=zC h1;refine⟨?_,rfl⟩;rw[zU (fun h=>oJ)];rfl;have h1:=zB h1;refine⟨?_,rfl⟩;have ea:wrap .i64 ((count:Int)-1)=((count-1:Nat):Int):=(by rw[gc _ oJ];omega);have ew:wrap .i64 (wrap .i64 ((count:Int)*4)+wrap .i64 (wrap .i64 ((count:Int)-1)*(k:Int)))=((count*4+(count-1)*k:Nat):Int):=by have e4:wrap .i64 ((count:Int)*4)=((count*4:Nat):Int):=(by rw[gc _ oJ];rfl);have e5:wrap .i64 (((count-1:Nat):Int)*(k:Int))=(((count-1)*k:Nat):Int):=(by rw[<- Int.natCast_mul,gc _ oJ]);rw[ea,e4,e5];generalize (count-1)*k=z at ap;rw[gc _ oJ];rfl
 rw[ew,ao];congr 1;rw[Bool.eq_iff_iff,yO,yM];generalize (count-1)*k=z;omega;rintro d a0 ⟨rfl,rfl⟩;apply dR<;>intro U;have ar:¬(1<=count/\b.length=count*4+(count-1)*k):=(by rw[zT] at U;exact zB U);refine oD h 0 rfl (eF fl) fun w2 h f2=>oC h 0 rfl fl rfl ?_
 have:=kk fl [] ie w2 (fun e=>absurd e ar) (.zero _ _) h.fr (fun _ h=>nomatch h)
 rw[zU ar] at this;exact this;have aG:1<=count/\b.length=count*4+(count-1)*k:=(by rw[yD] at U;exact zC U);refine oB h fun G w2 e2 f2 h=>qiY<|oB h fun I w4 e4 f4 h=>?_;have h:=Bh h (List.Perm.swap _ _ _);refine iV (fun i w'=>∃(c:Nat) (R sn:Sl) (J:List Nat),i=(c:Int)/\c<=count/\dM [] w w' [(G,.cells (eF (false,dC,dC,R)) ND (0,0)),(I,.cells #[fN sn] 101 (0,0)),(C,.cells (eF fl) ND (0,0))]/\
   eE [] w sn (b.drop (c*4))/\eO ik 1 w' R (y6 c b) J/\(∀c∈J,w.heap.size<=c/\c∉[G,I,C])) (fun i _=>((count:Int)-i).toNat)
  ⟨0,dC,s,[],rfl,yW _,h,by rw[Nat.zero_mul,xE];exact hb,.nil _ _ _,fun _ h=>(nomatch h)⟩ ?_
 rintro _ w' ⟨c,R,sn,J,rfl,a2,h,au,E,ni⟩ X hX;apply cD<;>intro ag;have ab:c<count:=oJ;have aI:(b.drop (c*4)).length=b.length-c*4:=yB;refine qy3 h au (hB.drop _) oJ oJ (x:=(false,dC,dC,R)) E ni (by rw[FS];omega) fun sN aJ aK w5 h5 V b5 n5=>?_;rw[qG oJ];refine hX _ _ ⟨c+1,aJ,sN,aK,rfl,ab,h5,?_,by rw[qnk];exact b5,n5⟩ oJ;rw[xC] at V;have e:c*4+4=(c+1)*4:=oJ;rw[<- e];exact V;have ah:c=count:=oJ;subst ah;have aV:∀z∈J,w.heap.size<=z:=fun z u=>(ni z u).1;refine iV (fun i w2=>∃(d:Nat) (sk sn:Sl) (pk:oS) (Bk:List Nat),i=(d:Int)/\d<=c-1/\dM [] w w2 [(G,.cells (eF (false,sk,dC,R)) ND (0,0)),(I,.cells #[fN sn] 101 (0,0)),(C,.cells (eF fl) ND (0,0))]/\
   eE [] w sn ((b.drop (c*4)).drop (d*k))/\eO ik 1 w2 R (y6 c b) J/\eO gg 1 w2 sk (ij pk) Bk/\fV pk=kI k d (b.drop (c*4))/\(∀c∈Bk,w.heap.size<=c/\c∉[G,I,C])/\(∀c∈Bk,c∉J)/\
   tq w2 pk (List.range w.heap.size++G::I::C::(Bk++J))) (fun i _=>(((c-1:Nat):Int)-i).toNat)
  ⟨0,dC,sn,[],[],rfl,yW _,h,by rw[Nat.zero_mul,xE];exact au,E,.nil _ _ _,rfl,fun _ h=>(nomatch h),fun _ h=>(nomatch h),fun _ h=>(nomatch h)⟩ ?_
 rintro _ w2 ⟨d,sk,a3,pk,Bk,rfl,a4,h,aw,E,ax,ek,nk,ai,gk⟩ X hX;have lk:pk.length=d:=(by rw[<- zK (f:=(·.2)),show pk.map (·.2)=fV pk from rfl,ek,Dq]);have ea:wrap .i64 ((c:Int)-1)=((c-1:Nat):Int):=(by rw[gc _ oJ];omega);have aa:∀z∈[G,I,C],z<w2.heap.size:=fun z u=>by simp only[zG,xW,or_false] at u;rcases u with rfl|rfl|rfl;exact eT (h.at (i:=0) rfl);exact eT (h.at (i:=1) rfl);exact eT (h.at (i:=2) rfl)
 rw[ea];apply cD<;>intro aj;have ab:d<c-1:=oJ;have ak:(d+1)*k<=(c-1)*k:=Nat.mul_le_mul_right _ ab;rw[xT,Nat.one_mul] at ak;have aI:((b.drop (c*4)).drop (d*k)).length=b.length-c*4-d*k:=(by rw[yB,yB]);refine DQ (o:=1) (m:=k) (.inl rfl) h aw oJ oJ (x:=(false,sk,dC,R)) ax nk oO fun ac sN ay Bk' w5 h5 V b5 n5 m5 f5 g5=>?_;have h5:dM [] w w5 [(G,.cells (eF (false,ay,dC,R)) ND (0,0)),(I,.cells #[fN sN] 101 (0,0)),(C,.cells (eF fl) ND (0,0))]:=h5;have az:=E.q8 f5 fun z u hm=>by simp only[zG] at hm;rcases hm with rfl|rfl|hm;exact (ni _ u).2 oL;exact (ni _ u).2 oL;exact ai z hm u
 have aN:∀z∈List.range w.heap.size++G::I::C::(Bk'++J),z∈List.range w.heap.size++G::I::C::(Bk++J)\/w2.heap.size<=z:=fun z u=>by simp only[zD,zG] at u⊢;rcases u with u|rfl|rfl|rfl|u|u;exact .inl (.inl u);simp;simp;simp;rcases n5 z u with h|h;simp[h];exact .inr h;simp[u]
 have aO:∀z∈G::I::Bk,z∈List.range w.heap.size++G::I::C::(Bk++J):=fun z u=>by simp only[zD,zG] at u⊢;rcases u with rfl|rfl|u<;>simp[*]
 have aP:=(gk.q8 f5 aO aN).snoc (s:=ac) (a:=((b.drop (c*4)).drop (d*k)).take k) (g5 _ fun z u=>by
  simp only[zD,zG,mem_range] at u
  have:=h.fr.size
  rcases u with u|rfl|rfl|rfl|u|u;exact .inl oJ;exact .inl (aa _ oL);exact .inl (aa _ oL);exact .inl (aa _ oL);exact .inr u;exact .inl (E.lt z u))
 rw[qG oJ];refine hX _ _ ⟨d+1,ay,sN,pk++[(ac,((b.drop (c*4)).drop (d*k)).take k)],Bk',rfl,ab,h5,?_,az,?_,?_,fun z u=>⟨?_,m5 z u⟩,fun z u hm=>?_,aP⟩ oJ;rw[xC] at V;have e:d*k+k=(d+1)*k:=(by rw[xT];omega);rw[<- e];exact V;rw[show ij (pk++[(ac,((b.drop (c*4)).drop (d*k)).take k)])=ij pk++[ac] by simp];exact b5;rw[qni];simp[ek];rcases n5 z u with h'|h';exact (nk z h').1;exact zL h.fr.size h';rcases n5 z u with h'|h';exact ai z h' hm
 have:=E.lt z hm;omega
 have ah:d=c-1:=oJ;subst ah;refine oC h 0 rfl (false,sk,dC,R) rfl<|oD h 2 rfl (eF (false,sk,dC,R)) fun w5 h5 f5=>oC h5 2 rfl (false,sk,dC,R) rfl ?_;have aA:∀ {B:List Nat},(∀z∈B,w.heap.size<=z/\z∉[G,I,C])->∀z∈B,z∉[C]:=fun hB z u hm=>(hB z u).2 (by rw[zE.1 hm];simp);have aQ:∀z∈[C],z∈List.range w.heap.size++G::I::C::(Bk++J):=fun z u=>by rw[zE.1 u];simp
 have:=kk (false,sk,dC,R) (Bk++([]++J)) ⟨false,kI k (c-1) (b.drop (c*4)),[],y6 c b⟩ w5 (fun _=>rfl)
  (qty (pv:=[]) (T:=List.range w.heap.size++G::I::C::(Bk++J)) rfl ⟨qpm _ (hB.drop _),fun _ h=>(nomatch h),qpo _ _⟩ (ax.q8 f5 (aA nk)) ek (.nil _ _ _) rfl (E.q8 f5 (aA ni)) (fun z u=>⟨fun h=>(nomatch h),ai z u⟩) (fun _ h=>nomatch h)
   (gk.q8 f5 aQ fun z u=>.inl u) (fun _ h=>nomatch h) fun z u=>by simp only[xH,zD,zG] at u⊢;rcases u with u|u|u<;>simp[*]) h5.fr (fun z u=>by
   rw[xH] at u;rcases zD.1 u with u|u;exact (nk z u).1;exact (ni z u).1)
 rw[zZ aG] at this;exact this
end
end
section
def qsm(h:eB b)(E:2<=b.length):bits .or .i64 (wrap .i64 (wrap .i64 (b.getD 0 0)*2^8)) (wrap .i64 (b.getD 1 0))=(fv b:Int)/\fv b<=65535:=by have u:0<=b.getD 0 0/\b.getD 0 0<256:=h _ (yE (getD_some (l:=b) (n:=0) oJ));have C:0<=b.getD 1 0/\b.getD 1 0<256:=h _ (yE (getD_some (l:=b) (n:=1) oJ));unfold fv;generalize b.getD 0 0=x at u⊢;generalize b.getD 1 0=y at C⊢;rw[gc x oJ,gc y oJ,gc (x*2^8) oJ,qrx 8 oJ oJ oJ oJ oJ];omega
def qmP(h:(dQ k v).1≠0):1<=k/\k<=24/\v<=108:=by unfold dQ at h;split at h;exact absurd rfl h;omega
def qxR(h:(dQ k v).1=0\/b.length<2\/b.length>500):io kind b k v=(ie,2):=by unfold io;rw[if_pos h]
def qwx(h:¬((dQ k v).1=0\/b.length<2\/b.length>500)):io 3 b k v=if (b.drop 2).length=fv b*(k+v)/\fx (mj k v b) k v then (mj k v b,0) else (ie,2):=by unfold io;rw[if_neg h];by_cases h2:(b.drop 2).length=fv b*(k+v)/\fx (mj k v b) k v;rw[if_pos ⟨rfl,h2⟩,if_pos h2];rw[if_neg fun h=>h2 h.2,if_neg h2,if_neg fun h=>absurd h.1 oM]
def quT(h:¬((dQ k v).1=0\/b.length<2\/b.length>500)):io 4 b k v=if (1<=fv b/\(b.drop 2).length=fv b*4+(fv b-1)*k)/\fx (kL k b) k v then (kL k b,0) else (ie,2):=by unfold io;rw[if_neg h,if_neg fun h=>absurd h.1 oM];by_cases h2:(1<=fv b/\(b.drop 2).length=fv b*4+(fv b-1)*k)/\fx (kL k b) k v;rw[if_pos ⟨rfl,h2.1.1,h2.1.2,h2.2⟩,if_pos h2];rw[if_neg fun h=>h2 ⟨⟨h.2.1,h.2.2.1⟩,h.2.2.2⟩,if_neg h2]
def qww(u:kind≠3)(C:kind≠4):io kind b k v=(ie,2):=by unfold io;split;rfl;rw[if_neg fun h=>u h.1,if_neg fun h=>C h.1]
section
variable {w:World} {s:Sl} {b:List Int}
def FL{K:jP×Int->WP}(hb:eE [] w s b)(hB:eB b)(kk:∀x B w',eV (List.range w.heap.size++B) w' x (io kind b k v).1 B->Fr [] w w'->(∀c∈B,w.heap.size<=c)->K (x,(io kind b k v).2) w'): cW 118 [.b kind,s.v,.i k,.i v] [.agg dT,.one .i] w K:=by
 refine qrs ?_;have ah:=hb.1;refine oB (oE [] w) fun r1 w1 e1 f1 h=>FI fun w4 f4=>?_;have h:=h.q7 f4;refine gQ (fun d w'=>d=decide ((dQ k v).1=0\/b.length<2\/b.length>500)/\w'=w4) ?_ ?_;dsimp only;refine dR (fun C=>⟨?_,rfl⟩) (fun C=>dR (fun c2=>⟨?_,rfl⟩) (fun c2=>⟨?_,rfl⟩));have C:=yO.1 C;exact BW (.inl oJ);have c2:=zC c2;exact BW (.inr (.inl oJ));have C:=zR.1 C;have c2:=zB c2;rw[Bool.eq_iff_iff,yM,yM];constructor;intro h;exact .inr (.inr oJ);rintro (h|h|h);omega;omega;omega;rintro d aJ ⟨rfl,rfl⟩;have aw:∀ {w'},io kind b k v=(ie,2)->dM [] w w' [(r1,.cells (eF fl) ND (0,0))]->
   st (dd r1) ([Value.bool false,Value.slice none 0 0,Value.slice none 0 0,Value.slice none 0 0]) w' fun ax=>dJ (dT) (dd r1) ax fun aK=>K ((aK,2)) ax:=fun he h=>by
  refine oD h 0 rfl (eF fl) fun w2 h f2=>oC h 0 rfl fl rfl ?_
  have:=kk fl [] w2 (by rw[he];exact .zero _ _) h.fr (fun _ h=>nomatch h)
  rw[he] at this;exact this
 refine dR (fun u=>aw (qxR (zC u)) h) (fun u=>?_);have aa:=zB u;have ay:(dQ k v).1≠0:=fun e=>aa (.inl e);have h2:2<=b.length/\b.length<=500:=by refine⟨?_,?_⟩;exact Nat.not_lt.1 fun e=>aa (.inr (.inl e));exact Nat.not_lt.1 fun e=>aa (.inr (.inr e))
 obtain⟨aZ,a0,a1⟩:=qmP ay;obtain⟨az,a2⟩:=qsm hB h2.1;have aA:=(hb.q7 h.fr).q7 (Fr.refl [] aJ).drew;refine eE.at aA 0 rfl (getD_some oJ)<|eE.at aA 1 rfl (getD_some oJ) ?_;rw[az];have h:=h.drew;refine oB h fun af aj a3 a4 h=>?_;have ak:=eT (h.at (i:=0) rfl);have aB:=eT (h.at (i:=1) rfl);dsimp only at ak aB;have ai:=hb.q7 h.fr;have aC:=h.fr.size;refine gQ (fun R w'=>∃x B n,dM [] w w' [(af,.cells (eF x) ND (0,0)),(r1,.cells (eF fl) ND (0,0))]/\eV (List.range aj.heap.size++B) w' x n B/\(∀c∈B,aj.heap.size<=c)/\
   R=decide ((kind=3/\(b.drop 2).length=fv b*(k+v))\/(kind=4/\1<=fv b/\(b.drop 2).length=fv b*4+(fv b-1)*k))/\
   (R=true->n=if kind=3 then mj k v b else kL k b)) ?_ ?_
 refine dR (fun V=>?_) (fun V=>dR (fun c4=>?_) (fun c4=>?_));have V:=yO.1 V;refine dW.part (S:=[]) ai (lo:=some 2) (hi:=none) 2 b.length rfl (by rw[xV,ah]) h2.1 (zM _) fun aM _ I _=>?_;rw[xY] at I;refine qyP I (hB.drop 2) (by rw[yB];omega) oJ oJ oJ fun x B n aN hn hN an J=>?_;have ao:=h.q7 an;refine oD ao 0 rfl (eF x) fun aO ap aq=>?_;have ab:∀c∈B,c∉[af]:=fun c u hm=>by have:=J c u;rw[zE.1 hm] at this;omega
 refine⟨x,B,n,ap,hN.q8 aq ab (fun c u=>.inl (by rw[zE.1 u];simp[ak])) (fun c u=>.inl u),J,?_,fun E=>?_⟩;rw[Bool.eq_iff_iff,yM,yM];constructor;intro U;exact .inl ⟨V,U⟩;rintro (U|U);exact U.2
 have:=U.1;omega
 rw[if_pos V];exact hn (zC E);have V:=zR.1 V;have c4:=yO.1 c4;refine dW.part (S:=[]) ai (lo:=some 2) (hi:=none) 2 b.length rfl (by rw[xV,ah]) h2.1 (zM _) fun aM _ I _=>?_;rw[xY] at I;refine qvY I (hB.drop 2) (by rw[yB];omega) oJ oJ fun x B n aN hn hN an J=>?_;have ao:=h.q7 an;refine oD ao 0 rfl (eF x) fun aO ap aq=>?_;have ab:∀c∈B,c∉[af]:=fun c u hm=>by have:=J c u;rw[zE.1 hm] at this;omega
 refine⟨x,B,n,ap,hN.q8 aq ab (fun c u=>.inl (by rw[zE.1 u];simp[ak])) (fun c u=>.inl u),J,?_,fun E=>?_⟩;rw[Bool.eq_iff_iff,yM,yM];constructor;intro U;exact .inr ⟨c4,U⟩;rintro (U|U);exact absurd U.1 V;exact U.2;rw[if_neg V];exact hn (zC E);have V:=zR.1 V;have c4:=zR.1 c4;refine⟨fl,[],ie,h,.zero _ _,fun _ h=>(nomatch h),?_,fun E=>nomatch E⟩;rw[zU];rintro (U|U);exact V U.1;exact c4 U.1;rintro R aP ⟨x,B,n,h,hN,J,ac,hn⟩;have aE:R=true->n.J6.length<=1000000/\n.Q0.length<=1000000/\n.J9.length<=1000000:=fun E=>by
  rw[hn E];split
  have:=Cz (k:=k) (v:=v) (fv b) (b.drop 2)
  unfold mj;dsimp only;rw[this.1,this.2];simp;omega;unfold kL;dsimp only;rw[Dq,FS];simp;omega
 refine gQ (fun d w'=>d = !(R&&decide (fx n k v))/\dM [] w w' [(af,.cells (eF x) ND (0,0)),(r1,.cells (eF fl) ND (0,0))]/\eV (List.range aj.heap.size++B) w' x n B) ?_ ?_;apply dR<;>intro C;have C:R=false:=(oP C);exact⟨by rw[C];rfl,h,hN⟩;have C:R=true:=(oP C);obtain⟨q1,q2,q3⟩:=aE C;refine oC h 0 rfl x rfl ?_;have aQ:ef [] aP x n:=hN.rd (fun _ _ h=>(nomatch h)) fun _ h=>nomatch h;exact qqC (x:=x) aQ q1 q2 q3 fun a8 aF=>⟨by rw[C,Bool.true_and],h.q7 aF,hN.q7 aF⟩;rintro d a9 ⟨rfl,h,hN⟩;have G:io kind b k v=if (R&&decide (fx n k v))=true then (n,0) else (ie,2):=by
  by_cases k3:kind=3;subst k3;rw[qwx aa];have e:R=decide ((b.drop 2).length=fv b*(k+v)):=(by rw[ac];exact decide_eq_decide.2 ⟨fun h=>h.elim (·.2) fun h=>absurd h.1 oM,fun h=>.inl ⟨rfl,h⟩⟩);by_cases E:R=true;have ad:=hn E;rw[if_pos rfl] at ad;rw[ad,E,Bool.true_and];have hl:(b.drop 2).length=fv b*(k+v):=zC (e▸E);by_cases hr:fx (mj k v b) k v;rw[if_pos ⟨hl,hr⟩,if_pos (zZ hr)];rw[if_neg fun h=>hr h.2,if_neg (by rw[zU hr];decide)];have ae:R=false:=(oP E);rw[ae,Bool.false_and,if_neg (show ¬(false=true) by decide)];have hl:¬(b.drop 2).length=fv b*(k+v):=zB (e▸ae);rw[if_neg fun h=>hl h.1];by_cases k4:kind=4;subst k4;rw[quT aa];have e:R=decide (1<=fv b/\(b.drop 2).length=fv b*4+(fv b-1)*k):=(by rw[ac];exact decide_eq_decide.2 ⟨fun h=>h.elim (fun h=>absurd h.1 oM) (·.2),fun h=>.inr ⟨rfl,h⟩⟩);by_cases E:R=true;have ad:=hn E;rw[if_neg k3] at ad;rw[ad,E,Bool.true_and];have hl:=zC (e▸E);by_cases hr:fx (kL k b) k v;rw[if_pos ⟨hl,hr⟩,if_pos (zZ hr)];rw[if_neg fun h=>hr h.2,if_neg (by rw[zU hr];decide)];have ae:R=false:=(oP E);rw[ae,Bool.false_and,if_neg (show ¬(false=true) by decide)];have hl:=zB (e▸ae);rw[if_neg fun h=>hl h.1];rw[qww k3 k4];have E:R=false:=by rw[ac,zU];rintro (h|h);exact k3 h.1;exact k4 h.1
  rw[E,Bool.false_and,if_neg (show ¬(false=true) by decide)]
 have aR:∀c∈B,c∉[r1]:=fun c u hm=>by have:=J c u;rw[zE.1 hm] at this;omega
 apply dR<;>intro C;refine aw ?_ (h.sub (sublist_cons_self _ _));rw[G,if_neg (by rw[zT] at C;rw[C];decide)];rw[yD] at C;refine oC h 0 rfl x rfl<|oD h 1 rfl (eF x) fun aT aG aU=>oC aG 1 rfl x rfl ?_;rw[if_pos C] at G
 have:=kk x B aT (by rw[G];exact (hN.q8 aU aR (fun c u=>.inl (by rw[zE.1 u];simp[aB])) (fun c u=>.inl u)).j6 fun c u=>.inl (by rcases zD.1 u with u|u;exact zH _ (mem_range.2 (yC (mem_range.1 u) aC));exact zI _ u)) aG.fr (fun c u=>zL aC (J c u))
 rw[G] at this;exact this
end
end
section
def qAj{M:dU}(u:M.z9)(x:Int):x∈M.all↔x∈M.Q9\/x∈M.J7\/x∈M.Q5:=by rw[u.mem x];simp only[dU.all,zD];constructor;rintro (h|h|h|h);exact .inl (.inl h);exact .inr (.inl h);exact .inr (.inr h);exact .inl (.inr h);rintro ((h|h)|h|h);exact .inl h;exact .inr (.inr (.inr h));exact .inr (.inl h);exact .inr (.inr (.inl h))
def Dp{M:dU}{y4 Q9:List Int}(u:jm M=some (y4,Q9))(x:Int):x∈y4\/x∈Q9↔x∈M.Q1\/x∈M.J7\/x∈M.Q5:=by
 obtain⟨k,E,C,rfl,rfl⟩:=CD u;rw[vH];have e:x∈M.Q1↔x∈M.Q1.take k\/x∈M.Q1.drop k:=by
  conv=>lhs;rw[<- xD k M.Q1]
  exact zD
 simp only[zD,e];constructor;rintro (h|(h|h)|h);exact .inl (.inl h);exact .inr (.inl h);exact .inr (.inr h);exact .inl (.inr h);rintro ((h|h)|h|h);exact .inl h;exact .inr (.inr h);exact .inr (.inl (.inl h));exact .inr (.inl (.inr h))
section
variable {D D':dE} {M:dU} {y4 Q9:List Int} {t:Int} {ov:Bool}
def qsv(h:M.Wf)(C:∀e∈M.J8,view D' e.1=eh e.1 e.2.1 e.2.2)(u:e∈M.J8):eP e.1 (view D' e.1)=(e.2.1,e.2.2,0):=by have E:=h.J6 e.1 (zY u);have G:=h.n4;rw[C e u];exact EP ⟨oJ,oJ⟩ (h.body e u).2.1
def qpM{x:Int}(C:M.Q3=false)(E:D.down=false)(u:2<=x/\x<D.size)(G:M.j9.2.getD 0 0=D.size)(h:x∉M.all):dD D M x=eP x (view D x):=by have I:look x M.J8=none:=tD.2 fun J=>h (zI _ (zI _ (zI _ J)));have R:fY M x=true:=vo.2 ⟨⟨u.1,by rw[G];exact u.2⟩,h⟩;have U:=CJ E (n:=x) ⟨oJ,u.2⟩;unfold dD;rw[if_neg (by rw[C];decide),I];dsimp only;rw[if_neg (by rw[R];decide),U,if_neg oL]
def quS(h:M.Q3=false)(u:M.Wf)(C:e∈M.J8):dD D M e.1=(e.2.1,e.2.2,0):=by obtain⟨i,E⟩:=CH u.y8 C;unfold dD;rw[if_neg (by rw[h];decide),E]
end
end
end
section
open Go Go.Pt List
open Go.IntKind (wrap)
open Classical
attribute [local irreducible] ld dJ iH mZ i7 fi st new idx i8 jr fB js iY lV gT nn call dV inv run fc iM join loop held ext jR eI mH mz mI IntKind.wrap
end
section
open Go Go.Pt List
open Go.IntKind (wrap)
variable {db:Option Addr} {w:World}
def CV{cl:List Cell}{b off:Nat}{cs:Array Value}{T:TypeId}{h:Nat×Nat}{K:HL cl->Prop}(u:w.heap[b]?=some (.cells cs T h))(x:HL cl)(C:(cs.toList.drop off).take cl.length=HL.mk cl x)(k:K x):Pt.dJ cl (dd b off) w K:=
 ⟨x,uN u _ off 0 (by rw[HL.j3];exact C),k⟩
attribute [local irreducible] ld dJ iH mZ i7 fi st new idx i8 jr fB js iY lV gT nn call dV inv run fc iM join loop held ext jR eI mH mz mI IntKind.wrap
def nh.tk{w':World}{X:List Nat}{pb:Nat}{M:dU}{fb defb mb:Nat}{sl sn:Sl}{F1 F2:List Nat}{C:List (Int×kK)}{Q2:List Int}(h:nh w X pb db M fb defb mb sl sn F1 F2 C)(E:Q2.length=24)(G:w'.heap[pb]?=some (.cells (fH db M.j9 sl sn M.x6 M.Q3 fb defb mb Q2) re (0,0)))(f:Fr [pb] w w'):nh w' X pb db { M with Q2:=Q2 } fb defb mb sl sn F1 F2 C where
 cell:=G
 Q1:=h.Q1.q8 f fun b u=>by simpa using (h.sep.2.1 b u).1
 J7:=h.J7.q8 f fun b u=>by simpa using (h.sep.2.2 b u).1
 map:=h.map.q8 f (by simpa using fun e=>h.sep.1 e.symm)
 J8:=h.J8
 rows:=h.rows.q8 (f.mono fun i I _=>by rw[zE.1 I];simp) fun b u=>.inl u
 nQ:=fun b u=>yC (h.nQ b u) f.size
 l9:=h.l9
 sep:=h.sep
 Q8:=h.Q8
 x7:=E
def quK{j9:m7}{sl sn:Sl}{x6:Int}{Q3:Bool}{fb defb mb:Nat}{Q2:List Int}(I:j9.2.length=27)(U:Q2.length=24){t:Nat}(V:t<8){h C E:Int}: dN (fH db j9 sl sn x6 Q3 fb defb mb Q2) (36+3*t) [.u h,.u C,.u E]=fH db j9 sl sn x6 Q3 fb defb mb (Q2.take (3*t)++[h,C,E]++Q2.drop (3*t+3)):=by
 have G:Q2=Q2.take (3*t)++(Q2.drop (3*t)).take 3++Q2.drop (3*t+3):=by rw[zV,<- xC,xD,xD]
 have:=sX (A:=(.pointer db::eN j9.1 j9.2)++mD sl sn x6 Q3 fb defb mb++(Q2.take (3*t)).map (Value.int .u32)) (X:=((Q2.drop (3*t)).take 3).map (Value.int .u32)) (Y:=[.u h,.u C,.u E]) (Z:=(Q2.drop (3*t+3)).map (Value.int .u32)) (by rw[zK,yK,yB];show min 3 _=3;omega)
 have J:((.pointer db::eN j9.1 j9.2)++mD sl sn x6 Q3 fb defb mb++(Q2.take (3*t)).map (Value.int .u32)).length=36+3*t:=(by rw[zF,zF,rH I,zK,yK];show 29+7+_=_;omega);rw[J] at this;unfold fH;have R:Q2.map (Value.int .u32)=(Q2.take (3*t)).map (Value.int .u32)++((Q2.drop (3*t)).take 3).map (Value.int .u32)++(Q2.drop (3*t+3)).map (Value.int .u32):=(by rw[<- xM,<- xM,<- G]);rw[R];simp only[xM,xN,map_nil];simp only[zV] at this⊢;exact this
section
variable {w:World} {X:List Nat} {pb:Nat} {db:Option Addr} {F:List Nat} {M:dU}
def qse{t E G I:Int}{K:Int->WP}(h:en w X pb db F M)(hk:∀w',en w' X pb db F (eQ M t E G I).2->Fr F w w'->K (eQ M t E G I).1 w'): cW 131 [dB pb,.i t,.agg #[.u E,.u G,.u I]] df w K:=by
 have h0:=h;obtain⟨fb,defb,mb,sl,sn,F1,F2,fs,rfl,R⟩:=h;refine qg3 ?_;have J:∀ {e:Int} {w':World},eQ M t E G I=(e,M)->Fr [] w w'->K e w':=by
  intro e w' he hf
  have:=hk w' (by rw[he];exact h0.q7 hf) (hf.mono (fun b U=>by cases U))
  rw[he] at this;exact this
 refine oB (oE [] w) fun r w1 e1 f1 ho=>?_;have V:=R.q7 f1;refine fq (iG V.cell M.Q3 (xd R.Q8) ?_);refine dR (fun C=>J (by rw[eQ,if_pos C]) f1) (fun C=>?_);have aa:¬M.Q3=true:=(by rw[C];decide);refine gQ (fun b w'=>b=decide (t<0\/t>7)/\w'=w1) ?_ ?_;refine dR (fun C=>⟨by rw[zZ (Or.inl (zC C))],rfl⟩) (fun C=>?_)
 have:=zB C
 refine⟨decide_eq_decide.2 ⟨fun h=>.inr oJ,fun h=>oJ⟩,rfl⟩;rintro b w2 ⟨rfl,rfl⟩;refine dR (fun C=>J (by rw[eQ,if_neg aa,if_pos (zC C)]) f1) (fun C=>?_);have hr:=zB C;obtain⟨n,rfl⟩:∃n:Nat,t=n:=⟨t.toNat,oJ⟩;have ae:n<8:=oJ;have ab:eQ M n E G I=(0,{ M with Q2:=M.Q2.take (3*n)++[E,G,I]++M.Q2.drop (3*n+3) }):=(by rw[eQ,if_neg aa,if_neg hr,zJ]);have af:=ho.drew;have ac:=V.q7 (Fr.refl [] w2).drew;refine oC af 0 rfl (E,G,I) rfl<|fq<|pc oJ ?_;simp only[Addr.q9,zJ];refine qD ac.cell (fH db M.j9 sl sn M.x6 M.Q3 fb defb mb (M.Q2.take (3*n)++[E,G,I]++M.Q2.drop (3*n+3))) (by show dN _ (0+33+3+n*3) _=_;rw[show 0+33+3+n*3=36+3*n by omega];exact quK R.Q8 R.x7 ae) rfl (by rw[qtB R.Q8,R.x7];exact zL (show 0+33+3+n*3+3<=60 by omega) (zM 60)) fun w3 ag f3=>?_;have hl:(M.Q2.take (3*n)++[E,G,I]++M.Q2.drop (3*n+3)).length=24:=by
  have:=R.x7
  simp only[zF,yK,yB,yH,xJ];omega
 have:=hk w3 (by rw[ab];exact⟨fb,defb,mb,sl,sn,F1,F2,fs,rfl,ac.tk hl ag f3⟩) ((f1.drew.mono fun b U=>nomatch U).trans (f3.mono fun b U _=>by rw[zE.1 U];simp))
 rw[ab] at this;exact this
def dS (M:dU) (t:Int):Int×Int×Int:=if t<0\/t>7 then (0,0,0) else (M.Q2.getD (3*t.toNat) 0,M.Q2.getD (3*t.toNat+1) 0,M.Q2.getD (3*t.toNat+2) 0)
def qw1{t:Int}{K:Int×Int×Int->WP}(h:en w X pb db F M)(U:∀w',Fr [] w w'->K (dS M t) w'): cW 46 [dB pb,.i t] [.agg [.u,.u,.u]] w K:=by
 obtain⟨fb,defb,mb,sl,sn,F1,F2,fs,rfl,I⟩:=h;refine qjh<|oB (oE [] w) fun r w1 e1 f1 V=>?_;have J:=I.q7 f1;refine gQ (fun b w'=>b=decide (t<0\/t>7)/\w'=w1) ?_ ?_;refine dR (fun E=>⟨by rw[zZ (Or.inl (zC E))],rfl⟩) (fun E=>?_)
 have:=zB E
 refine⟨decide_eq_decide.2 ⟨fun h=>.inr oJ,fun h=>oJ⟩,rfl⟩;rintro b w2 ⟨rfl,rfl⟩;apply cD<;>intro E;refine oD V 0 rfl #[.u 0,.u 0,.u 0] fun R C f3=>oC C 0 rfl (0,0,0) rfl ?_
 have:=U R C.fr
 rw[dS,if_pos (E)] at this;exact this;have hr:=E;obtain⟨n,rfl⟩:∃n:Nat,t=n:=⟨t.toNat,oJ⟩;have ad:n<8:=oJ;have ae:=I.x7;refine fq<|pc oJ ?_;simp only[Addr.q9,zJ];have e3:((M.Q2.map (Value.int .u32)).drop (3*n)).take 3=[.u (M.Q2.getD (3*n) 0),.u (M.Q2.getD (3*n+1) 0),.u (M.Q2.getD (3*n+2) 0)]:=by rw[zX (by rw[zK];omega),zX (by rw[zK];omega),zX (by rw[zK];omega)];simp only[take_succ_cons,take_zero,getElem_map];rw[getElem_eq_getD 0,getElem_eq_getD 0,getElem_eq_getD 0]
 refine CV J.cell (M.Q2.getD (3*n) 0,M.Q2.getD (3*n+1) 0,M.Q2.getD (3*n+2) 0) ?_ ?_;have hd:=BM (db:=db) (j9:=M.j9) (sl:=sl) (sn:=sn) (x6:=M.x6) (Q3:=M.Q3) (fb:=fb) (defb:=defb) (mb:=mb) (Q2:=M.Q2) I.Q8 I.x7;have G:(fH db M.j9 sl sn M.x6 M.Q3 fb defb mb M.Q2).toList.drop 36=M.Q2.map (Value.int .u32):=by
  rw[<- hd,zS]
  have:=qtB (db:=db) (j9:=M.j9) (sl:=sl) (sn:=sn) (x6:=M.x6) (Q3:=M.Q3) (fb:=fb) (defb:=defb) (mb:=mb) (Q2:=M.Q2) I.Q8
  rw[yB,Array.length_toList];omega
 rw[show 0+33+3+n*3=36+3*n by omega,<- xC,G];exact e3;refine oD V 0 rfl #[.u (M.Q2.getD (3*n) 0),.u (M.Q2.getD (3*n+1) 0),.u (M.Q2.getD (3*n+2) 0)] fun R C f3=>oC C 0 rfl (M.Q2.getD (3*n) 0,M.Q2.getD (3*n+1) 0,M.Q2.getD (3*n+2) 0) rfl ?_
 have:=U R C.fr
 rw[dS,if_neg hr,zJ] at this;exact this
end
def qvi{dbk pb:Nat}{X FD F:List Nat}{D:dE}{M:dU}{k:Nat}{n:Int}{K:Int×Sl×Int->WP}(ac:eK w dbk FD D)(V:ls D k)(aa:en w X pb (ou dbk M) F M)(hv:Hv w)(hn:gy n)(hl:M.Q5.length<=1000000)(hb:∀e∈M.J8,e.2.2.length<=100000)(hk:∀s w',(∀G:List Nat,(∀b∈G,b<w.heap.size)->eE G w' s (dD D M n).2.1)->Fr [] w w'->K ((dD D M n).1,s,(dD D M n).2.2) w'): cW 117 [dB pb,.u n] dj w K:=by
 have ad:=aa;obtain⟨fb,defb,mb,sl,sn,F1,F2,fs,rfl,hx⟩:=aa;refine qjf ?_;have ae:∀ {a:Int} {e:Int} {w':World},dD D M n=(a,[],e)->Fr [] w w'->K (a,dC,e) w':=fun he f=>by
  have:=hk dC _ (fun G hG=>by rw[he];exact .nil _ _ _ _) f
  rw[he] at this;exact this
 refine fq (iG hx.cell M.Q3 (xd hx.Q8) ?_);refine dR (fun I=>ae (by rw[dD,if_pos I]) (.refl _ _)) (fun I=>?_);have J:¬M.Q3=true:=(by rw[I];decide);have ap:ou dbk M=pW dbk:=if_neg J;refine fq ?_;simp only[Addr.q9];refine iG hx.cell (some mb) (rK hx.Q8) ?_;have h:look n M.J8=(look n fs).map fun q=>(q.1,q.2.1,q.2.2.2):=(by rw[hx.J8];exact u9 (fun e:kK=>(e.1,e.2.2)) n fs);refine Bg hx.map.at (fun q hq=>?_) (fun hq=>?_);rw[hq] at h;have h:look n M.J8=some (q.1,q.2.1,q.2.2.2):=h;refine oB (oE [] w) fun r w1 e1 f1 ho=>oD ho 0 rfl #[.b q.2.1,q.2.2.1.v] fun w2 U f2=>?_;have R:=U.drew;refine cond_true rfl<|oA R 0 rfl q.2.1 rfl<|oA R 0 rfl q.2.2.1 rfl ?_;have ar:=(si hq).2;have au:=hx.rows.y7 _ ar;have ah:=(si h).2;refine wZ (au.q7 R.fr) (zL (hb _ ah) oM) fun s2 B2 w3 b2 f3 n2 _ _=>?_;have ai:=R.q7 f3;refine ia (ai.cell 0 rfl rfl) ?_;have C:dD D M n=(q.2.1,q.2.2.2,0):=by rw[dD,if_neg J,h]
 have:=hk s2 w3 (fun G hG=>by rw[C];exact eO.jq k8 b2 fun b hb hm=>by have:=n2 b hb;have:=hG b hm;have:=R.fr.size;omega) ai.fr
 rw[C] at this;exact this;rw[hq] at h;have h:look n M.J8=none:=h;refine oB (oE [] w) fun r w1 e1 f1 ho=>oD ho 0 rfl #[.b 0,.slice none 0 0] fun w2 U f2=>cond_false rfl<|qqz (ad.q7 U.fr) hl fun w3 f3=>?_;have E:=U.fr.trans f3;have aj:=hx.q7 E;apply dR<;>intro I;have hu:fY M n=false:=(oP I);exact ae (by rw[dD,if_neg J,h];exact if_pos hu) E;have hu:¬fY M n=false:=(oP I);rw[ap] at aj;refine fq (iG aj.cell (pW dbk) Cr ?_);rw[gc n (by have:=hn.1;have:=hn.2;omega)];refine BL (ac.q7 E) V.ok fun s5 B5 w5 b5 f5 n5=>?_;apply dR<;>intro I;have he:(ee D n).2≠0:=(oP I);exact ae (by rw[dD,if_neg J,h];exact (if_neg hu).trans (if_pos he)) (E.trans f5);have he:¬(ee D n).2≠0:=(oP I);have ax:=uD V.ok n;refine Ek (b5.jq k8 (S:=[]) oL) (hv.q7 (E.trans f5)) ax.1 oJ fun s6 B6 w6 b6 f6 n6=>?_;have C:dD D M n=eP n (ee D n).1:=by rw[dD,if_neg J,h];exact (if_neg hu).trans (if_neg he)
 have:=hk s6 w6 (fun G hG=>by rw[C];exact eO.jq k8 b6 fun b hb hm=>by have:=n6 b hb;have:=hG b hm;have:=(E.trans f5).size;omega) ((E.trans f5).trans f6)
 rw[C] at this;exact this
end
section
open Go Go.Pt List
open Go.IntKind (wrap)
def ls.new{n:Nat}(h:n<=4096):ls (mC n) 0:=⟨qyY h,by simp[mC],by simp[mC]⟩
def qL (n:Nat):List Int:=(fj n).take (eC (fj n).length)
def mT (n:Nat):List Int:=(fj n).drop (eC (fj n).length)
def jN (n:Nat):dU:=hU (jZ n) (qL n) (mT n) 1 false (mT n)
def qyV{n:Nat}(h:8<=n)(u:n<=4096):(jN n).Wf:=by have e:(jZ n).2.getD 0 0=n:=(by show wrap .u32 (n:Int)=_;exact nD _ oJ);exact Fy (by rw[e];exact qm7) (by rw[e];omega) (Eg h u).u32
structure Made (D:dE) (n:Nat):Prop where
 quiet:eJ D
 size:D.size=n
 Q7:D.Q7=[]
 opens:oh D (jZ n) (qL n) (mT n)
 fmt:lc (mC n)=(D,0)
 zero:view D 0=zs 512
end
section
open Go Go.Pt List
open Go.IntKind (wrap)
open Classical
variable {P:List Int} {t:Int}
def kb (t:Int) (s:(Int×Int)×dU) (u h:Int):Int×dU:=if s.1.2≠0 then (s.1.2,s.2) else eQ s.2 t s.1.1 u h
noncomputable def rj (k v:Nat) (t:Int) (r:Int×Int×Int) (x:(Grown×Int)×dU):Int×dU:=
 if x.1.2≠0 then (x.1.2,x.2)
 else if x.1.1.x4≠0 then kb t (dK k v x.2 0 ⟨false,[x.1.1.key],[],[x.1.1.x5,x.1.1.x4]⟩) (if x.1.1.J8 then wrap .u32 (r.2.1+1) else r.2.1) (wrap .u32 (r.2.2+1))
 else eQ x.2 t x.1.1.x5 (if x.1.1.J8 then wrap .u32 (r.2.1+1) else r.2.1) r.2.2
noncomputable def jo (D:dE) (k v:Nat) (t:Int) (key val:Key) (f:Nat) (M:dU):Int×dU:=
 if (dS M t).1=0 then kb t (dK k v M 0 (dY [(key,val)])) 1 1 else rj k v t (dS M t) (gM D k v key val f M (dS M t).1)
noncomputable def lT (k v:Nat) (t:Int) (r:Int×Int×Int) (x:(dG×Int)×dU):Int×dU:=
 if x.1.2≠0 then (x.1.2,x.2)
 else if x.1.1.Q4=true/\x.1.1.J6.length=0 then (if (e9 x.2 r.1).1≠0 then ((e9 x.2 r.1).1,(e9 x.2 r.1).2) else eQ (e9 x.2 r.1).2 t 0 0 0)
 else if x.1.1.Q4=false/\x.1.1.J9.length=1 then (if (e9 x.2 r.1).1≠0 then ((e9 x.2 r.1).1,(e9 x.2 r.1).2) else eQ (e9 x.2 r.1).2 t (x.1.1.J9.getD 0 0) (wrap .u32 (r.2.1-1)) (wrap .u32 (r.2.2-1)))
 else kb t (dK k v x.2 r.1 x.1.1) (wrap .u32 (r.2.1-1)) r.2.2
noncomputable def kD (D:dE) (k v:Nat) (t:Int) (key:Key) (f:Nat) (M:dU):Int×dU:=lT k v t (dS M t) (gS D k v key f M (dS M t).1)
def fK (D:dE) (M:dU) (k v:Nat) (t:Int) (L:fL) (P:List Int):Prop:=
 (dS M t=(0,0,0)/\L=[]/\P=[])\/∃h n p,p≠0/\dS M t=(p,(L.length:Int),((h+1:Nat):Int))/\Has D M k v h ⟨p,n,L,P⟩
structure mP (D:dE) (M M':dU) (t:Int) (P P':List Int):Prop where
 step:Step D M { M' with Q2:=M.Q2 } P P'
 wf:M'.Wf
 len:M'.Q2.length=24
 others:∀ t':Int,t'≠t->dS M' t'=dS M t'
section
variable {D:dE} {M M':dU} {k v:Nat}
def qxU{a b c:Int}(U:0<=t/\t<8)(G:M.Q3=false)(V:M.Q2.length=24):∃R,eQ M t a b c=(0,{ M with Q2:=R })/\R.length=24/\dS { M with Q2:=R } t=(a,b,c)/\(∀C:Int,C≠t->dS { M with Q2:=R } C=dS M C)/\∀x∈R,x∈M.Q2\/x=a\/x=b\/x=c:=by
 obtain⟨n,rfl⟩:∃n:Nat,t=n:=⟨t.toNat,oJ⟩;have hn:n<8:=oJ;have e:eQ M n a b c=(0,{ M with Q2:=M.Q2.take (3*n)++[a,b,c]++M.Q2.drop (3*n+3) }):=by rw[eQ,if_neg (by rw[G];decide),iN,zJ]
 have I:(M.Q2.take (3*n)).length=3*n:=(by rw[yK];omega);have h:∀i,(M.Q2.take (3*n)++[a,b,c]++M.Q2.drop (3*n+3)).getD i 0=if i=3*n then a else if i=3*n+1 then b else if i=3*n+2 then c else M.Q2.getD i 0:=fun i=>by rw[zV,yQ];by_cases h1:i<3*n;rw[yY oJ,xA,if_pos h1,iN,iN,iN,yQ];rw[yX oJ,I];by_cases h2:i=3*n;rw[if_pos h2,h2,Nat.sub_self];rfl;rw[if_neg h2];by_cases h3:i=3*n+1;rw[if_pos h3,h3,show 3*n+1-3*n=1 by omega];rfl;rw[if_neg h3];by_cases h4:i=3*n+2;rw[if_pos h4,h4,show 3*n+2-3*n=2 by omega];rfl;rw[if_neg h4,yX oO,yZ,yQ];congr 2;simp;omega
 refine⟨_,e,?_,?_,fun C E=>?_,fun x u=>?_⟩;simp only[zF,yK,yB,yH,xJ];omega;rw[dS,iN,zJ];dsimp only;rw[h,h,h,if_pos rfl,iN,if_pos rfl,iN,iN,if_pos rfl];unfold dS;by_cases hr':C<0\/C>7;rw[if_pos hr',if_pos hr'];rw[if_neg hr',if_neg hr'];dsimp only;have J:C.toNat≠n:=fun e=>E oJ;rw[h,h,h,iN,iN,iN,iN,iN,iN,iN,iN,iN];rcases zD.1 u with u|u;rcases zD.1 u with u|u;exact .inl (yU u);simp only[zG,xW,or_false] at u;exact .inr u;exact .inl (yT u)
def qr7{R:List Int}(h:M.Wf)(u:∀x∈R,gy x):({ M with Q2:=R }:dU).Wf:=⟨h.n4,h.u32,u,h.cL,h.Q9,h.cS,h.qd,h.nodup,h.range,h.body⟩
def Has.Q2{h:Nat}{s:gU}{R:List Int}(u:Has D M k v h s):Has D { M with Q2:=R } k v h s:=u.q8 fun x _=>rfl
def Step.J5{P':List Int}{a b c:Int}(E:0<=t/\t<8)(G:M.Q2.length=24)(h:Step D M M' P P')(I:gy a)(J:gy b)(U:gy c): ∃R,eQ M' t a b c=(0,{ M' with Q2:=R })/\mP D M { M' with Q2:=R } t P P'/\dS { M' with Q2:=R } t=(a,b,c):=by obtain⟨R,e,V,h1,h2,h3⟩:=qxU (a:=a) (b:=b) (c:=c) E h.Q3 (by rw[h.Q2];exact G);refine⟨R,e,⟨?_,qr7 h.wf fun x hx=>?_,V,fun t' C=>?_⟩,h1⟩;have e':({ M' with Q2:=M.Q2 }:dU)=M':=(by rw[<- h.Q2]);show Step D M { M' with Q2:=M.Q2 } P P';rw[e'];exact h;rcases h3 x hx with u|u|u|u;exact h.wf.Q2 x u;rw[u];exact I;rw[u];exact J;rw[u];exact U;rw[h2 t' C];unfold dS;rw[h.Q2]
def Has.counts:∀ {h:Nat} {s:gU},Has D M k v h s->h+1<=s.y3.length/\s.y4.length+1<=2*s.y3.length
 | 0,s,C=>by have I:=length_pos_iff.2 C.ne;rw[C.1];simp;omega
 | h+1,s,⟨E,h0,I,J,R,U,h5,h6,V⟩=>by
  have h8:=U.right.x9.1;rw[J,R];have key:∀l:List gC,(∀e∈l,Has D M k v h e.2)->l.length*(h+1)<=(l.flatMap (·.2.y3)).length/\(l.flatMap (·.2.y4)).length+l.length<=2*(l.flatMap (·.2.y3)).length:=by
   intro l;induction l with
   | nil=>intro _;exact⟨oL,oL⟩
   | cons a l ih=>
    intro G;have i:=ih fun e u=>G e (zN _ u);have j:=(G a oL).counts;rw[yG,yG,zF,zF,yH,xT];omega
  have:=key E fun e u=>(V e u).1
  have h9:2*(h+1)<=E.length*(h+1):=Nat.mul_le_mul_right _ h8;rw[yH];omega
def qv3(hc:gN k v){key val:Key}{L:fL}(ht:0<=t/\t<8)(hk:key.length=k/\eB key)(hv:val.length=v/\eB val)(hT:fK D M k v t L P)(hW:M.Wf)(ho:M.Q3=false)(hr:M.Q2.length=24)(hn:P.Nodup)(hL:L.length<=1000000)(hf:2*(dS M t).2.2.toNat+1<=M.Q1.length): ∃M' P',jo D k v t key val (dS M t).2.2.toNat M=(0,M')/\fK D M' k v t (fC key val L) P'/\mP D M M' t P P'/\M.Q1.length<=M'.Q1.length+(2*(dS M t).2.2.toNat+1):=by
 have a0:=AF (k:=k) (v:=v);rcases hT with ⟨e0,rfl,rfl⟩|⟨h,n,p,aL,er,hs⟩;unfold jo;rw[e0,if_pos rfl];have aM:lL k v [(key,val)]:=fun x hx=>by rw[zE.1 hx];exact⟨hk.1,hv.1,hk.2,hv.2⟩
 have hN:=A9 (k:=k) (v:=v) aM (pairwise_singleton _ _) oL (by have:=hc.Q4;simp;omega);obtain⟨q,M1,e1,st,ag,hl,ah⟩:=D0 (D:=D) hW ho hN (fun e=>by rw[e] at hf;simp at hf);have hu:=st.has q oL;have hq:=tG st.wf hu;obtain⟨R,e2,rs,C⟩:=st.J5 (a:=q) (b:=1) (c:=1) ht hr ⟨oJ,hq.2⟩ ⟨oM,oM⟩ ⟨oM,oM⟩;refine⟨{ M1 with Q2:=R },[q],?_,.inr ⟨0,1,q,ah,C,?_⟩,rs,by show M.Q1.length<=M1.Q1.length+_;omega⟩;unfold kb;rw[e1];dsimp only;rw[if_neg (fun h=>h rfl),e2]
 have:=zk hN ag
 exact this.Q2;rw[er] at hf;have ap:(((h+1:Nat):Int)).toNat=h+1:=zJ _;dsimp only at hf;rw[ap] at hf;have aq:=hs.counts;dsimp only at aq;obtain⟨g,M1,eg,ok⟩:=qtH hc hk hv h M ⟨p,n,L,P⟩ hs hW ho hn (by
  have h9:=hs.load;obtain⟨N,R,_,hN,_⟩:=h9;show n<=1000;cases h with
  | zero=>have:=hN.2.2.2.2.2;dsimp only at this;omega
  | succ h=>obtain⟨_,_,_,_,_,_,_,_,h8,_⟩:=hN;dsimp only at h8;omega) oJ
 have ar:=ok.Q1;have E:=ok.J8;dsimp only at eg E;have u:((fC key val L).length:Int)=if g.J8 then wrap .u32 ((L.length:Int)+1) else (L.length:Int):=by rw[E];by_cases hm:key∈dL L;rw[zU (fun h=>h hm),if_neg oM,BP hs.sort hm];rw[zZ hm,if_pos rfl,CK hm,nD _ oJ];omega
 have au:gy (if g.J8 then wrap .u32 ((L.length:Int)+1) else (L.length:Int)):=by
  rw[<- u];have h1:(fC key val L).length<=L.length+1:=by by_cases hm:key∈dL L;rw[BP (show eU L from hs.sort) hm];omega;rw[CK hm];exact zM _
  exact⟨oJ,oJ⟩
 unfold jo;rw[er,if_neg (show ¬p=0 from aL)];dsimp only;rw[ap,eg];unfold rj;dsimp only;rw[if_neg (fun h=>h rfl)];rcases ok.Cn with ⟨aj,n',P',hH,st,_⟩|⟨aj,n1,V,I,n2,J,G,aa,ab,av,aR,aT,aw,ax,aU,aV,st⟩;rw[if_neg (fun h=>h aj)];have hu:=hH.J4 st.Q3 g.x5 hH.mem;have hq:=tG st.wf hu;obtain⟨R,e2,rs,C⟩:=st.J5 (a:=g.x5) (b:=if g.J8 then wrap .u32 ((L.length:Int)+1) else (L.length:Int)) (c:=((h+1:Nat):Int)) ht hr ⟨oJ,hq.2⟩ au ⟨oJ,oJ⟩;rw[<- u] at C e2;refine⟨{ M1 with Q2:=R },P',?_,.inr ⟨h,n',g.x5,oJ,C,hH.Q2⟩,rs,by show M.Q1.length<=M1.Q1.length+_;omega⟩;rw[<- u];exact e2;rw[if_pos aj];have a6:=tG st.wf (aa.J4 st.Q3 g.x5 aa.mem);have a7:=tG st.wf (ab.J4 st.Q3 g.x4 ab.mem);have ay:V≠[]:=aa.ne;have az:J≠[]:=ab.ne;have af:fG [([],(⟨g.x5,n1,V,I⟩:gU)),(g.key,⟨g.x4,n2,J,G⟩)]:=
  (fG.vS (A:=[]) (B:=[]) (lo:=[]) (s:=⟨0,0,V++J,[]⟩) (s1:=⟨g.x5,n1,V,I⟩) (s2:=⟨g.x4,n2,J,G⟩) (m:=g.key) (Ea fun x _=>AP _) rfl aR aT ay az)
 have hp:∀e∈[([],(⟨g.x5,n1,V,I⟩:gU)),(g.key,⟨g.x4,n2,J,G⟩)],Has D M1 k v h e.2/\minOf k v h<=e.2.size:=fun e U=>by simp only[zG,xW,or_false] at U;rcases U with rfl|rfl;exact⟨aa,aU⟩;exact⟨ab,aV⟩
 have aW:gj k [([],(⟨g.x5,n1,V,I⟩:gU)),(g.key,⟨g.x4,n2,J,G⟩)]:=fun e U=>by rw[zE.1 (show e∈[(g.key,(⟨g.x4,n2,J,G⟩:gU))] from U)];exact⟨aw,ax⟩
 have hN:=xk st.wf st.Q3 aW af oL (by have:=hc.inner;simp;omega) fun e U=>(hp e U).1;obtain⟨q,M2,e1,ac,ag,a8,ah⟩:=D0 (D:=D) st.wf st.Q3 hN (fun e=>by rw[e] at ar;simp at ar;omega);have aB:∀e∈[([],(⟨g.x5,n1,V,I⟩:gU)),(g.key,⟨g.x4,n2,J,G⟩)],Has D M2 k v h e.2/\minOf k v h<=e.2.size:=fun e U=>
  ⟨(hp e U).1.q8 fun x hx=>(ac.rest x ((hp e U).1.J4 st.Q3 x hx) oL).1,(hp e U).2⟩
 have hI:=wy (h:=h) rfl hN ag af aB;have aC:Step D M1 M2 (I++G) (q::(I++G)):=by
  have:=ac.beside (Z:=I++G) st.has (oP st.nodup)
  exact this.perm oL perm_append_comm
 have aD:=st.trans aC;have hq:=tG ac.wf (ac.has q oL);obtain⟨R,e2,rs,C⟩:=aD.J5 (a:=q) (b:=if g.J8 then wrap .u32 ((L.length:Int)+1) else (L.length:Int)) (c:=((h+1+1:Nat):Int)) ht hr ⟨oJ,hq.2⟩ au ⟨oJ,oJ⟩;have e3:dK k v M1 0 ⟨false,[g.key],[],[g.x5,g.x4]⟩=((q,0),M2):=e1;have aX:wrap .u32 ((((h+1:Nat):Int))+1)=((h+1+1:Nat):Int):=(by rw[nD _ oJ];omega);rw[<- u] at C e2;refine⟨{ M2 with Q2:=R },q::(I++G),?_,.inr ⟨h+1,2,q,ah,C,?_⟩,rs,by show M.Q1.length<=M2.Q1.length+_;omega⟩;unfold kb;rw[e3,aX,<- u];dsimp only;rw[if_neg (fun h=>h rfl),e2];have h9:=hI.Q2 (R:=R);have e5:[([],(⟨g.x5,n1,V,I⟩:gU)),(g.key,⟨g.x4,n2,J,G⟩)].flatMap (·.2.y3)=fC key val L:=(by rw[<- av];simp);have e6:[([],(⟨g.x5,n1,V,I⟩:gU)),(g.key,⟨g.x4,n2,J,G⟩)].flatMap (·.2.y4)=I++G:=oL;rw[e5,e6] at h9;exact h9
def qwz(hc:gN k v){key:Key}{L:fL}(ht:0<=t/\t<8)(hT:fK D M k v t L P)(I:key∈dL L)(hW:M.Wf)(ho:M.Q3=false)(hr:M.Q2.length=24)(hn:P.Nodup)(hL:L.length<=1000000)(hf:2*(dS M t).2.2.toNat+1<=M.Q1.length): ∃M' P',kD D k v t key (dS M t).2.2.toNat M=(0,M')/\fK D M' k v t (gb key L) P'/\mP D M M' t P P'/\M.Q1.length<=M'.Q1.length+(2*(dS M t).2.2.toNat+1):=by
 rcases hT with ⟨e0,rfl,rfl⟩|⟨h,n,p,a1,er,hs⟩;cases I;rw[er] at hf;have aq:(((h+1:Nat):Int)).toNat=h+1:=zJ _;dsimp only at hf;rw[aq] at hf;have ar:=hs.counts;dsimp only at ar;obtain⟨N,m,M1,R,R',ec,hP,hN,st,aH,a2⟩:=Du hc h M ⟨p,n,L,P⟩ hs hW ho hn I oJ;dsimp only at ec hP;subst hP;have G:=hs.sort;dsimp only at G;have aV:(gb key L).length+1=L.length:=by
  have hm:=(vv G).2 I;have hi:dI (dL L) key<L.length:=by
   have:=(zP.1 hm).1
   simpa using this
  rw[qmX G I,zF,yK,yB];omega
 have aI:wrap .u32 ((L.length:Int)-1)=((gb key L).length:Int):=(by rw[nD _ oJ];omega);have aj:gy ((gb key L).length:Int):=⟨oJ,oJ⟩;have ak:dP M p:=hs.J4 ho p oL;have au:p∉R:=(nodup_cons.1 hn).1;have J:=(st.rest p ak au).2.1;have U:=(st.rest p ak au).2.2;have al:Step D M M1 (p::R) (p::R'):=st.beside (Z:=[p]) (fun x hx=>by rw[zE.1 hx];exact ak) (oP hn);unfold kD;rw[er];dsimp only;rw[aq,ec];unfold lT;dsimp only;rw[if_neg (fun h=>h rfl),aI];have ag:∀ {a b c:Int},gy a->gy b->gy c->∃u V,e9 M1 p=(0,u)/\eQ u t a b c=(0,{ u with Q2:=V })/\mP D M { u with Q2:=V } t (p::R) R'/\dS { u with Q2:=V } t=(a,b,c)/\M1.Q1.length<=u.Q1.length/\∀x∈R',dD D u x=dD D M1 x:=fun ha hb aJ=>by
  obtain⟨u,e2,C,aa⟩:=qo6 (D:=D) st.wf st.Q3 J;have h9:=C.beside (Z:=R') (fun x hx=>st.has x hx) (by
   have:=al.nodup
   exact (perm_append_singleton p R').nodup_iff.2 this)
  rw[xG] at h9;have h8:=(al.perm (.refl _) (perm_append_singleton p R').symm).trans h9;obtain⟨V,e3,rs,E⟩:=h8.J5 (t:=t) ht hr ha hb aJ;exact⟨u,V,e2,e3,rs,E,aa,fun x hx=>(C.rest x (st.has x hx) (fun hm=>U (by rw[<- zE.1 hm];exact hx))).1⟩
 cases h with
 | zero=>
  have am:=hN;have aK:R=[]:=(vB (show p::R=[p] from hs.1)).2;subst aK;obtain⟨rfl,hm,rfl,a6,aL,av⟩:=hN;dsimp only at hm;have ab:(dY (gb key L)).J6.length=(gb key L).length:=zK _;by_cases hz:(gb key L).length=0;rw[if_pos ⟨rfl,by rw[ab];exact hz⟩];have aw:gb key L=[]:=eq_nil_of_length_eq_zero hz;obtain⟨u,V,e2,e3,rs,E,aa,_⟩:=ag (a:=0) (b:=0) (c:=0) ⟨oM,oM⟩ ⟨oM,oM⟩ ⟨oM,oM⟩;rw[e2];dsimp only;rw[if_neg (fun h=>h rfl),e3];exact⟨_,[],rfl,.inl ⟨E,aw,rfl⟩,rs,by show M.Q1.length<=u.Q1.length+_;omega⟩;rw[if_neg (fun h=>hz (by rw[<- ab];exact h.2)),if_neg (fun h=>nomatch h.1)];obtain⟨q,u,e2,C,H2,aa⟩:=am.store st.wf st.Q3 (show 1<=m by omega) J U oJ;have an:Step D M u [p] [q]:=al.trans C;have hq:=tG C.wf (C.has q oL);obtain⟨V,e3,rs,E⟩:=an.J5 (a:=q) (b:=((gb key L).length:Int)) (c:=((0+1:Nat):Int)) ht hr ⟨oJ,hq.2⟩ aj ⟨oM,oM⟩;refine⟨{ u with Q2:=V },[q],?_,.inr ⟨0,m,q,oJ,E,H2.Q2⟩,rs,by show M.Q1.length<=u.Q1.length+_;omega⟩;unfold kb;rw[e2];dsimp only;rw[if_neg (fun h=>h rfl),e3]
 | succ h=>
  have am:=hN;obtain⟨es,hh,rfl,hm,aN,rfl,hk,aL,av,hp⟩:=hN;have ab:(dH es).J9.length=es.length:=(by show (es.map _).length=_;rw[zK]);have aX:2<=n:=by
   obtain⟨a8,_,g1,_,_,g4,_⟩:=hs
   have:=g4.right.x9
   dsimp only at g1;omega
  dsimp only at aH;rw[if_neg (fun h=>nomatch h.1)];by_cases h1:es.length=1;rw[if_pos ⟨rfl,by rw[ab];exact h1⟩];obtain⟨e,rfl⟩:∃e,es=[e]:=by
   match es,h1 with
   | [e],_=>exact⟨e,rfl⟩
  have ay:(dH [e]).J9.getD 0 0=e.2.x5:=rfl;rw[ay];have he:=(hp e oL).1;have hq:=tG st.wf (he.J4 st.Q3 e.2.x5 he.mem);have aP:wrap .u32 ((((h+1+1:Nat):Int))-1)=((h+1:Nat):Int):=(by rw[nD _ oJ];omega);rw[aP];obtain⟨u,V,e2,e3,rs,E,aa,aQ⟩:=ag (a:=e.2.x5) (b:=((gb key L).length:Int)) (c:=((h+1:Nat):Int)) ⟨oJ,hq.2⟩ aj ⟨oJ,oJ⟩;rw[e2];dsimp only;rw[if_neg (fun h=>h rfl),e3];have az:gb key L=e.2.y3:=(by rw[aN];simp);have aA:[e].flatMap (·.2.y4)=e.2.y4:=oL;refine⟨_,_,rfl,.inr ⟨h,e.2.size,e.2.x5,oJ,E,?_⟩,rs,by show M.Q1.length<=u.Q1.length+_;omega⟩;rw[az,aA];exact (he.q8 fun x hx=>aQ x (by rw[aA];exact hx)).Q2;rw[if_neg (fun h=>h1 (by rw[<- ab];exact h.2))];have h2:2<=m:=oJ;obtain⟨q,u,e2,C,H2,aa⟩:=am.store st.wf st.Q3 (show 2<=m from h2) J U oJ;have an:Step D M u (p::R) ([q]++es.flatMap (·.2.y4)):=Step.kid (Q:=[q]) (hs.J4 ho) hn st C;have hq:=tG C.wf (C.has q oL);obtain⟨V,e3,rs,E⟩:=an.J5 (a:=q) (b:=((gb key L).length:Int)) (c:=((h+1+1:Nat):Int)) ht hr ⟨oJ,hq.2⟩ aj ⟨oJ,oJ⟩;refine⟨{ u with Q2:=V },[q]++es.flatMap (·.2.y4),?_,.inr ⟨h+1,m,q,oJ,E,H2.Q2⟩,rs,by show M.Q1.length<=u.Q1.length+_;omega⟩;unfold kb;rw[e2];dsimp only;rw[if_neg (fun h=>h rfl),e3]
end
section
def qnY{D:dE}{M:dU}{k v:Nat}{L:fL}(C:fK D M k v t L P):(dS M t).2.2.toNat<=L.length/\P.length<=2*L.length/\(dS M t).2.1=L.length/\0<=(dS M t).2.2:=by
 rcases C with ⟨u,rfl,rfl⟩|⟨h,n,p,G,u,E⟩;rw[u];exact⟨zM _,zM _,rfl,Int.le_refl _⟩
 have:=E.counts
 dsimp only at this;rw[u];dsimp only;rw[zJ];omega
def fK.sort{D:dE}{M:dU}{k v:Nat}{t:Int}{L:fL}{P:List Int}(C:fK D M k v t L P):eU L/\lL k v L:=by rcases C with ⟨_,rfl,_⟩|⟨h,n,p,G,I,u⟩;exact⟨.nil,fun x E=>nomatch E⟩;exact⟨u.sort,u.vc⟩
def qzc(h:zi t):∃k v:Nat,qS t=((k:Int),(v:Int))/\gN k v/\1<=k/\k<=24/\1<=v/\v<=108:=by obtain⟨u,C⟩:=h;have:t=0\/t=1\/t=2\/t=3\/t=4\/t=5\/t=6\/t=7:=oJ;rcases this with rfl|rfl|rfl|rfl|rfl|rfl|rfl|rfl;exact⟨16,88,rfl,⟨oM,oM⟩,oM,oM,oM,oM⟩;exact⟨16,108,rfl,⟨oM,oM⟩,oM,oM,oM,oM⟩;exact⟨16,1,rfl,⟨oM,oM⟩,oM,oM,oM,oM⟩;exact⟨16,16,rfl,⟨oM,oM⟩,oM,oM,oM,oM⟩;exact⟨24,16,rfl,⟨oM,oM⟩,oM,oM,oM,oM⟩;exact⟨24,16,rfl,⟨oM,oM⟩,oM,oM,oM,oM⟩;exact⟨24,65,rfl,⟨oM,oM⟩,oM,oM,oM,oM⟩;exact⟨1,8,rfl,⟨oM,oM⟩,oM,oM,oM,oM⟩
structure wo (D:dE) (M:dU) (k v c:Nat) (t:Int) (L:fL) (P:List Int):Prop where
 J2:fK D M k v t L P
 wf:M.Wf
 Q3:M.Q3=false
 len:M.Q2.length=24
 nodup:P.Nodup
 Q9:M.z9
 many:M.Q9.length=c
 use:∀ x,dP M x->x∈P
section
variable {D:dE} {M M':dU} {k v c:Nat} {t:Int} {L L':fL} {P P':List Int}
end
def qpU{D:dE}{n k v:Nat}(ht:0<=t/\t<8)(h8:8<=n)(h4:n<=4096)(R:(jN n).Wf):wo D (jN n) k v ((n-2)-eC (n-2)) t [] []:=by
 have I:(jN n).Q2=zs 24:=rfl;have u:(zs 24).length=24:=(by simp[zs]);have E:∀i,(zs 24).getD i 0=0:=fun i=>by rw[yQ];unfold zs;rw[List.getElem?_replicate];split<;>rfl
 refine⟨.inl ⟨?_,rfl,rfl⟩,R,rfl,by rw[I];exact u,.nil,qlh _ _ _ _ _,?_,fun x C=>?_⟩;unfold dS;split;rfl;rw[I,E,E,E];show (mT n).length=_;unfold mT;rw[yB,wQ];rcases C with C|C;cases C;obtain⟨U,J,V,G,h5,_⟩:=qW.1 C;have e:(jN n).j9.2.getD 0 0=n:=(by show wrap .u32 (n:Int)=_;exact nD _ oJ);rw[e] at J;have h:=xa.2 ⟨U,J⟩;rw[<- xD (eC (fj n).length) (fj n)] at h;rcases zD.1 h with h|h;exact absurd h V;exact absurd h G
end
section
section
variable {D:dE} {M M':dU} {k v c:Nat} {t:Int} {L L':fL} {P P':List Int}
def Has.qs(J:4<=(dQ k v).1):∀ {h:Nat} {s:gU},Has D M k v h s->minOf k v h<=s.size->s.y4.length+1<=s.y3.length
 | 0,s,E,G=>by have I:(dQ k v).1 / 2<=s.size:=G;rw[E.2.1] at I;rw[E.1,xL];omega
 | h+1,s,⟨R,h0,I,U,V,u,h5,h6,h7⟩,G=>by
  have h8:=u.right.x9.1;rw[U,V];have key:∀l:List gC,(∀e∈l,Has D M k v h e.2/\minOf k v h<=e.2.size)->(l.flatMap (·.2.y4)).length+l.length<=(l.flatMap (·.2.y3)).length:=by
   intro l;induction l with
   | nil=>intro _;simp
   | cons a l ih=>
    intro C;have i:=ih fun e he=>C e (zN _ he);have j:=Has.qs J (C a oL).1 (C a oL).2;rw[yG,yG,zF,zF,yH];omega
  have:=key R h7
  rw[yH];omega
def Has.cQ(G:4<=(dQ k v).1){h:Nat}{s:gU}(u:Has D M k v h s):s.y4.length<=s.y3.length:=by
 cases h with
 | zero=>
  have:=length_pos_iff.2 u.ne
  rw[u.1,xL];omega
 | succ h=>
  obtain⟨I,h0,h1,J,R,C,h5,h6,U⟩:=u;have h8:=C.right.x9.1;rw[J,R];have key:∀l:List gC,(∀e∈l,Has D M k v h e.2/\minOf k v h<=e.2.size)->(l.flatMap (·.2.y4)).length+l.length<=(l.flatMap (·.2.y3)).length:=by
   intro l;induction l with
   | nil=>intro _;simp
   | cons a l ih=>
    intro E;have i:=ih fun e V=>E e (zN _ V);have j:=Has.qs G (E a oL).1 (E a oL).2;rw[yG,yG,zF,zF,yH];omega
  have:=key I U
  rw[yH];omega
def fK.cQ(u:4<=(dQ k v).1)(C:fK D M k v t L P):P.length<=L.length:=by rcases C with ⟨E,rfl,rfl⟩|⟨h,n,p,I,E,G⟩;exact zM _;exact G.cQ u
end
end
section
section
variable {D D':dE} {M M':dU} {k v:Nat} {t:Int} {L:fL} {P:List Int}
def Has.cC:∀ {h:Nat} {s:gU},Has D M k v h s->(∀x∈s.y4,dD D' M' x=dD D M x)->Has D' M' k v h s
 | 0,s,⟨C,G,u,I⟩,E=>⟨C,G,u,by rw[E s.x5 (by rw[C];simp)];exact I⟩
 | h+1,s,⟨U,V,C,G,u,I,h5,h6,R⟩,E=>⟨U,V,C,G,u,I,by rw[E s.x5 (by rw[u];simp)];exact h5,h6,fun e J=>⟨(R e J).1.cC fun x hx=>E x (by rw[u];exact zN _ (yJ.2 ⟨e,J,hx⟩)),(R e J).2⟩⟩
structure Calm (D:dE) (M:dU) (b q:Nat):Prop where
 quiet:eJ D
 Q7:D.Q7=[]
 size:D.size=b
 blocks:M.j9.2.getD 0 0=b
 b8:8<=b
 wf:M.Wf
 Q9:M.z9
 Q3:M.Q3=false
 len:M.Q2.length=24
 seq:0<=M.j9.1/\M.j9.1<=q
 x6:0<=M.x6/\M.x6<=q
structure Kept (D:dE) (M:dU) (D':dE) (M':dU):Prop where
 Q2:M'.Q2=M.Q2
 use:∀ x,dP M' x↔dP M x
 read:∀ x,dP M x->dD D' M' x=dD D M x
def fK.kept(h:fK D M k v t L P)(E:M.Q3=false)(u:Kept D M D' M'):fK D' M' k v t L P:=by have e:dS M' t=dS M t:=(by unfold dS;rw[u.Q2]);rcases h with ⟨G,I,J⟩|⟨h,n,p,R,U,C⟩;exact .inl ⟨e.trans G,I,J⟩;exact .inr ⟨h,n,p,R,e.trans U,C.cC fun x V=>u.read x (C.J4 E x V)⟩
def Calm.count{b q:Nat}(h:Calm D M b q)(E:∀x,dP M x->x∈P):b-2<=M.Q1.length+(M.J7.length+M.Q5.length)+P.length:=by
 have:(fj b).length<=(M.Q1++(M.J7++(M.Q5++P))).length:=by refine List.Nodup.length_le_of_subset (vG (Bj b)) fun x C=>?_;have C:=xa.1 C;by_cases hm:x∈M.all;simp only[dU.all,zD] at hm⊢;rcases hm with u|u|u|u;exact .inl u;exact .inr (.inl u);exact .inr (.inr (.inl u));exact .inr (.inr (.inr (E x (.inl u))));simp only[zD];exact .inr (.inr (.inr (E x (.inr (vo.2 ⟨by rw[h.blocks];exact C,hm⟩)))))
 rw[wQ,zF,zF,zF] at this;omega
def qno{a b:Nat}(h:a<=b):eC a<=eC b:=by unfold eC;split;exact yW _;rw[iN];have:(a-1) / 124<=(b-1) / 124:=Nat.div_le_div_right oJ;omega
def qqO{b q:Nat}(h:Calm D M b q)(hq:q<=1000000)(hu:∀x,dP M x->x∈P)(hf:eC b<=M.Q1.length): ∃D' M',gw D M=((D',M'),0)/\Calm D' M' b (q+1)/\Kept D M D' M'/\(M'=M\/b-2<=M'.Q9.length+P.length+eC b):=by
 have aa:M.Q1.length+(M.J7++M.Q5).length<=b:=by
  have:(M.Q1++(M.J7++M.Q5)).length<=(fj b).length:=by
   refine List.Nodup.length_le_of_subset ?_ fun x hx=>?_;have hn:=h.wf.nodup;refine hn.sublist ((List.Sublist.refl _).append ?_);rw[<- zV];exact sublist_append_left _ _
   have:=h.wf.range x (by simp only[zD] at hx⊢;rcases hx with I|I|I;exact .inl I;exact .inr (.inl I);exact .inr (.inr (.inl I)))
   rw[h.blocks] at this;exact xa.2 this
  rw[wQ,zF] at this;omega
 have hk:=qno aa;have ai:=h.count hu;unfold gw;rw[if_neg (by rw[h.Q3];decide)];split;exact⟨D,M,rfl,⟨h.quiet,h.Q7,h.size,h.blocks,h.b8,h.wf,h.Q9,h.Q3,h.len,by have:=h.seq;omega,by have:=h.x6;omega⟩,⟨rfl,fun _=>.rfl,fun _ _=>rfl⟩,.inl rfl⟩;cases G:jm M with
 | none=>
  unfold jm at G;rw[iN] at G;cases G
 | some y=>
  obtain⟨y4,Q9⟩:=y;dsimp only;have ab:=h.seq;have V:=qxI (y4:=y4) (Q9:=Q9) h.wf G h.len ⟨ab.1,oJ⟩;have U:M.j9.2.getD 0 0=D.size:=(by rw[h.blocks,h.size]);have J:=h.quiet.tO h.wf U (by have:=h.size;have:=h.b8;omega) G V.1;rw[if_neg (by rw[J.1];simp)];have hv:=qsu (qs4 h.Q7) h.quiet.down h.wf G V.1 J.1;have ad:=J.2.1;have hz:=J.2.2;clear J;generalize (gz D M.J8 y4 Q9 (fI M y4 Q9)).1=D' at hv ad hz⊢;have C:∀x,x∈(hU (fI M y4 Q9) y4 Q9 (M.x6+1) false Q9).all↔x∈M.Q1\/x∈M.J7\/x∈M.Q5:=fun x=>by rw[<- Dp G x];show x∈Q9++([]++(y4++[]))↔_;simp only[xH,xG,zD];exact Or.comm
  have ae:∀x,fY (hU (fI M y4 Q9) y4 Q9 (M.x6+1) false Q9) x=true↔dP M x:=fun x=>by
   rw[vo,C];show (2<=x/\x<M.j9.2.getD 0 0)/\_↔_;unfold dP;rw[vo];constructor;rintro⟨I,h2⟩;by_cases hm:x∈M.J8.map (·.1);exact .inl hm;refine .inr ⟨I,fun u=>?_⟩;simp only[dU.all,zD] at u;rcases u with u|u|u|u;exact h2 (.inl u);exact h2 (.inr (.inl u));exact h2 (.inr (.inr u));exact hm u;rintro (I|⟨I,h2⟩);refine⟨h.wf.J6 x I,fun u=>?_⟩
   have:=qnE h.wf G x I
   rcases (Dp G x).2 u with h3|h3;exact this.1 h3;exact this.2 h3;refine⟨I,fun u=>h2 ?_⟩;simp only[dU.all,zD];rcases u with u|u|u;exact .inl u;exact .inr (.inl u);exact .inr (.inr (.inl u))
  refine⟨D',hU (fI M y4 Q9) y4 Q9 (M.x6+1) false Q9,rfl,⟨ad,hv.Q7,hz.trans h.size,h.blocks,h.b8,qtC h.wf G rfl (E4 h.wf G),qlh _ _ _ _ _,rfl,h.len,?_,?_⟩,⟨rfl,fun x=>?_,fun x hx=>?_⟩,.inr ?_⟩;show 0<=(fI M y4 Q9).1/\(fI M y4 Q9).1<=_;rw[V.2];omega;show 0<=M.x6+1/\M.x6+1<=_
  have:=h.x6
  omega;rw[<- ae x];exact⟨fun h=>h.resolve_left (by simp[hU]),.inr⟩;have ag:=(ae x).2 hx;have al:=(vo.1 ag).1;have R:=(vo.1 ag).2;have E:2<=x/\x<M.j9.2.getD 0 0:=al;rw[U] at E;rw[qpM rfl hv.down ⟨E.1,by rw[hz];exact E.2⟩ (by rw[hz];exact U) R];by_cases hm:x∈M.J8.map (·.1);obtain⟨e,he,rfl⟩:=mem_map.1 hm;rw[quS h.Q3 h.wf he,qsv h.wf hv.J8 he];have am:x∉y4:=fun an=>R ((C x).2 ((Dp G x).1 (.inl an)));rw[hv.rest x oJ hm am oJ,qpM h.Q3 h.quiet.down E U fun u=>?_];simp only[dU.all,zD] at u;rcases u with u|u|u|u;exact R ((C x).2 (.inl u));exact R ((C x).2 (.inr (.inl u)));exact R ((C x).2 (.inr (.inr u)));exact hm u;show b-2<=Q9.length+P.length+eC b;obtain⟨k,ar,au,_,e⟩:=CD G;have av:Q9.length=(M.J7.length+M.Q5.length)+(M.Q1.length-k):=by rw[e,(DE (yL.1 (h.wf.pi k)).2.1).length_eq,zF,zF,yB]
  omega
end
end
end
section
open Go Go.Pt List
open Go.IntKind (wrap)
attribute [local irreducible] ld dJ iH mZ i7 fi st new idx i8 jr fB js iY lV gT nn call dV inv run fc iM join loop held ext jR eI mH mz mI IntKind.wrap
variable {F':List Nat} {K:Int->WP} {body:List Int}
structure TW (dbk pb:Nat) (FD:List Nat) (D:dE) (j:Nat) (w:World) (Y F:List Nat) (M:dU):Prop where
 cN:eK w dbk FD D
 lim:ls D j
 x8:en w (FD++HG::Y) pb (ou dbk M) F M
 hv:Hv w
 wf:M.Wf
 sep:∀ b∈Y,b∉FD/\b≠HG
abbrev Zo (FD Y F:List Nat):List Nat:=(FD++HG::Y)++F
section
variable {dbk pb j:Nat} {FD Y Y' F:List Nat} {D:dE} {w w':World} {M:dU}
def TW.q7(h:TW dbk pb FD D j w Y F M)(f:Fr [] w w'):TW dbk pb FD D j w' Y F M:=⟨h.cN.q7 f,h.lim,h.x8.q7 f,h.hv.q7 f,h.wf,h.sep⟩
def TW.pX(h:TW dbk pb FD D j w Y F M):∀b∈Y,b<w.heap.size:=fun b u=>h.x8.nQ b (by simp[u])
def TW.uu(h:TW dbk pb FD D j w Y F M):∀b∈Zo FD Y F,b<w.heap.size:=fun b u=>(zD.1 u).elim (h.x8.nQ b) (h.x8.lt b)
def TW.yf(h:TW dbk pb FD D j w Y F M):∀b∈Y,b∉F:=fun b u=>h.x8.sep b (by simp[u])
def TW.cM(h:TW dbk pb FD D j w Y F M)(f:Fr Y w w')(J:∀b∈Y',b<w'.heap.size)(G:∀b∈Y',b∈Y\/w.heap.size<=b):TW dbk pb FD D j w' Y' F M where
 cN:=h.cN.q8 f fun b u E=>(h.sep b E).1 u
 lim:=h.lim
 x8:=h.x8.og (f.mono fun b u _=>by simp[u]) (fun b u=>by
  rcases zD.1 u with u|u;exact yC (h.cN.lt b u) f.size;rcases zG.1 u with rfl|u;exact yC h.hv.lt f.size;exact J b u) fun b u=>by
  rcases zD.1 u with u|u;exact .inl (zH _ u);rcases zG.1 u with rfl|u;exact .inl oL;rcases G b u with C|C;exact .inl (by simp[C]);exact .inr C
 hv:=h.hv.q8 f fun E=>(h.sep _ E).2 rfl
 wf:=h.wf
 sep:=fun b u=>by rcases G b u with C|C;exact h.sep b C;exact⟨fun I=>by have:=h.cN.lt b I;omega,fun I=>by have:=h.hv.lt;omega⟩
def TW.y0(h:TW dbk pb FD D j w Y F M)(C:∀b∈Y',b∈Y):TW dbk pb FD D j w Y' F M:=h.cM (.refl _ _) (fun b u=>h.pX b (C b u)) fun b u=>.inl (C b u)
def TW.As{B:List Nat}{w0:World}(h:TW dbk pb FD D j w0 Y F M)(f:Fr Y w0 w)(C:∀b∈B,w0.heap.size<=b/\b<w.heap.size):TW dbk pb FD D j w (B++Y) F M:=
 h.cM f (fun b u=>(zD.1 u).elim (fun u=>(C b u).2) fun u=>yC (h.pX b u) f.size) fun b u=>(zD.1 u).elim (fun u=>.inr (C b u).1) .inl
def qwe(M:dU)(kd:Int)(b:List Int):(fU M kd b).2.Q3=M.Q3:=by unfold fU;split;rfl;split;rfl;split<;>rfl
def qxN(M:dU)(n kd:Int)(b:List Int):(i6 M n kd b).2.Q3=M.Q3:=by unfold i6;split;rfl;split;rfl;split<;>rfl
def qvG(M:dU)(n:Int):(e9 M n).2.Q3=M.Q3:=by unfold e9;split;rfl;split;rfl;split<;>rfl
def qwC(M:dU)(t a b c:Int):(eQ M t a b c).2.Q3=M.Q3:=by unfold eQ;split;rfl;split<;>rfl
def qvD{M M':dU}(h:M'.Q3=M.Q3):ou dbk M'=ou dbk M:=by unfold ou;rw[h]
def TW.next{M':dU}(h:TW dbk pb FD D j w Y F M)(u:M'.Q3=M.Q3)(C:M'.Wf)(E:en w' (FD++HG::Y) pb (ou dbk M) F' M')(f:Fr F w w'):TW dbk pb FD D j w' Y F' M' where
 cN:=h.cN.q8 f fun b G=>h.x8.sep b (zH _ G)
 lim:=h.lim
 x8:=by rw[qvD u];exact E
 hv:=h.hv.q8 f (h.x8.sep HG oL)
 wf:=C
 sep:=h.sep
def TW.make{kind:Int}{s:Sl}{K:Int×Int->WP}(h:TW dbk pb FD D j w Y F M)(C:eE (Zo FD Y F) w s body)(E:body.length<=100000)(G:0<=kind/\kind<256)(I:eB body)(J:∀F' w',TW dbk pb FD D j w' Y F' (fU M kind body).2->Fr F w w'->(∀b∈F',b∈F\/w.heap.size<=b)->K (fU M kind body).1 w'): cW 164 [dB pb,.b kind,s.v] dl w K:=
 qwY h.x8 C E (by have:=h.wf.all;omega) fun F' w' R f U=>J F' w' (h.next (qwe M kind body) (qtv h.wf G I).1 R f) f U
def TW.put{n kind:Int}{s:Sl}(h:TW dbk pb FD D j w Y F M)(C:eE (Zo FD Y F) w s body)(E:body.length<=100000)(G:0<=kind/\kind<256)(I:eB body)(J:∀w',TW dbk pb FD D j w' Y F (i6 M n kind body).2->Fr F w w'->K (i6 M n kind body).1 w'): cW 163 [dB pb,.u n,.b kind,s.v] df w K:=
 qyo h.x8 C E fun w' R f=>J w' (h.next (qxN M n kind body) (qwt h.wf G I).1 R f) f
def TW.drop{n:Int}(h:TW dbk pb FD D j w Y F M)(C:∀F' w',TW dbk pb FD D j w' Y F' (e9 M n).2->Fr F w w'->(∀b∈F',b∈F\/w.heap.size<=b)->K (e9 M n).1 w'): cW 137 [dB pb,.u n] df w K:=
 qwW h.x8 (by have:=h.wf.all;omega) (by have:=h.wf.all;omega) (by have:=h.wf.all;omega) fun F' w' E f G=>C F' w' (h.next (qvG M n) (qtc h.wf) E f) f G
def TW.read{n:Int}{K:Int×Sl×Int->WP}(h:TW dbk pb FD D j w Y F M)(C:gy n)(E:∀s w',(∀G:List Nat,(∀b∈G,b<w.heap.size)->eE G w' s (dD D M n).2.1)->Fr [] w w'->K ((dD D M n).1,s,(dD D M n).2.2) w'): cW 117 [dB pb,.u n] dj w K:=
 qvi h.cN h.lim h.x8 h.hv C (by have:=h.wf.all;omega) (fun e I=>zL (h.wf.body e I).2.1 oM) E
def TW.J5{t:Int}{K:Int×Int×Int->WP}(h:TW dbk pb FD D j w Y F M)(C:∀w',Fr [] w w'->K (dS M t) w'): cW 46 [dB pb,.i t] [.agg [.u,.u,.u]] w K:=qw1 h.x8 C
def qu4{t a b c:Int}(u:M.Wf)(C:gy a)(E:gy b)(G:gy c):(eQ M t a b c).2.Wf:=by unfold eQ;split;exact u;split;exact u;refine qr7 u fun x h=>?_;simp only[zD,zG,xW,or_false] at h;rcases h with (h|rfl|rfl|rfl)|h;exact u.Q2 x (yU h);exact C;exact E;exact G;exact u.Q2 x (yT h)
def TW.pF{t a b c:Int}(h:TW dbk pb FD D j w Y F M)(C:gy a)(E:gy b)(G:gy c)(I:∀w',TW dbk pb FD D j w' Y F (eQ M t a b c).2->Fr F w w'->K (eQ M t a b c).1 w'): cW 131 [dB pb,.i t,.agg #[.u a,.u b,.u c]] df w K:=
 qse h.x8 fun w' J f=>I w' (h.next (qwC M t a b c) (qu4 h.wf C E G) J f) f
def TW.room(h:TW dbk pb FD D j w Y F M)(u:K M.Q1.length w):cW 129 [dB pb] df w K:=qw0 h.x8 u
def TW.uq(h:∀b∈F',b∈F\/w.heap.size<=b):∀b∈Zo FD Y F',b∈Zo FD Y F\/w.heap.size<=b:=wR h
def C3(h:M.Wf)(t:Int):gy (dS M t).1/\gy (dS M t).2.1/\gy (dS M t).2.2:=by
 have key:∀n,gy (M.Q2.getD n 0):=fun n=>by
  rw[yQ];cases e:M.Q2[n]? with
  | none=>exact⟨oM,oM⟩
  | some x=>exact h.Q2 x (yE e)
 unfold dS;split;exact⟨⟨oM,oM⟩,⟨oM,oM⟩,⟨oM,oM⟩⟩;exact⟨key _,key _,key _⟩
end
end
section
open Go Go.Pt List
open Go.IntKind (wrap)
open Classical
attribute [local irreducible] ld dJ iH mZ i7 fi st new idx i8 jr fB js iY lV gT nn call dV inv run fc iM join loop held ext jR eI mH mz mI IntKind.wrap
variable {K:Sl->WP} {S T Z:List Nat} {b:List Int} {hi p:Int} {i k v:Nat} {l:Key} {n:dG} {ps:oS} {s src:Sl} {w:World} {x:jP}
abbrev EO:=Int×Int×Int×Int×Option Addr×Int
def jt (k v pb:Nat) (t:Int):EO:=((k:Int),(v:Int),((dQ k v).1:Int),((dQ k v).2:Int),pW pb,t)
def mR (x:EO):Array Value:=#[.i x.1,.i x.2.1,.i x.2.2.1,.i x.2.2.2.1,.pointer x.2.2.2.2.1,.i x.2.2.2.2.2]
abbrev WK:TypeId:=195
def AY (k v:Nat):Int×Int×Int×Int:=((k:Int),(v:Int),((dQ k v).1:Int),((dQ k v).2:Int))
def E1 (k v:Nat):Array Value:=#[.i k,.i v,.i (dQ k v).1,.i (dQ k v).2]
section
variable {S:List Nat} {w:World} {x:jP} {n:dG} {k v:Nat}
structure nz (x:jP) (n:dG):Prop where
 Q4:x.1=n.Q4
 J6:x.2.1.len=n.J6.length
 Q0:x.2.2.1.len=n.Q0.length
 J9:x.2.2.2.len=n.J9.length
def ef.lens(h:ef S w x n):nz x n:=by obtain⟨u,_,⟨pk,C,E⟩,⟨pv,G,I⟩,J⟩:=h;exact⟨u,by rw[C.len,<- E,zK],by rw[G.len,<- I,zK],J.1⟩
def Fh{K:Int×Int->WP}(h:nz x n)(C:∀w',Fr [] w w'->K (((eM n k v).1:Int),((eM n k v).2:Int)) w'): cW 198 [.agg (E1 k v),.agg (eF x)] di w K:=by refine qkt<|oB (oE [] w) fun I w1 e1 J G=>oB G fun R w2 U V G=>oA G 0 rfl x.1 rfl ?_;unfold eM at C;have u:=G.drew;apply dR<;>intro E;rw[h.Q4] at E;rw[if_pos E] at C;refine oA u 0 rfl x.2.1 rfl<|oA u 1 rfl ((dQ k v).1:Int) rfl ?_;rw[h.J6];exact C _ u.fr;rw[h.Q4] at E;rw[if_neg (by rw[E];decide)] at C;refine oA u 0 rfl x.2.2.2 rfl<|oA u 1 rfl ((dQ k v).2:Int) rfl ?_;rw[h.J9];exact C _ u.fr
def qpd{n:dG}:wrap .i64 (Int.tdiv ((eM n k v).2:Int) 2)=(((eM n k v).2 / 2:Nat):Int):=by have h:=AF (k:=k) (v:=v);have u:(eM n k v).2<=498:=(by unfold eM;split<;>omega);rw[Int.tdiv_eq_ediv_of_nonneg oJ,gc _ oJ];rfl
def qzE{K:Bool->WP}(h:nz x n)(C:∀w',Fr [] w w'->K (decide (nS n k v)) w'): cW 169 [.agg (E1 k v),.agg (eF x)] dg w K:=by refine qlc<|oB (oE [] w) fun I w1 e1 J u=>oB u fun R w2 U V u=>oC u 1 rfl (AY k v) rfl<|oC u 0 rfl x rfl<|Fh (k:=k) (v:=v) h fun E G=>?_;dsimp only;rw[qpd];have e:decide (((eM n k v).1:Int)<(((eM n k v).2 / 2:Nat):Int))=decide (nS n k v):=decide_eq_decide.2 (by unfold nS;omega);rw[e];exact C E (u.fr.trans G)
def qxZ{K:Bool->WP}(h:nz x n)(C:∀w',Fr [] w w'->K (decide (iF n k v)) w'): cW 202 [.agg (E1 k v),.agg (eF x)] dg w K:=by refine qjm<|oB (oE [] w) fun I w1 e1 J u=>oB u fun R w2 U V u=>oC u 1 rfl (AY k v) rfl<|oC u 0 rfl x rfl<|Fh (k:=k) (v:=v) h fun E G=>?_;dsimp only;rw[qpd];have e:decide (((eM n k v).1:Int)>(((eM n k v).2 / 2:Nat):Int))=decide (iF n k v):=decide_eq_decide.2 (by unfold iF;omega);rw[e];exact C E (u.fr.trans G)
end
def C1{t:Int}{ks:Sl}{pb:Nat}{K:EO×Int->WP}(G:qS t=((k:Int),(v:Int)))(I:k=0->∀x w',Fr [] w w'->K (x,4) w')(J:k≠0->ks.len≠k->∀x w',Fr [] w w'->K (x,1) w')(R:k≠0->ks.len=k->∀w',Fr [] w w'->K (jt k v pb t,0) w'): cW 89 [dB pb,.i t,ks.v] [.agg ir,.one .i] w K:=by
 refine qqi<|oB (oE [] w) fun U w1 e1 V h=>qqE ?_;rw[G];apply dR<;>intro C;have C:((k:Nat):Int)=0:=yO.1 C;exact oD h 0 rfl (mR (0,0,0,0,none,0)) fun w2 h E=>oC h 0 rfl (0,0,0,0,none,0) rfl<|I oJ _ _ h.fr;have C:¬((k:Nat):Int)=0:=zR.1 C;apply dR<;>intro u;have u:¬((ks.len:Int)=(k:Int)):=zR.1 (oP u);exact oD h 0 rfl (mR (0,0,0,0,none,0)) fun w2 h E=>oC h 0 rfl (0,0,0,0,none,0) rfl<|J oJ oJ _ _ h.fr;have u:(ks.len:Int)=(k:Int):=by rw[yD] at u;exact yO.1 u
 refine FI fun w2 E=>?_;have h:=h.q7 E;exact oD h 0 rfl (mR (jt k v pb t)) fun w3 h f3=>oC h 0 rfl (jt k v pb t) rfl<|R oJ oJ _ h.fr
section
variable {dbk pb j:Nat} {FD Y F:List Nat} {D:dE} {w:World} {M:dU} {k v:Nat} {t:Int}
def AN{K:jP×Int->WP}(h:TW dbk pb FD D j w Y F M)(hp:gy p)(R:∀x B w',TW dbk pb FD D j w' (B++Y) F M->eV (Zo FD (B++Y) F) w' x (dF D M k v p).1 B->Fr [] w w'->(∀c∈B,w.heap.size<=c)->K (x,(dF D M k v p).2) w'): cW 90 [.agg (mR (jt k v pb t)),.u p] [.agg dT,.one .i] w K:=by
 refine qlf<|oB (oE [] w) fun r1 w1 e1 f1 E=>oB E fun r3 w2 e2 f2 E=>oA E 1 rfl (pW pb) rfl ?_;have h2:=h.q7 E.fr;refine TW.read h2 hp fun s w7 hs f7=>?_;have E:=E.q7 f7;have ae:=hs [] (fun _ h=>nomatch h);have hB:eB (dD D M p).2.1:=qhy h.lim.ok (fun e he=>(h.wf.body e he).2.2) p;unfold dF at R;apply dR<;>intro C;have ag:(dD D M p).2.2≠0:=fun e=>by dsimp only at C;rw[e] at C;exact absurd C oM
 rw[if_pos ag] at R;exact oD E 0 rfl (eF fl) fun w8 E f8=>oC E 0 rfl fl rfl<|R fl [] w8 (h.q7 E.fr) (.zero _ _) E.fr (fun _ h=>nomatch h);have he:¬(dD D M p).2.2≠0:=fun e=>by dsimp only at C;rw[yD,yO] at C;exact e C
 rw[if_neg he] at R;refine oA E 1 rfl (k:Int) rfl<|oA E 1 rfl (v:Int) rfl<|FL (k:=k) (v:=v) ae hB fun x B ar hN ah J=>?_;have U:=E.q7 ah;have V:=eT (E.at (i:=0) rfl);dsimp only at V;have hr:∀c∈B,c∉[r3]:=fun c C hm=>by have:=J c C;rw[zE.1 hm] at this;omega
 refine oD U 0 rfl (eF x) fun aa G ai=>oC G 0 rfl x rfl ?_;have I:=hN.q8 ai hr (fun c C=>.inl (by rw[zE.1 C];simp[V])) (fun c C=>.inl C);have ax:=h.q7 G.fr;have ab:=E.fr.size;have ac:TW dbk pb FD D j aa (B++Y) F M:=h.As (G.fr.mono fun _ h=>nomatch h) fun b hb=>⟨zL ab (J b hb),I.lt b hb⟩;refine R x B aa ac (I.j6 fun c C=>.inl ?_) G.fr (fun c C=>zL ab (J c C));have zl:=h.uu;rcases zD.1 C with C|C;rcases zD.1 C with C|C
 have:=zl c (by simp[C]);simp;omega
 rcases zG.1 C with C|C
 have:=zl c (by simp[C]);simp;omega
 rcases zD.1 C with C|C;simp[C]
 have:=zl c (by simp[C]);simp;omega
 have:=zl c (by simp[C]);simp;omega
def quO{kd:Int}{n:Int}(h:(i6 M n kd b).1=10):(i6 M n kd b).2=M:=by unfold i6 at h⊢;split;rfl;rename_i u;rw[if_neg u] at h;split;rfl;rename_i q C;rw[C] at h;dsimp only at h;split;rfl;rename_i E;rw[if_neg E] at h;cases h
def ud{K:Int×Int->WP}(h:TW dbk pb FD D j w Y F M)(hx:ef (Zo FD Y F) w x n)(h1:n.J6.length<=1000000)(h2:n.Q0.length<=1000000)(h3:n.J9.length<=1000000)(kk:∀F' w',TW dbk pb FD D j w' Y F' (dK k v M p n).2->Fr F w w'->(∀b∈F',b∈F\/w.heap.size<=b)->K (dK k v M p n).1 w'): cW 130 [.agg (mR (jt k v pb t)),.u p,.agg (eF x)] dl w K:=by
 refine qkv<|oB (oE [] w) fun r1 w1 e1 f1 I=>oB I fun r3 w2 e2 f2 I=>oC I 0 rfl x rfl<|oA I 1 rfl (k:Int) rfl<|oA I 1 rfl (v:Int) rfl<|qw7 (x:=x) (k:=k) (v:=v) (hx.q7 I.fr) h1 h2 h3 fun s w9 hs f9=>?_;have I:=I.q7 f9;have h9:=h.q7 I.fr;have ap:eB (eH n k v).2.1:=by unfold eH;split;exact qoT hx.2.1.1 hx.2.1.2.1;exact fun _ h=>nomatch h
 have aq:0<=(eH n k v).1/\(eH n k v).1<256:=(by unfold eH iv;split;dsimp only;split<;>exact⟨oM,oM⟩;exact⟨oM,oM⟩);have ar:(eH n k v).2.1.length<=100000:=(by unfold eH;split;rename_i hr;have:=(Co hr).2;dsimp only;omega;exact yW _);unfold dK at kk;apply dR<;>intro C;have aE:(eH n k v).2.2≠0:=fun e=>by dsimp only at C;rw[e] at C;exact absurd C oM
 rw[if_pos aE] at kk;exact kk F w9 h9 (I.fr.mono fun _ h=>nomatch h) fun b U=>.inl U;have he:¬(eH n k v).2.2≠0:=fun e=>by dsimp only at C;rw[yD,yO] at C;exact e C
 rw[if_neg he] at kk;have aF:=eT (I.at (i:=1) rfl);dsimp only at aF;have ae:=h.uu;have ag:r1∉F:=fun hm=>by have:=ae r1 (by simp[hm]);omega
 have au:w.heap.size<=r1:=oJ;have aP:=I.fr.size;have ai:∀G:List Nat,(∀b∈G,b<w.heap.size)->eE G w9 s (eH n k v).2.1:=fun G hG=>hs G fun b U=>yC (hG b U) (zL f1.size f2.size);have aj:dM F w w9 [(r1,.cells (mR (jt k v pb t)) WK (0,0))]:=⟨fun q hq=>by rw[zE.1 hq];exact I.at (i:=1) rfl,oL,I.fr.mono (fun _ h=>nomatch h),fun q hq=>by rw[zE.1 hq];exact .inr au⟩;generalize a3:(eH n k v).1=V at *
 generalize a4:(eH n k v).2.1=J at *
 refine gQ (fun _ w'=>(p=0\/(i6 M p V J).1=10)/\TW dbk pb FD D j w' Y F M/\dM F w w' [(r1,.cells (mR (jt k v pb t)) WK (0,0))]/\eE (Zo FD Y F) w' s J) ?_ ?_;apply dR<;>intro hp;have hp:p≠0:=by rw[zT] at hp;exact zR.1 hp
 refine oA aj 0 rfl (pW pb) rfl<|TW.put h9 (ai _ ae) ar aq ap fun aG al av=>?_;have ah:=aj.q8 av (fun i hi=>.inl hi) (fun q hq=>by rw[zE.1 hq];exact ag);apply dR<;>intro E;have E:(i6 M p V J).1≠10:=by rw[zT] at E;exact zR.1 E
 rw[if_pos ⟨hp,E⟩] at kk;exact kk F aG al ah.fr fun b U=>.inl U;have E:(i6 M p V J).1=10:=by rw[yD] at E;exact yO.1 E
 rw[quO E] at al;exact⟨.inr E,al,ah,(ai _ ae).q8 (av.mono fun b U _=>by simp[U]) fun b U=>.inl U⟩;have hp:p=0:=by rw[yD] at hp;exact yO.1 hp
 exact⟨.inl hp,h9,aj,ai _ ae⟩;rintro _ a5 ⟨hp,aI,ac,aw⟩;rw[if_neg (fun hh=>hp.elim hh.1 hh.2)] at kk;refine oA ac 0 rfl (pW pb) rfl<|TW.make aI aw ar aq ap fun F' aJ ax aK aL=>?_;have R:=ac.q8 aK (fun i hi=>.inl hi) (fun q hq=>by rw[zE.1 hq];exact ag);have am:=ac.fr.size;have ad:∀b∈F',b∈F\/w.heap.size<=b:=fun b U=>(aL b U).imp id fun h=>zL am h;refine gQ (fun e w'=>∃F2,e=(if (fU M V J).1.2=0/\p≠0 then (e9 (fU M V J).2 p).1 else (fU M V J).1.2)/\TW dbk pb FD D j w' Y F2 (if (fU M V J).1.2=0/\p≠0 then (e9 (fU M V J).2 p).2 else (fU M V J).2)/\Fr F w w'/\∀b∈F2,b∈F\/w.heap.size<=b) ?_ ?_;refine gQ (fun d w'=>d=decide ((fU M V J).1.2=0/\p≠0)/\w'=aJ) ?_ ?_;refine dR (fun C=>⟨?_,rfl⟩) (fun C=>⟨?_,rfl⟩);have C:(fU M V J).1.2=0:=yO.1 C;rw[Bool.eq_iff_iff,yM,zT,zR];exact⟨fun h=>⟨C,h⟩,fun h=>h.2⟩;have C:¬(fU M V J).1.2=0:=zR.1 C;rw[zU (fun h=>C h.1)];rintro d a6 ⟨rfl,rfl⟩;apply dR<;>intro C;have C:=zC C;rw[if_pos C,if_pos C];refine oA R 0 rfl (pW pb) rfl<|TW.drop ax fun F2 a7 aM aN aO=>?_;have an:=R.fr.size;refine⟨F2,rfl,aM,R.fr.j8 aN ad,fun b U=>?_⟩;rcases aO b U with h|h;exact ad b h;exact .inr (zL an h);have C:=zB C;rw[if_neg C,if_neg C];exact⟨F',rfl,ax,R.fr,ad⟩;rintro e ay ⟨F2,rfl,af,az,aA⟩;by_cases C:(fU M V J).1.2=0/\p≠0;rw[if_pos C] at kk af⊢;exact kk F2 ay af az aA;rw[if_neg C] at kk af⊢;exact kk F2 ay af az aA
end
section
section
variable {S:List Nat} {w:World} {s:Sl} {ps:oS}
def i9.qg(h:i9 S w s ps)(b:Nat){K:Sl->Prop}(C:hi=b)(G:b<=ps.length)(I:∀u,i9 S w u (ps.take b)->K u):fB s none (some hi) (some hi) 1 K:=
 dW.td h.1 b C (by rw[zK];exact G) fun u E=>I u ⟨by rw[<- xO] at E;exact E,fun p J=>h.2 p (yU J)⟩
def i9.from(h:i9 S w s ps){lo:Int}(a:Nat){K:Sl->Prop}(C:lo=a)(G:a<=ps.length)(I:∀u,i9 S w u (ps.drop a)->K u):fB s (some lo) none none 1 K:=
 dW.part h.1 a ps.length C (by rw[xV,h.len]) G (by rw[zK];exact zM _) fun u _ E _=>I u ⟨by have e:(ij ps).take ps.length=ij ps:=zS (by rw[zK];exact zM _);rw[e,<- xP] at E;exact E,fun p J=>h.2 p (yT J)⟩
def i9.upto(h:i9 S w s ps)(b:Nat){K:Sl->Prop}(C:hi=b)(G:b<=ps.length)(I:∀u,i9 S w u (ps.take b)->K u):fB s none (some hi) none 1 K:=
 dW.part h.1 0 b rfl C (yW _) (by rw[zK];exact G) fun u _ E _=>I u ⟨by rw[xE,<- xO] at E;exact E,fun p J=>h.2 p (yU J)⟩
def xn(ps:oS)(b:Nat):fV (ps.take b)=(fV ps).take b:=xO
def wq(ps:oS)(b:Nat):fV (ps.drop b)=(fV ps).drop b:=xP
def vV{ps:oS}(hi:i<ps.length):(fV ps).getD i []=ps[i].2:=by rw[yQ,zQ,zA hi];rfl
def dW.uS{α:Type}{enc:α->List Value}{l:List α}(h:dW enc 1 S w s l){lo:Int}(a:Nat){K:Sl->Prop}(C:lo=a)(G:a<=l.length)(I:∀u,dW enc 1 S w u (l.drop a)->K u):fB s (some lo) none none 1 K:=
 dW.part h a l.length C (by rw[xV,h.1]) G (zM _) fun u _ E _=>I u (by rw[xY] at E;exact E)
def dW.Ag{α:Type}{enc:α->List Value}{l:List α}(h:dW enc 1 S w s l)(b:Nat){K:Sl->Prop}(C:hi=b)(G:b<=l.length)(I:∀u,dW enc 1 S w u (l.take b)->K u):fB s none (some hi) none 1 K:=
 dW.part h 0 b rfl C (yW _) G fun u _ E _=>I u (by rw[xE] at E;exact E)
end
section
variable {S:List Nat} {w:World} {x:jP} {n:dG} {k v:Nat}
def nM (n:dG) (mid:Nat):Prop:=if n.Q4 then mid<n.J6.length/\mid<=n.Q0.length else 1<=mid/\mid<=n.J6.length/\mid<=n.J9.length
def qvU{mid:Nat}{K:jP×jP×Sl->WP}(hx:ef S w x n)(hm:nM n mid)(hl:mid<=1000000)(kk:∀xl xr ks w',ef S w' xl (dX n mid).1->ef S w' xr (dX n mid).2.1->eE S w' ks (dX n mid).2.2->Fr [] w w'->K (xl,xr,ks) w'): cW 199 [.agg (eF x),.i mid] [.agg dT,.agg dT,.one .slice] w K:=by
 have aH:=hx;obtain⟨h0,C,⟨pk,E,u⟩,⟨pv,ac,G⟩,R⟩:=hx;have l1:pk.length=n.J6.length:=(by rw[<- u,zK]);have l2:pv.length=n.Q0.length:=(by rw[<- G,zK]);refine qoL ?_;have h:=oE [] w;refine oB h fun r1 w2 _ f h=>oB h fun r3 w4 _ f h=>oB h fun r5 w6 _ f h=>?_;have h:=oF h;refine⟨?a,?b⟩;case' a=>
  refine oC h 2 rfl x rfl<|oC h 2 rfl x rfl<|oB h fun r9 ax _ f h=>jX (h.cells 3 rfl rfl) (h.cells 3 rfl rfl)<|oB h fun ay az _ f h=>jX (h.cells 4 rfl rfl) (h.cells 4 rfl rfl)<|oD h 1 rfl (eF x) fun aA h f=>ia (h.cells 4 rfl rfl)<|oD h 0 rfl (eF x) fun aB h f=>?_
 case' b=>
  refine oC h 2 rfl x rfl<|oC h 2 rfl x rfl<|oB h fun ay ax _ f h=>jX (h.cells 3 rfl rfl) (h.cells 3 rfl rfl)<|oB h fun r9 az _ f h=>jX (h.cells 4 rfl rfl) (h.cells 4 rfl rfl)<|oD h 0 rfl (eF x) fun aA h f=>ia (h.cells 4 rfl rfl)<|oD h 1 rfl (eF x) fun aB h f=>?_;have h:=Bh h (List.Perm.swap _ _ _)
 all_goals
  refine oA h 4 rfl x.1 rfl ?_;apply dR<;>intro hc;rw[h0] at hc;unfold nM at hm;rw[if_pos hc] at hm;have hH:dX n mid=({ n with J6:=n.J6.take mid,Q0:=n.Q0.take mid },{ n with J6:=n.J6.drop mid,Q0:=n.Q0.drop mid },n.J6.getD mid []):=(by unfold dX;rw[if_pos hc]);rw[hH] at kk;have h:=oF h;refine oA h 4 rfl x.2.1 rfl<|i9.qg E mid rfl oJ fun U aj=>oA h 4 rfl x.2.2.1 rfl<|i9.qg ac mid rfl oJ fun ad ak=>oD h 1 rfl (eF (x.1,U,x.2.2.1,x.2.2.2)) fun aJ h f=>ia (h.cell 4 rfl rfl)<|oD h 1 rfl (eF (x.1,U,ad,x.2.2.2)) fun aK h f=>?_;have h:=oF h;refine oA h 4 rfl x.2.1 rfl<|i9.from E mid rfl oJ fun V al=>oA h 4 rfl x.2.2.1 rfl<|i9.from ac mid rfl oJ fun ae am=>oD h 0 rfl (eF (x.1,V,x.2.2.1,x.2.2.2)) fun aL h f=>ia (h.cell 4 rfl rfl)<|oD h 0 rfl (eF (x.1,V,ae,x.2.2.2)) fun aM h f=>?_;have h:=oF h;refine oC h 1 rfl (x.1,U,ad,x.2.2.2) rfl<|oC h 0 rfl (x.1,V,ae,x.2.2.2) rfl<|oA h 4 rfl x.2.1 rfl ?_;have I:mid<pk.length:=oJ;refine i9.get' (E.q7 h.fr) mid rfl I fun aN J hh=>oD h 3 rfl (eF (x.1,U,ad,x.2.2.2)) fun aO h f=>mB (hh _ (E.q7 h.fr)) (h.cell 4 rfl rfl) (h.cells 0 rfl rfl)<|oD h 2 rfl (eF (x.1,V,ae,x.2.2.2)) fun aD h f=>jX (hh _ (E.q7 h.fr)) (h.cell 4 rfl rfl)<|oC h 3 rfl (x.1,U,ad,x.2.2.2) rfl<|oC h 2 rfl (x.1,V,ae,x.2.2.2) rfl<|kk _ _ _ aD ⟨h0,⟨fun a J=>C.1 a (yU J),fun a J=>C.2.1 a (yU J),C.2.2⟩,⟨pk.take mid,aj.q7 h.fr,by rw[xn,u]⟩,⟨pv.take mid,ak.q7 h.fr,by rw[xn,G]⟩,R.q7 h.fr⟩
   ⟨h0,⟨fun a J=>C.1 a (yT J),fun a J=>C.2.1 a (yT J),C.2.2⟩,⟨pk.drop mid,al.q7 h.fr,by rw[wq,u]⟩,⟨pv.drop mid,am.q7 h.fr,by rw[wq,G]⟩,R.q7 h.fr⟩ ?_ h.fr
  rw[<- u,vV I];exact (E.2 _ (zW I)).q7 h.fr;rw[h0] at hc;have ao:¬n.Q4=true:=(by rw[hc];decide);unfold nM at hm;rw[if_neg ao] at hm;have hH:dX n mid=({ n with J9:=n.J9.take mid,J6:=n.J6.take (mid-1) },{ n with J9:=n.J9.drop mid,J6:=n.J6.drop mid },n.J6.getD (mid-1) []):=(by unfold dX;rw[if_neg ao]);rw[hH] at kk;have em:wrap .i64 ((mid:Int)-1)=((mid-1:Nat):Int):=(by rw[gc _ oJ];omega);have h:=oF h;refine oA h 4 rfl x.2.2.2 rfl<|dW.td R mid rfl oJ fun aa ap=>oA h 4 rfl x.2.1 rfl<|i9.qg E (mid-1) em oJ fun af aq=>oD h 1 rfl (eF (x.1,x.2.1,x.2.2.1,aa)) fun aP h f=>ia (h.cell 4 rfl rfl)<|oD h 1 rfl (eF (x.1,af,x.2.2.1,aa)) fun aQ h f=>?_;have h:=oF h;refine oA h 4 rfl x.2.2.2 rfl<|dW.uS R mid rfl oJ fun ab ar=>oA h 4 rfl x.2.1 rfl<|i9.from E mid rfl oJ fun ag au=>oD h 0 rfl (eF (x.1,x.2.1,x.2.2.1,ab)) fun aR h f=>ia (h.cell 4 rfl rfl)<|oD h 0 rfl (eF (x.1,ag,x.2.2.1,ab)) fun aT h f=>?_;have h:=oF h;refine oC h 1 rfl (x.1,af,x.2.2.1,aa) rfl<|oC h 0 rfl (x.1,ag,x.2.2.1,ab) rfl<|oA h 4 rfl x.2.1 rfl ?_;have I:mid-1<pk.length:=oJ;refine i9.get' (E.q7 h.fr) (mid-1) em I fun aU J hh=>oD h 3 rfl (eF (x.1,af,x.2.2.1,aa)) fun aV h f=>mB (hh _ (E.q7 h.fr)) (h.cell 4 rfl rfl) (h.cells 0 rfl rfl)<|oD h 2 rfl (eF (x.1,ag,x.2.2.1,ab)) fun aE h f=>jX (hh _ (E.q7 h.fr)) (h.cell 4 rfl rfl)<|oC h 3 rfl (x.1,af,x.2.2.1,aa) rfl<|oC h 2 rfl (x.1,ag,x.2.2.1,ab) rfl<|kk _ _ _ aE ⟨h0,⟨fun a J=>C.1 a (yU J),C.2.1,fun a J=>C.2.2 a (yU J)⟩,⟨pk.take (mid-1),aq.q7 h.fr,by rw[xn,u]⟩,⟨pv,ac.q7 h.fr,G⟩,ap.q7 h.fr⟩
   ⟨h0,⟨fun a J=>C.1 a (yT J),C.2.1,fun a J=>C.2.2 a (yT J)⟩,⟨pk.drop mid,au.q7 h.fr,by rw[wq,u]⟩,⟨pv,ac.q7 h.fr,G⟩,ar.q7 h.fr⟩ ?_ h.fr
  rw[<- u,vV I];exact (E.2 _ (zW I)).q7 h.fr
end
end
section
structure Sg (S0:List Nat) (w0 wa:World) (F T:List Nat):Prop where
 py:Fr S0 w0 wa
 new:∀ b∈F,b∈S0\/w0.heap.size<=b
 own:∀ b∈T,b∈S0\/w0.heap.size<=b
abbrev eY (L:List (Nat×Obj)):List Nat:=L.map (·.1)
section
variable {dbk pb j:Nat} {FD S0 Y Y0 F0 F F' T:List Nat} {D:dE} {w0 wa w w':World} {M M':dU} {L:List (Nat×Obj)}
def Sg.start(F:List Nat)(w:World):Sg F w w F []:=⟨.refl _ _,fun b u=>.inl u,fun _ h=>nomatch h⟩
def Sg.fr(g:Sg S0 w0 wa F T)(h:dM T wa w L):Fr S0 w0 w:=g.py.j8 h.fr g.own
def Sg.eY(g:Sg S0 w0 wa F T)(h:dM T wa w L):∀b∈eY L,b∈S0\/w0.heap.size<=b:=fun b C=>by obtain⟨q,E,rfl⟩:=mem_map.1 C;rcases h.own q E with u|u;exact g.own _ u;exact .inr (zL g.py.size u)
def vO(h:dM T wa w L):∀b∈eY L,b<w.heap.size:=fun b u=>by obtain⟨q,C,rfl⟩:=mem_map.1 u;exact eT (h.eA q C)
def TW.J0(C:TW dbk pb FD D j wa (T++Y) F M)(h:dM T wa w L):TW dbk pb FD D j w (eY L++Y) F M:=
 C.cM (h.fr.mono fun b u _=>by simp[u]) (fun b u=>(zD.1 u).elim (vO h b) fun u=>yC (C.pX b (by simp[u])) h.fr.size) fun b u=>(zD.1 u).elim (fun u=>by obtain⟨q,E,rfl⟩:=mem_map.1 u;exact (h.own q E).imp (fun h=>zH _ h) id) fun u=>.inl (zI _ u)
def TW.cB(u:TW dbk pb FD D j wa Y F M)(h:dM [] wa w L):TW dbk pb FD D j w (eY L++Y) F M:=TW.J0 (T:=[]) u h
def pS(h:dM T wa w L)(f:Fr S w w')(C:∀b∈eY L,b∉S):dM (eY L) w' w' L:=
 ⟨fun q u=>by rw[f.block q.1 (eT (h.eA q u)) (C _ (zY u))];exact h.eA q u,h.nodup,.refl _ _,fun q u=>.inl (zY u)⟩
def TW.own(u:TW dbk pb FD D j w (eY L++Y) F M)(h:dM T wa w L)(f:Fr F w w'):dM (eY L) w' w' L:=pS h f fun b C=>u.yf b (by simp[C])
def Sg.next(g:Sg S0 w0 wa F T)(h:dM T wa w L)(f:Fr F w w')(n:∀b∈F',b∈F\/w.heap.size<=b):Sg S0 w0 w' F' (Go.Proofs.YtpcmehldpoljfaaGreatDoor.eY L):=
 ⟨(g.fr h).j8 f g.new,fun b u=>(n b u).elim (g.new b) fun C=>.inr (zL (g.fr h).size C),g.eY h⟩
def Sg.cA(g:Sg S0 w0 wa F T)(h:dM T wa w L)(f:Fr [] w w'):Sg S0 w0 w' F (Go.Proofs.YtpcmehldpoljfaaGreatDoor.eY L):=
 ⟨(g.fr h).j8 f fun _ h=>(nomatch h),g.new,g.eY h⟩
def BA(h:dM T wa w L):∀b∈Zo FD (Go.Proofs.YtpcmehldpoljfaaGreatDoor.eY L++Y) F,b∈Zo FD (T++Y) F\/wa.heap.size<=b:=fun b u=>by rcases zD.1 u with u|u;rcases zD.1 u with u|u;exact .inl (by simp[u]);rcases zG.1 u with u|u;exact .inl (by simp[u]);rcases zD.1 u with u|u;obtain⟨q,C,rfl⟩:=mem_map.1 u;exact (h.own q C).imp (fun h=>by simp[h]) id;exact .inl (by simp[u]);exact .inl (by simp[u])
def wT:∀b∈Zo FD Y F,b∈Zo FD (S++Y) F:=fun b h=>by simp only[Zo,zD,zG] at h⊢;rcases h with (h|h|h)|h<;>simp[h]
def ux{b:Nat}(h:b∈F):b∈Zo FD Y F:=zI _ h
def ef.J0(u:ef (Zo FD (T++Y) F) wa x n)(h:dM T wa w L):ef (Zo FD (eY L++Y) F) w x n:=u.q8 (h.fr.mono fun b C _=>by simp[C]) (BA h)
def ef.cB(u:ef (Zo FD Y F) wa x n)(h:dM [] wa w L):ef (Zo FD (eY L++Y) F) w x n:=ef.J0 (T:=[]) u h
def ef.next(h:ef (Zo FD Y F) w x n)(f:Fr F w w')(u:∀b∈F',b∈F\/w.heap.size<=b):ef (Zo FD Y F') w' x n:=h.q8 (f.mono fun b C _=>ux C) (TW.uq u)
def pu(u:eE (Zo FD (T++Y) F) wa s l)(h:dM T wa w L):eE (Zo FD (eY L++Y) F) w s l:=u.q8 (h.fr.mono fun b C _=>by simp[C]) (BA h)
def tz(u:eE (Zo FD Y F) wa s l)(h:dM [] wa w L):eE (Zo FD (eY L++Y) F) w s l:=pu (T:=[]) u h
def qrK(h:eE (Zo FD Y F) w s l)(f:Fr F w w')(u:∀b∈F',b∈F\/w.heap.size<=b):eE (Zo FD Y F') w' s l:=h.q8 (f.mono fun b C _=>ux C) (TW.uq u)
def C8(h:eE (Zo FD (S++Y) F) w s l):eE (Zo FD Y F) w s l:=h.q8 (.refl _ _) fun b u=>.inl (wT b u)
def TW.j7(h:TW dbk pb FD D j w (T++Y) F M):TW dbk pb FD D j w Y F M:=h.y0 fun b u=>zI _ u
abbrev Cu:=Int×Bool×Sl×Int
def sq (g:Grown) (ks:Sl):Cu:=(g.x5,g.J8,ks,g.x4)
abbrev GR:TypeId:=252
def pg (x:Cu):Array Value:=#[.u x.1,.bool x.2.1,x.2.2.1.v,.u x.2.2.2]
def tI:gy 0:=⟨oM,oM⟩
def qrn{k:Int}(h:M.Wf):gy (fU M k b).1.1:=by
 unfold fU;split;exact tI;split;exact tI;split;exact tI;rename_i n r u
 have:=h.range n (by rw[u];simp)
 have:=h.n4
 exact⟨by dsimp only;omega,by dsimp only;omega⟩
def uk(h:M.Wf)(u:gy p):gy (dK k v M p n).1.1:=by unfold dK;split;exact tI;split;exact u;split;exact qrn h;exact qrn h
structure Gb (g:Grown):Prop where
 x5:gy g.x5
 x4:gy g.x4
 key:eB g.key
def eB.nil:eB []:=fun _ h=>nomatch h
def E9:Gb nI:=⟨⟨oM,oM⟩,⟨oM,oM⟩,.nil⟩
def rZ{l:List Key}(h:∀a∈l,eB a)(i:Nat):eB (l.getD i []):=by
 rw[yQ];cases e:l[i]? with
 | none=>exact .nil
 | some a=>exact h a (yE e)
def qpW{t:Int}{J8:Bool}{K:Cu×Int->WP}(hT:TW dbk pb FD D j w0 Y F M)(hx:ef (Zo FD Y F) w0 x n)(h1:n.J6.length<=100000)(h2:n.Q0.length<=100000)(h3:n.J9.length<=100000)(hm:(eM n k v).1>(eM n k v).2->nM n ((eM n k v).1 / 2))(hp:gy p)(kk:∀ks F' w',Gb (fS k v M p n J8).1.1->TW dbk pb FD D j w' Y F' (fS k v M p n J8).2->eE (Zo FD Y F') w' ks (fS k v M p n J8).1.1.key->Fr F w0 w'->(∀b∈F',b∈F\/w0.heap.size<=b)->K (sq (fS k v M p n J8).1.1 ks,(fS k v M p n J8).1.2) w'): cW 166 [.agg (mR (jt k v pb t)),.u p,.agg (eF x),.bool J8] [.agg po,.one .i] w0 K:=by
 refine qku ?_;have h:=oE [] w0;have g:=Sg.start F w0;have hl:=hx.lens;have aG:(eM n k v).1<=100000:=(by unfold eM;split<;>assumption);refine oB h fun r1 w2 _ f h=>oB h fun r3 w4 _ f h=>oB h fun r5 w6 _ f h=>oB h fun r7 w8 _ f h=>oD h 0 rfl (pg (0,J8,dC,0)) fun w9 h f=>oC h 3 rfl (AY k v) rfl<|oC h 2 rfl x rfl<|Fh (k:=k) (v:=v) hl fun aL an=>?_;have h:=h.q7 an;refine gQ (fun _ w'=>∃(x':jP) (n':dG) (ks:Sl) (key:Key) (o:Int) (F' T:List Nat) (wa:World) (M':dU),Sg F w0 wa F' T/\TW dbk pb FD D j wa (T++Y) F' M'/\dM T wa w' [(r7,.cells (pg (0,J8,ks,o)) GR (0,0)),(r5,.cells (pg (0,false,dC,0)) GR (0,0)),(r3,.cells (eF x') ND (0,0)),(r1,.cells (mR (jt k v pb t)) WK (0,0))]/\
   ef (Zo FD (T++Y) F') wa x' n'/\eE (Zo FD (T++Y) F') wa ks key/\n'.J6.length<=100000/\n'.Q0.length<=100000/\n'.J9.length<=100000/\gy o/\eB key/\fS k v M p n J8=((⟨(dK k v M' p n').1.1,J8,key,o⟩,(dK k v M' p n').1.2),(dK k v M' p n').2)) ?_ ?_
 apply dR<;>intro I;have I:(eM n k v).1>(eM n k v).2:=(by have:=zC I;dsimp only at this;omega);have ah:=hm I;have R:wrap .i64 (Int.tdiv ((eM n k v).1:Int) 2)=(((eM n k v).1 / 2:Nat):Int):=(by rw[Int.tdiv_eq_ediv_of_nonneg oJ,gc _ oJ];rfl);generalize ai:(eM n k v).1 / 2=C at ah R;refine oC h 2 rfl x rfl ?_;dsimp only;rw[R];have E:=hT.cB h;refine qvU (hx.cB h) ah oJ fun xl xr ks aM ao ap aa ab=>?_;have U:=E.q7 ab;have g:=g.cA h ab;have h:=pS h ab fun _ _ h=>nomatch h;refine oB h fun aN aO _ f h=>oB h fun aP aQ _ f h=>oD h 1 rfl (eF xl) fun aR h f=>oD h 0 rfl (eF xr) fun aT h f=>oC h 5 rfl (jt k v pb t) rfl<|oC h 0 rfl xr rfl ?_;have hH:(dX n C).1.J6.length<=100000/\(dX n C).1.Q0.length<=100000/\(dX n C).1.J9.length<=100000/\(dX n C).2.1.J6.length<=100000/\(dX n C).2.1.Q0.length<=100000/\(dX n C).2.1.J9.length<=100000:=by unfold dX;split<;>simp only[yK,yB]<;>omega
 refine ud (U.J0 h) (ap.J0 h) oJ oJ oJ fun F1 au V J ac=>?_;have ad:=(ao.J0 h).next J ac
 have ae:=qrK (pu aa h) J ac;have g:=g.next h J ac
 have h:=(U.J0 h).own h J;apply dR<;>intro G;have av:(dK k v M 0 (dX n C).2.1).1.2≠0:=by rw[zT] at G;exact zR.1 G
 have e:fS k v M p n J8=((nI,(dK k v M 0 (dX n C).2.1).1.2),(dK k v M 0 (dX n C).2.1).2):=(by unfold fS;rw[if_pos I,ai,if_pos av]);rw[e] at kk;exact oD h 3 rfl (pg (0,false,dC,0)) fun aw h f=>oC h 3 rfl (0,false,dC,0) rfl<|kk dC F1 aw E9 (V.J0 h).j7 (.nil _ _ _ _) (g.fr h) g.new;have he:¬(dK k v M 0 (dX n C).2.1).1.2≠0:=fun e=>by rw[yD,yO] at G;exact e G
 refine oC h 1 rfl xl rfl<|oD h 4 rfl (eF xl) fun aV h f=>oG h 2 rfl (pg (0,J8,dC,(dK k v M 0 (dX n C).2.1).1.1)) rfl rfl (zO rfl) fun aW h f=>oG h 2 rfl (pg (0,J8,ks,(dK k v M 0 (dX n C).2.1).1.1)) rfl rfl (zO rfl) fun aX h f=>⟨xl,(dX n C).1,ks,(dX n C).2.2,_,F1,_,au,_,g,V,h.sub (.cons _ (.cons _ (.refl _))),ad,ae,hH.1,hH.2.1,hH.2.2.1,uk hT.wf ⟨oM,oM⟩,?_,?_⟩;unfold dX;split;exact rZ hx.2.1.1 _;exact rZ hx.2.1.1 _;unfold fS;rw[if_pos I,ai,if_neg he];have I:¬(eM n k v).1>(eM n k v).2:=(by have:=zB I;dsimp only at this;omega);refine⟨x,n,dC,[],0,F,[],w0,M,g,hT,h,hx,.nil _ _ _ _,h1,h2,h3,⟨oM,oM⟩,.nil,?_⟩;unfold fS;rw[if_neg I];rintro aY aZ ⟨x',n',ks,key,o,F1,T,wa,M',g,E,h,ax,ay,l1,l2,l3,uo,bk,e⟩;rw[e] at kk;refine oC h 3 rfl (jt k v pb t) rfl<|oC h 2 rfl x' rfl<|ud (E.J0 h) (ax.J0 h) oJ oJ oJ fun F2 a2 aj af ak=>?_;have aa:=qrK (pu ay h) af ak;have g:=g.next h af ak
 have h:=(E.J0 h).own h af;exact oD h 0 rfl (pg ((dK k v M' p n').1.1,J8,ks,o)) fun a3 h f=>oC h 0 rfl ((dK k v M' p n').1.1,J8,ks,o) rfl<|oD h 1 rfl (pg ((dK k v M' p n').1.1,J8,ks,o)) fun az h f=>oC h 1 rfl ((dK k v M' p n').1.1,J8,ks,o) rfl<|kk ks F2 az ⟨uk E.wf hp,uo,bk⟩ (aj.J0 h).j7 (C8 (pu aa h)) (g.fr h) g.new
end
end
section
section
variable {Z:List Nat} {w w':World} {s:Sl} {l:List Key} {B:List Nat}
def qpg{α β:Type}(f:α->β)(l:List α)(i:Nat)(x:α):(fy l i x).map f=fy (l.map f) i (f x):=by unfold fy;rw[xM,xM,xO,xP];rfl
def qo3{α β:Type}(f:α->β)(l:List α)(i:Nat):(gH l i).map f=gH (l.map f) i:=by unfold gH;rw[xM,xO,xP]
def CX{α:Type}{l:List α}{y:α}(h:y∈gH l i):y∈l:=by unfold gH at h;exact (zD.1 h).elim yU yT
abbrev lZ (Z:List Nat) (w:World) (Z':List Nat):Prop:=∀b∈Z',b∈Z\/w.heap.size<=b
def AI{pk pk':oS}{Z':List Nat}{E:Sl}{B':List Nat}{l':List Key}(G:∀p∈pk,eE Z w p.1 p.2)(u:eO gg 1 w' E (ij pk') B')(e:fV pk'=l')(f:Fr B w w')(C:∀b∈B,b∈Z)(I:lZ Z w Z')(J:∀p∈pk',p∈pk\/eE Z w p.1 p.2):iL Z' w' E l' B':=
 ⟨pk',u,e,fun p h=>((J p h).elim (G p) id).q8 (f.mono fun b u _=>C b u) I⟩
def iL.ins{ii:Int}{ks:Sl}{key:Key}{vb:Nat}{T':TypeId}(h:iL Z w s l B)(C:∀b∈B,b∈Z)(hi:i<=l.length)(J:ii=i)(I:l.length<=100000)(R:w.heap[vb]?=some (.cells #[fN ks] T' (0,0)))(E:vb∉B)(U:eE Z w ks key)(V:∀u B' w',(∀Z',lZ Z w Z'->iL Z' w' u (fy l i key) B')->Fr B w w'->(∀b∈B',b∈B\/w.heap.size<=b)->K u w'): cW 165 [s.v,.i ii,.slice (pW vb) 1 1] de w K:=by obtain⟨pk,hb,rfl,G⟩:=h;rw[zK] at hi I;refine qtP hb (by rw[zK];exact hi) J (by rw[zK];exact I) R E fun u B' w' b' f n=>V u B' w' (fun Z' hZ=>AI (pk':=fy pk i (ks,key)) G (by rw[show ij (fy pk i (ks,key))=fy (ij pk) i ks from qpg _ _ _ _];exact b') (qpg _ _ _ _) f C hZ fun p G=>?_) f n;rcases BB G with rfl|h;exact .inr U;exact .inl h
def iL.del{ii jj:Int}(h:iL Z w s l B)(C:∀b∈B,b∈Z)(hi:i<l.length)(I:ii=i)(J:jj=((i+1:Nat):Int))(G:l.length<=100000)(R:∀u w',(∀Z',lZ Z w Z'->iL Z' w' u (gH l i) B)->Fr B w w'->K u w'): cW 168 [s.v,.i ii,.i jj] de w K:=by obtain⟨pk,U,rfl,E⟩:=h;rw[zK] at hi G;exact qtM U (by rw[zK];exact hi) I J (by rw[zK];exact G) fun u w' b' f=>R u w' (fun Z' V=>AI (pk':=gH pk i) E (by rw[show ij (gH pk i)=gH (ij pk) i from qo3 _ _ _];exact b') (qo3 _ _ _) f C V fun p E=>.inl (CX E)) f
def iL.set{i:Nat}{ii:Int}{ks:Sl}{key:Key}{K:WP}(h:iL Z w s l B)(u:∀b∈B,b∈Z)(hi:i<l.length)(G:ii=i)(I:eE Z w ks key)(J:∀w',(∀Z',lZ Z w Z'->iL Z' w' s (l.set i key) B)->Fr B w w'->K w'):idx s ii 1 fun a=>st a [ks.v] w K:=by obtain⟨pk,E,rfl,C⟩:=h;rw[zK] at hi;refine eO.uF E G (by rw[zK];exact hi) fun b R=>?_;subst R;refine eO.AA (e:=fN) (x:=ks) (fun _=>rfl) E (by rw[zK];exact hi) rfl rfl fun w' b' f=>J w' (fun Z' U=>AI (pk':=pk.set i (ks,key)) C (by rw[show ij (pk.set i (ks,key))=(ij pk).set i ks from map_set];exact b') (map_set) f u U fun p C=>?_) f;rcases mem_or_eq_of_mem_set C with h|rfl;exact .inl h;exact .inr I
def iL.A7{ks:Sl}{key:Key}{vb:Nat}{T':TypeId}(h:iL Z w s l B)(C:∀b∈B,b∈Z)(G:l.length<=100000)(I:w.heap[vb]?=some (.cells #[fN ks] T' (0,0)))(J:eE Z w ks key)(R:∀u B' w',(∀Z',lZ Z w Z'->iL Z' w' u (l++[key]) B')->Fr B w w'->(∀b∈B',b∈B\/w.heap.size<=b)->K u w'): Pt.run de ((Builtin.append_ #[171,171] 171 #[s.v,.slice (pW vb) 1 1]).run prog w) K:=by obtain⟨pk,U,rfl,E⟩:=h;rw[zK] at G;refine oX U (by rw[zK];exact G) I fun u B' w' b' f n=>R u B' w' (fun Z' V=>AI (pk':=pk++[(ks,key)]) E (by rw[show ij (pk++[(ks,key)])=ij pk++[ks] by simp];exact b') oL f C V fun p E=>?_) f n;rcases zD.1 E with h|h;exact .inl h;rw[zE.1 h];exact .inr J
def iL.tr(h:iL Z w s l B)(E:∀b∈B,b∈Z)(V:l.length+ps.length<=100000)(u:dW gg 1 S w src (ij ps))(G:∀p∈ps,eE Z w p.1 p.2)(kk:∀C B' w',(∀Z',lZ Z w Z'->iL Z' w' C (l++fV ps) B')->Fr B w w'->(∀b∈B',b∈B\/w.heap.size<=b)->K C w'): Pt.run de ((Builtin.append_ #[171,171] 171 #[s.v,src.v]).run prog w) K:=by obtain⟨pk,hb,rfl,I⟩:=h;rw[zK] at V;obtain⟨ac,J,hz,R,U⟩:=BS;refine eO.j1 (ys:=ij ps) (e:=101) hb vh oK J hz R rfl (uv (e':=101) u vh qvL oK) u.1 (by rw[U,zK,u.1,zK];omega) (by rw[zK,u.1,zK];omega) fun C B' w' b' f n _=>kk C B' w' (fun Z' hZ=>AI (pk':=pk++ps) I (by rw[show ij (pk++ps)=ij pk++ij ps by simp];exact b') oL f E hZ fun p I=>?_) f n;rcases zD.1 I with h|h;exact .inl h;exact .inr (G p h)
def qyu{l ys:List Int}(h:eO ik 1 w s l B)(hl:l.length+ys.length<=100000)(C:dW ik 1 S w src ys)(R:∀E B' w',eO ik 1 w' E (l++ys) B'->Fr B w w'->(∀b∈B',b∈B\/w.heap.size<=b)->K E w'): Pt.run de ((Builtin.append_ #[172,172] 172 #[s.v,src.v]).run prog w) K:=by obtain⟨U,G,V,I,J⟩:=uP;exact eO.j1 (ys:=ys) (e:=63) h qy oK G V I rfl (uv (e':=63) C qy (fun x u hu=>by rw[zE.1 hu];rfl) oK) C.1 (by rw[J,C.1];omega) (by rw[C.1];omega) fun E B' w' b' f n _=>R E B' w' b' f n
def qAh{l:List Int}{ii x:Int}{K:WP}(h:eO ik 1 w s l B)(hi:i<l.length)(C:ii=i)(E:∀w',eO ik 1 w' s (l.set i x) B->Fr B w w'->K w'):idx s ii 1 fun a=>st a [.u x] w K:=by refine eO.uF h C hi fun b G=>?_;subst G;exact eO.AA (e:=mK) (x:=x) (fun _=>rfl) h hi rfl rfl E
end
section
variable {Z:List Nat} {w:World} {x:jP} {n:dG} {B:List Nat}
def eV.qC(h:eV Z w x n B):∃Bk,iL Z w x.2.1 n.J6 Bk/\(∀b∈Bk,b∈B)/\∀G E Bk' w',Fr Bk w w'->(∀b∈Bk,b∈Z)->(∀b∈Bk',b∈Bk\/w.heap.size<=b)->(∀a∈E,eB a)-> ∃B',(∀b∈B',b∈B\/w.heap.size<=b)/\∀Z',lZ Z w Z'->iL Z' w' G E Bk'->eV Z' w' (x.1,G,x.2.2) { n with J6:=E } B':=by
 obtain⟨h0,I,Bk,Bv,Bi,rfl,J,hk,hv,hi⟩:=h;obtain⟨n1,n2,R⟩:=yL.1 J;refine⟨Bk,hk,fun b u=>by simp[u],fun G E Bk' w' f hz nk hl=>⟨Bk'++(Bv++Bi),fun b u=>?_,fun Z' hZ C=>⟨h0,⟨hl,I.2⟩,Bk',Bv,Bi,rfl,?_,C,hv.q8 f (fun b u U=>R b U b (by simp[u]) rfl) (fun b u=>.inl (hz b u)) hZ,hi.q8 f fun b u U=>R b U b (by simp[u]) rfl⟩⟩⟩;rcases zD.1 u with u|u;exact (nk b u).imp (fun h=>by simp[h]) id;exact .inl (zI _ u);have V:Bk'.Nodup:=(by obtain⟨_,u,_⟩:=C;exact xe u);refine yL.2 ⟨V,n2,fun a ha b u e=>?_⟩;subst e;rcases nk a ha with h1|h1;exact R a h1 a u rfl;rcases zD.1 u with u|u
 have:=hv.lt a u;omega
 have:=hi.lt a u;omega
def eV.qp(h:eV Z w x n B):∃E,iL Z w x.2.2.1 n.Q0 E/\(∀b∈E,b∈B)/\∀V U C w',Fr E w w'->(∀b∈E,b∈Z)->(∀b∈C,b∈E\/w.heap.size<=b)->(∀a∈U,eB a)-> ∃B',(∀b∈B',b∈B\/w.heap.size<=b)/\∀Z',lZ Z w Z'->iL Z' w' V U C->eV Z' w' (x.1,x.2.1,V,x.2.2.2) { n with Q0:=U } B':=by
 obtain⟨h0,G,Bk,E,Bi,rfl,aa,hk,hv,hi⟩:=h;obtain⟨n1,n2,n3⟩:=yL.1 aa;obtain⟨m1,m2,m3⟩:=yL.1 n2;refine⟨E,hv,fun b u=>by simp[u],fun V U C w' f hz nv hl=>⟨Bk++(C++Bi),fun b u=>?_,fun Z' hZ I=>⟨h0,⟨G.1,hl,G.2.2⟩,Bk,C,Bi,rfl,?_,hk.q8 f (fun b u hm=>n3 b u b (by simp[hm]) rfl) (fun b u=>.inl (hz b u)) hZ,I,hi.q8 f fun b u hm=>m3 b hm b u rfl⟩⟩⟩;simp only[zD] at u⊢;rcases u with u|u|u;exact .inl (.inl u);exact (nv b u).imp (fun h=>.inr (.inl h)) id;exact .inl (.inr (.inr u));have ae:C.Nodup:=(by obtain⟨_,u,_⟩:=I;exact xe u);refine yL.2 ⟨n1,yL.2 ⟨ae,m2,fun a J b u e=>?_⟩,fun a J b u e=>?_⟩;subst e;rcases nv a J with R|R;exact m3 a R a u rfl
 have:=hi.lt a u;omega
 subst e;rcases zD.1 u with u|u;rcases nv a u with R|R;exact n3 a J a (by simp[R]) rfl
 have:=hk.lt a J;omega
 exact n3 a J a (by simp[u]) rfl
def eV.qr(h:eV Z w x n B):∃E,eO ik 1 w x.2.2.2 n.J9 E/\(∀b∈E,b∈B)/\∀V U C w',Fr E w w'->(∀b∈E,b∈Z)->(∀b∈C,b∈E\/w.heap.size<=b)->(∀a∈U,gy a)-> ∃B',(∀b∈B',b∈B\/w.heap.size<=b)/\∀Z',lZ Z w Z'->eO ik 1 w' V U C->eV Z' w' (x.1,x.2.1,x.2.2.1,V) { n with J9:=U } B':=by
 obtain⟨h0,I,Bk,Bv,E,rfl,aa,hk,hv,hi⟩:=h;obtain⟨n1,n2,n3⟩:=yL.1 aa;obtain⟨m1,m2,m3⟩:=yL.1 n2;refine⟨E,hi,fun b u=>by simp[u],fun V U C w' f hz ni hl=>⟨Bk++(Bv++C),fun b u=>?_,fun Z' hZ J=>⟨h0,⟨I.1,I.2.1,hl⟩,Bk,Bv,C,rfl,?_,hk.q8 f (fun b u hm=>n3 b u b (by simp[hm]) rfl) (fun b u=>.inl (hz b u)) hZ,hv.q8 f (fun b u hm=>m3 b u b hm rfl) (fun b u=>.inl (hz b u)) hZ,J⟩⟩⟩;simp only[zD] at u⊢;rcases u with u|u|u;exact .inl (.inl u);exact .inl (.inr (.inl u));exact (ni b u).imp (fun h=>.inr (.inr h)) id;refine yL.2 ⟨n1,yL.2 ⟨m1,xe J,fun a G b u e=>?_⟩,fun a G b u e=>?_⟩;subst e;rcases ni a u with R|R;exact m3 a G a R rfl
 have:=hv.lt a G;omega
 subst e;rcases zD.1 u with u|u;exact n3 a G a (by simp[u]) rfl;rcases ni a u with R|R;exact n3 a G a (by simp[R]) rfl
 have:=hk.lt a G;omega
end
structure Ed (dbk pb:Nat) (FD:List Nat) (D:dE) (j:Nat) (S0 N0:List Nat) (w0 wa:World) (T Y F:List Nat) (M:dU) (x:jP) (n:dG) (B:List Nat):Prop where
 sg:Sg S0 w0 wa F T
 tw:TW dbk pb FD D j wa (T++(B++Y)) F M
 node:eV (Zo FD (T++(B++Y)) F) wa x n B
 sep:∀ b∈T,b∉B
 cE:∀ b∈B,b∈N0\/w0.heap.size<=b
 cR:∀ b∈N0,b∈S0
 cK:∀ b∈B,b∉Y
section
variable {dbk pb j:Nat} {FD S0 N0 Y F F' T B B':List Nat} {D:dE} {w0 wa w w':World} {M M':dU} {L:List (Nat×Obj)} {x x':jP} {n n':dG}
def Ed.J0(e:Ed dbk pb FD D j S0 N0 w0 wa T Y F M x n B)(h:dM T wa w L):Ed dbk pb FD D j S0 N0 w0 w (eY L) Y F M x n B where
 sg:=⟨e.sg.fr h,e.sg.new,e.sg.eY h⟩
 tw:=e.tw.J0 h
 node:=e.node.q8 h.fr (fun b u C=>e.sep b C u) (fun b u=>.inl (by simp[u])) (BA h)
 sep:=fun b u C=>by
  obtain⟨q,G,rfl⟩:=mem_map.1 u;rcases h.own q G with E|E;exact e.sep _ E C
  have:=e.node.lt _ C;omega
 cE:=e.cE
 cR:=e.cR
 cK:=e.cK
def Ed.rd(e:Ed dbk pb FD D j S0 N0 w0 wa T Y F M x n B):∀b∈B,b∈Zo FD (T++(B++Y)) F:=fun b h=>by simp[h]
def Ed.mE{Bk:List Nat}(e:Ed dbk pb FD D j S0 N0 w0 w (eY L) Y F M x n B)(h:dM T wa w L)(G:∀b∈Bk,b∈B)(f:Fr Bk w w')(J:eV (Zo FD (eY L++(B'++Y)) F) w' x' n' B')(E:∀b∈B',b∈B\/w.heap.size<=b):Ed dbk pb FD D j S0 N0 w0 w' (eY L) Y F M x' n' B'/\dM (eY L) w' w' L:=by
 refine⟨⟨⟨e.sg.py.j8 f fun b u=>(e.cE b (G b u)).imp (e.cR b) id,e.sg.new,e.sg.own⟩,e.tw.cM (f.mono fun b u _=>by simp[G b u]) (fun b u=>?_) (fun b u=>?_),J,fun b u I=>?_,fun b u=>(E b u).elim (e.cE b) fun C=>.inr (zL e.sg.py.size C),e.cR,fun b u R=>?_⟩,pS h f fun b u I=>e.sep b u (G b I)⟩;rcases zD.1 u with u|u;exact yC (e.tw.pX b (by simp[u])) f.size;rcases zD.1 u with u|u;exact J.lt b u;exact yC (e.tw.pX b (by simp[u])) f.size;rcases zD.1 u with u|u;exact .inl (by simp[u]);rcases zD.1 u with u|u;exact (E b u).imp (fun h=>by simp[h]) id;exact .inl (by simp[u]);rcases E b I with C|C;exact e.sep b u C
 have:=e.tw.pX b (by simp[u]);omega
 rcases E b u with C|C;exact e.cK b C R
 have:=e.tw.pX b (by simp[R]);omega
def Ed.fi(e:Ed dbk pb FD D j S0 N0 w0 w T Y F M x n B)(C:∀b∈B',b∈B\/w.heap.size<=b):lZ (Zo FD (T++(B++Y)) F) w (Zo FD (T++(B'++Y)) F):=fun b u=>by simp only[Zo,zD,zG] at u⊢;rcases u with (u|u|u|u|u)|u;simp[u];simp[u];simp[u];exact (C b u).imp (fun h=>by simp[h]) id;simp[u];simp[u]
def Ed.next(e:Ed dbk pb FD D j S0 N0 w0 w (eY L) Y F M x n B)(h:dM T wa w L)(E:TW dbk pb FD D j w' (eY L++(B++Y)) F' M')(f:Fr F w w')(C:∀b∈F',b∈F\/w.heap.size<=b):Ed dbk pb FD D j S0 N0 w0 w' (eY L) Y F' M' x n B/\dM (eY L) w' w' L:=by have G:∀b∈eY L,b∉F:=fun b u=>e.tw.yf b (by simp[u]);refine⟨⟨⟨e.sg.py.j8 f e.sg.new,fun b u=>(C b u).elim (e.sg.new b) fun I=>.inr (zL e.sg.py.size I),e.sg.own⟩,E,e.node.q8 f (fun b u=>e.tw.yf b (by simp[u])) (fun b u=>.inl (ux u)) (TW.uq C),e.sep,e.cE,e.cR,e.cK⟩,pS h f G⟩
def Ed.cA(e:Ed dbk pb FD D j S0 N0 w0 w (eY L) Y F M x n B)(h:dM T wa w L)(f:Fr [] w w'):Ed dbk pb FD D j S0 N0 w0 w' (eY L) Y F M x n B/\dM (eY L) w' w' L:=
 e.next h (e.tw.q7 f) (f.mono fun _ h=>nomatch h) fun b u=>.inl u
def Ed.y9(e:Ed dbk pb FD D j S0 N0 w0 w T Y F M x n B):ef (Zo FD (T++Y) F) w x n:=
 e.node.rd (fun b h u=>by
  simp only[Zo,zD,zG] at u;have C:=e.tw.sep b (by simp[h]);rcases u with (u|u|u|u)|u;exact C.1 u;exact C.2 u;exact e.sep b u h;exact e.cK b h u;exact e.tw.yf b (by simp[h]) u) fun b h=>.inl (by
  simp only[Zo,zD,zG] at h⊢;rcases h with (h|h|h|h)|h<;>simp[h])
def Ed.qb(e:Ed dbk pb FD D j S0 N0 w0 w T Y F M x n B):TW dbk pb FD D j w (T++Y) F M:=e.tw.y0 fun b u=>(zD.1 u).elim (fun h=>by simp[h]) fun h=>by simp[h]
end
end
section
section
variable {dbk pb j:Nat} {FD S0 N0 Y F F' F0 T T1 B B' Bk Bk':List Nat} {D:dE} {w0 wa w w':World} {M M':dU} {L:List (Nat×Obj)} {x x':jP} {n n':dG} {i q:Nat} {ii jj:Int} {ks:Sl} {key:Key} {vb:Nat} {T':TypeId}
structure me (FD Y F B B':List Nat) (T:List Nat) (w w':World):Prop where
 cT:∀ s l,eE (Zo FD (T++(B++Y)) F) w s l->eE (Zo FD (T++(B'++Y)) F) w' s l
 node:∀ x n,ef (Zo FD (T++(B++Y)) F) w x n->ef (Zo FD (T++(B'++Y)) F) w' x n
def Ed.jG(e:Ed dbk pb FD D j S0 N0 w0 w T Y F M x n B)(C:∀b∈Bk,b∈B)(f:Fr Bk w w')(E:∀b∈B',b∈B\/w.heap.size<=b):me FD Y F B B' T w w':=⟨fun s l h=>h.q8 (f.mono fun b u _=>by simp[C b u]) (e.fi E),fun x n h=>h.q8 (f.mono fun b u _=>by simp[C b u]) (e.fi E)⟩
def Ed.cT(e:Ed dbk pb FD D j F0 N0 w0 w T Y F M x n B)(C:eE (Zo FD Y F0) w0 s l):eE (Zo FD (T++(B++Y)) F) w s l:=
 C.q8 (e.sg.py.mono fun b u _=>ux u) fun b u=>by rcases zD.1 u with u|u;rcases zD.1 u with u|u;exact .inl (by simp[u]);rcases zG.1 u with u|u;exact .inl (by simp[u]);rcases zD.1 u with u|u;exact (e.sg.own b u).imp (fun h=>ux h) id;rcases zD.1 u with u|u;exact (e.cE b u).imp (fun h=>ux (e.cR b h)) id;exact .inl (by simp[u]);exact (e.sg.new b u).imp (fun h=>ux h) id
def Ed.sub(e:Ed dbk pb FD D j S0 N0 w0 w T Y F M x n B)(C:∀b∈T1,b∈T):Ed dbk pb FD D j S0 N0 w0 w T1 Y F M x n B where
 sg:=⟨e.sg.py,e.sg.new,fun b u=>e.sg.own b (C b u)⟩
 tw:=e.tw.y0 fun b u=>(zD.1 u).elim (fun h=>zH _ (C b h)) fun h=>zI _ h
 node:=e.node.j6 fun b u=>.inl (by simp only[Zo,zD,zG] at u⊢;rcases u with (u|u|u|u)|u;simp[u];simp[u];simp[C b u];simp[u];simp[u])
 sep:=fun b u=>e.sep b (C b u)
 cE:=e.cE
 cR:=e.cR
 cK:=e.cK
def FK{L:List (Nat×Obj)}{q vb:Nat}{o:Obj}(h:L[q]?=some (vb,o)):vb∈eY L:=mem_map.2 ⟨_,yE h,rfl⟩
def Ed.cO(e:Ed dbk pb FD D j S0 N0 w0 w (eY L) Y F M x n B)(h:dM T wa w L)(hi:i<=n.J6.length)(R:ii=i)(U:n.J6.length<=100000)(q:Nat)(J:L[q]?=some (vb,.cells #[fN ks] T' (0,0)))(V:eE (Zo FD (eY L++(B++Y)) F) w ks key)(hB:eB key)(kk:∀C B' w',Ed dbk pb FD D j S0 N0 w0 w' (eY L) Y F M (x.1,C,x.2.2) { n with J6:=fy n.J6 i key } B'->dM (eY L) w' w' L->me FD Y F B B' (eY L) w w'->K C w'): cW 165 [x.2.1.v,.i ii,.slice (pW vb) 1 1] de w K:=by obtain⟨Bk,E,u,I⟩:=e.node.qC;refine E.ins (fun b E=>e.rd b (u b E)) hi R U (h.at J) (fun hm=>e.sep vb (FK J) (u vb hm)) V fun C Bk' w' hz f nk=>?_;obtain⟨B',G,hN⟩:=I C _ Bk' w' f (fun b E=>e.rd b (u b E)) nk fun a ha=>(BB ha).elim (fun h=>by rw[h];exact hB) (e.node.2.1.1 a);obtain⟨e',h'⟩:=e.mE h u f (hN _ (e.fi G) (hz _ (e.fi G))) G;exact kk C B' w' e' h' (e.jG u f G)
def Ed.rN(e:Ed dbk pb FD D j S0 N0 w0 w (eY L) Y F M x n B)(h:dM T wa w L)(hi:i<=n.Q0.length)(R:ii=i)(U:n.Q0.length<=100000)(q:Nat)(J:L[q]?=some (vb,.cells #[fN ks] T' (0,0)))(V:eE (Zo FD (eY L++(B++Y)) F) w ks key)(hB:eB key)(kk:∀C B' w',Ed dbk pb FD D j S0 N0 w0 w' (eY L) Y F M (x.1,x.2.1,C,x.2.2.2) { n with Q0:=fy n.Q0 i key } B'->dM (eY L) w' w' L->me FD Y F B B' (eY L) w w'->K C w'): cW 165 [x.2.2.1.v,.i ii,.slice (pW vb) 1 1] de w K:=by obtain⟨Bk,E,u,I⟩:=e.node.qp;refine E.ins (fun b E=>e.rd b (u b E)) hi R U (h.at J) (fun hm=>e.sep vb (FK J) (u vb hm)) V fun C Bk' w' hz f nk=>?_;obtain⟨B',G,hN⟩:=I C _ Bk' w' f (fun b E=>e.rd b (u b E)) nk fun a ha=>(BB ha).elim (fun h=>by rw[h];exact hB) (e.node.2.1.2.1 a);obtain⟨e',h'⟩:=e.mE h u f (hN _ (e.fi G) (hz _ (e.fi G))) G;exact kk C B' w' e' h' (e.jG u f G)
def Ed.rJ{G:Int}(e:Ed dbk pb FD D j S0 N0 w0 w (eY L) Y F M x n B)(h:dM T wa w L)(hi:i<=n.J9.length)(V:ii=i)(hl:n.J9.length<=100000)(q:Nat)(U:L[q]?=some (vb,.cells #[.u G] T' (0,0)))(hB:gy G)(kk:∀E B' w',Ed dbk pb FD D j S0 N0 w0 w' (eY L) Y F M (x.1,x.2.1,x.2.2.1,E) { n with J9:=fy n.J9 i G } B'->dM (eY L) w' w' L->me FD Y F B B' (eY L) w w'->K E w'): cW 167 [x.2.2.2.v,.i ii,.slice (pW vb) 1 1] de w K:=by obtain⟨Bk,I,C,J⟩:=e.node.qr;refine qtQ I hi V hl (h.at U) (fun hm=>e.sep vb (FK U) (C vb hm)) fun E Bk' w' hz f nk=>?_;obtain⟨B',R,hN⟩:=J E _ Bk' w' f (fun b I=>e.rd b (C b I)) nk fun a ha=>(BB ha).elim (fun h=>by rw[h];exact hB) (e.node.2.1.2.2 a);obtain⟨e',h'⟩:=e.mE h C f (hN _ (e.fi R) hz) R;exact kk E B' w' e' h' (e.jG C f R)
def Ed.Ai(e:Ed dbk pb FD D j S0 N0 w0 w (eY L) Y F M x n B)(h:dM T wa w L)(hi:i<n.J6.length)(J:ii=i)(R:jj=((i+1:Nat):Int))(U:n.J6.length<=100000)(V:∀E B' w',Ed dbk pb FD D j S0 N0 w0 w' (eY L) Y F M (x.1,E,x.2.2) { n with J6:=gH n.J6 i } B'->dM (eY L) w' w' L->me FD Y F B B' (eY L) w w'->K E w'): cW 168 [x.2.1.v,.i ii,.i jj] de w K:=by obtain⟨Bk,C,u,I⟩:=e.node.qC;refine C.del (fun b C=>e.rd b (u b C)) hi J R U fun E w' hz f=>?_;obtain⟨B',G,hN⟩:=I E _ Bk w' f (fun b C=>e.rd b (u b C)) (fun b C=>.inl C) fun a ha=>e.node.2.1.1 a (CX ha);obtain⟨e',h'⟩:=e.mE h u f (hN _ (e.fi G) (hz _ (e.fi G))) G;exact V E B' w' e' h' (e.jG u f G)
def Ed.Dy(e:Ed dbk pb FD D j S0 N0 w0 w (eY L) Y F M x n B)(h:dM T wa w L)(hi:i<n.Q0.length)(J:ii=i)(R:jj=((i+1:Nat):Int))(U:n.Q0.length<=100000)(V:∀E B' w',Ed dbk pb FD D j S0 N0 w0 w' (eY L) Y F M (x.1,x.2.1,E,x.2.2.2) { n with Q0:=gH n.Q0 i } B'->dM (eY L) w' w' L->me FD Y F B B' (eY L) w w'->K E w'): cW 168 [x.2.2.1.v,.i ii,.i jj] de w K:=by obtain⟨Bk,C,u,I⟩:=e.node.qp;refine C.del (fun b C=>e.rd b (u b C)) hi J R U fun E w' hz f=>?_;obtain⟨B',G,hN⟩:=I E _ Bk w' f (fun b C=>e.rd b (u b C)) (fun b C=>.inl C) fun a ha=>e.node.2.1.2.1 a (CX ha);obtain⟨e',h'⟩:=e.mE h u f (hN _ (e.fi G) (hz _ (e.fi G))) G;exact V E B' w' e' h' (e.jG u f G)
def Ed.FQ(e:Ed dbk pb FD D j S0 N0 w0 w (eY L) Y F M x n B)(h:dM T wa w L)(hi:i<n.J9.length)(J:ii=i)(R:jj=((i+1:Nat):Int))(U:n.J9.length<=100000)(V:∀C B' w',Ed dbk pb FD D j S0 N0 w0 w' (eY L) Y F M (x.1,x.2.1,x.2.2.1,C) { n with J9:=gH n.J9 i } B'->dM (eY L) w' w' L->me FD Y F B B' (eY L) w w'->K C w'): cW 239 [x.2.2.2.v,.i ii,.i jj] de w K:=by obtain⟨Bk,E,u,G⟩:=e.node.qr;refine qtN E hi J R U fun C w' hz f=>?_;obtain⟨B',I,hN⟩:=G C _ Bk w' f (fun b E=>e.rd b (u b E)) (fun b E=>.inl E) fun a ha=>e.node.2.1.2.2 a (CX ha);obtain⟨e',h'⟩:=e.mE h u f (hN _ (e.fi I) hz) I;exact V C B' w' e' h' (e.jG u f I)
def Ed.zm{K:WP}(e:Ed dbk pb FD D j S0 N0 w0 w (eY L) Y F M x n B)(h:dM T wa w L)(hi:i<n.J6.length)(I:ii=i)(J:eE (Zo FD (eY L++(B++Y)) F) w ks key)(R:eB key)(U:∀B' w',Ed dbk pb FD D j S0 N0 w0 w' (eY L) Y F M (x.1,x.2.1,x.2.2) { n with J6:=n.J6.set i key } B'->dM (eY L) w' w' L->me FD Y F B B' (eY L) w w'->K w'): idx x.2.1 ii 1 fun a=>st a [ks.v] w K:=by
 obtain⟨Bk,C,u,G⟩:=e.node.qC;refine C.set (fun b C=>e.rd b (u b C)) hi I J fun w' V f=>?_;obtain⟨B',E,hN⟩:=G x.2.1 _ Bk w' f (fun b C=>e.rd b (u b C)) (fun b C=>.inl C) fun a ha=>(mem_or_eq_of_mem_set ha).elim (e.node.2.1.1 a) fun h=>by rw[h];exact R
 obtain⟨e',h'⟩:=e.mE h u f (hN _ (e.fi E) (V _ (e.fi E))) E;exact U B' w' e' h' (e.jG u f E)
def Ed.Eu{K:WP}(e:Ed dbk pb FD D j S0 N0 w0 w (eY L) Y F M x n B)(h:dM T wa w L)(hi:i<n.Q0.length)(I:ii=i)(J:eE (Zo FD (eY L++(B++Y)) F) w ks key)(R:eB key)(U:∀B' w',Ed dbk pb FD D j S0 N0 w0 w' (eY L) Y F M (x.1,x.2.1,x.2.2.1,x.2.2.2) { n with Q0:=n.Q0.set i key } B'->dM (eY L) w' w' L->me FD Y F B B' (eY L) w w'->K w'): idx x.2.2.1 ii 1 fun a=>st a [ks.v] w K:=by
 obtain⟨Bk,C,u,G⟩:=e.node.qp;refine C.set (fun b C=>e.rd b (u b C)) hi I J fun w' V f=>?_;obtain⟨B',E,hN⟩:=G x.2.2.1 _ Bk w' f (fun b C=>e.rd b (u b C)) (fun b C=>.inl C) fun a ha=>(mem_or_eq_of_mem_set ha).elim (e.node.2.1.2.1 a) fun h=>by rw[h];exact R
 obtain⟨e',h'⟩:=e.mE h u f (hN _ (e.fi E) (V _ (e.fi E))) E;exact U B' w' e' h' (e.jG u f E)
def Ed.tj{G:Int}{K:WP}(e:Ed dbk pb FD D j S0 N0 w0 w (eY L) Y F M x n B)(h:dM T wa w L)(hi:i<n.J9.length)(R:ii=i)(U:gy G)(V:∀B' w',Ed dbk pb FD D j S0 N0 w0 w' (eY L) Y F M (x.1,x.2.1,x.2.2.1,x.2.2.2) { n with J9:=n.J9.set i G } B'->dM (eY L) w' w' L->me FD Y F B B' (eY L) w w'->K w'): idx x.2.2.2 ii 1 fun a=>st a [.u G] w K:=by
 obtain⟨Bk,E,C,I⟩:=e.node.qr;refine qAh E hi R fun w' hz f=>?_;obtain⟨B',J,hN⟩:=I x.2.2.2 _ Bk w' f (fun b E=>e.rd b (C b E)) (fun b E=>.inl E) fun a ha=>(mem_or_eq_of_mem_set ha).elim (e.node.2.1.2.2 a) fun h=>by rw[h];exact U
 obtain⟨e',h'⟩:=e.mE h C f (hN _ (e.fi J) hz) J;exact V B' w' e' h' (e.jG C f J)
def Ed.oX(e:Ed dbk pb FD D j S0 N0 w0 w (eY L) Y F M x n B)(h:dM T wa w L)(J:n.J6.length<=100000)(q:Nat)(R:L[q]?=some (vb,.cells #[fN ks] T' (0,0)))(U:eE (Zo FD (eY L++(B++Y)) F) w ks key)(V:eB key)(kk:∀C B' w',Ed dbk pb FD D j S0 N0 w0 w' (eY L) Y F M (x.1,C,x.2.2) { n with J6:=n.J6++[key] } B'->dM (eY L) w' w' L->me FD Y F B B' (eY L) w w'->K C w'): Pt.run de ((Builtin.append_ #[171,171] 171 #[x.2.1.v,.slice (pW vb) 1 1]).run prog w) K:=by
 obtain⟨Bk,E,u,I⟩:=e.node.qC;refine E.A7 (fun b E=>e.rd b (u b E)) J (h.at R) U fun C Bk' w' hz f nk=>?_;obtain⟨B',G,hN⟩:=I C _ Bk' w' f (fun b E=>e.rd b (u b E)) nk fun a ha=>(zD.1 ha).elim (e.node.2.1.1 a) fun h=>by rw[zE.1 h];exact V
 obtain⟨e',h'⟩:=e.mE h u f (hN _ (e.fi G) (hz _ (e.fi G))) G;exact kk C B' w' e' h' (e.jG u f G)
def Ed.vI(e:Ed dbk pb FD D j S0 N0 w0 w (eY L) Y F M x n B)(h:dM T wa w L)(J:n.Q0.length<=100000)(q:Nat)(R:L[q]?=some (vb,.cells #[fN ks] T' (0,0)))(U:eE (Zo FD (eY L++(B++Y)) F) w ks key)(V:eB key)(kk:∀C B' w',Ed dbk pb FD D j S0 N0 w0 w' (eY L) Y F M (x.1,x.2.1,C,x.2.2.2) { n with Q0:=n.Q0++[key] } B'->dM (eY L) w' w' L->me FD Y F B B' (eY L) w w'->K C w'): Pt.run de ((Builtin.append_ #[171,171] 171 #[x.2.2.1.v,.slice (pW vb) 1 1]).run prog w) K:=by
 obtain⟨Bk,E,u,I⟩:=e.node.qp;refine E.A7 (fun b E=>e.rd b (u b E)) J (h.at R) U fun C Bk' w' hz f nk=>?_;obtain⟨B',G,hN⟩:=I C _ Bk' w' f (fun b E=>e.rd b (u b E)) nk fun a ha=>(zD.1 ha).elim (e.node.2.1.2.1 a) fun h=>by rw[zE.1 h];exact V
 obtain⟨e',h'⟩:=e.mE h u f (hN _ (e.fi G) (hz _ (e.fi G))) G;exact kk C B' w' e' h' (e.jG u f G)
def Ed.vj{G:Int}(e:Ed dbk pb FD D j S0 N0 w0 w (eY L) Y F M x n B)(h:dM T wa w L)(U:n.J9.length<=100000)(q:Nat)(V:L[q]?=some (vb,.cells #[.u G] T' (0,0)))(hB:gy G)(kk:∀E B' w',Ed dbk pb FD D j S0 N0 w0 w' (eY L) Y F M (x.1,x.2.1,x.2.2.1,E) { n with J9:=n.J9++[G] } B'->dM (eY L) w' w' L->me FD Y F B B' (eY L) w w'->K E w'): Pt.run de ((Builtin.append_ #[172,172] 172 #[x.2.2.2.v,.slice (pW vb) 1 1]).run prog w) K:=by
 obtain⟨Bk,I,C,J⟩:=e.node.qr;refine qs2 I U (h.at V) fun E Bk' w' hz f nk=>?_;obtain⟨B',R,hN⟩:=J E _ Bk' w' f (fun b I=>e.rd b (C b I)) nk fun a ha=>(zD.1 ha).elim (e.node.2.1.2.2 a) fun h=>by rw[zE.1 h];exact hB
 obtain⟨e',h'⟩:=e.mE h C f (hN _ (e.fi R) hz) R;exact kk E B' w' e' h' (e.jG C f R)
def Ed.uB(e:Ed dbk pb FD D j S0 N0 w0 w (eY L) Y F M x n B)(h:dM T wa w L)(R:n.J6.length+ps.length<=100000)(U:dW gg 1 S w src (ij ps))(I:∀p∈ps,eE (Zo FD (eY L++(B++Y)) F) w p.1 p.2)(V:∀a∈fV ps,eB a)(kk:∀C B' w',Ed dbk pb FD D j S0 N0 w0 w' (eY L) Y F M (x.1,C,x.2.2) { n with J6:=n.J6++fV ps } B'->dM (eY L) w' w' L->me FD Y F B B' (eY L) w w'->K C w'): Pt.run de ((Builtin.append_ #[171,171] 171 #[x.2.1.v,src.v]).run prog w) K:=by obtain⟨Bk,E,u,J⟩:=e.node.qC;refine E.tr (fun b E=>e.rd b (u b E)) R U I fun C Bk' w' hz f nk=>?_;obtain⟨B',G,hN⟩:=J C _ Bk' w' f (fun b E=>e.rd b (u b E)) nk fun a ha=>(zD.1 ha).elim (e.node.2.1.1 a) (V a);obtain⟨e',h'⟩:=e.mE h u f (hN _ (e.fi G) (hz _ (e.fi G))) G;exact kk C B' w' e' h' (e.jG u f G)
def Ed.uf(e:Ed dbk pb FD D j S0 N0 w0 w (eY L) Y F M x n B)(h:dM T wa w L)(R:n.Q0.length+ps.length<=100000)(U:dW gg 1 S w src (ij ps))(I:∀p∈ps,eE (Zo FD (eY L++(B++Y)) F) w p.1 p.2)(V:∀a∈fV ps,eB a)(kk:∀C B' w',Ed dbk pb FD D j S0 N0 w0 w' (eY L) Y F M (x.1,x.2.1,C,x.2.2.2) { n with Q0:=n.Q0++fV ps } B'->dM (eY L) w' w' L->me FD Y F B B' (eY L) w w'->K C w'): Pt.run de ((Builtin.append_ #[171,171] 171 #[x.2.2.1.v,src.v]).run prog w) K:=by obtain⟨Bk,E,u,J⟩:=e.node.qp;refine E.tr (fun b E=>e.rd b (u b E)) R U I fun C Bk' w' hz f nk=>?_;obtain⟨B',G,hN⟩:=J C _ Bk' w' f (fun b E=>e.rd b (u b E)) nk fun a ha=>(zD.1 ha).elim (e.node.2.1.2.1 a) (V a);obtain⟨e',h'⟩:=e.mE h u f (hN _ (e.fi G) (hz _ (e.fi G))) G;exact kk C B' w' e' h' (e.jG u f G)
def Ed.ut{ys:List Int}(e:Ed dbk pb FD D j S0 N0 w0 w (eY L) Y F M x n B)(h:dM T wa w L)(J:n.J9.length+ys.length<=100000)(R:dW ik 1 S w src ys)(U:∀y∈ys,gy y)(V:∀C B' w',Ed dbk pb FD D j S0 N0 w0 w' (eY L) Y F M (x.1,x.2.1,x.2.2.1,C) { n with J9:=n.J9++ys } B'->dM (eY L) w' w' L->me FD Y F B B' (eY L) w w'->K C w'): Pt.run de ((Builtin.append_ #[172,172] 172 #[x.2.2.2.v,src.v]).run prog w) K:=by obtain⟨Bk,E,u,G⟩:=e.node.qr;refine qyu E J R fun C Bk' w' hz f nk=>?_;obtain⟨B',I,hN⟩:=G C _ Bk' w' f (fun b E=>e.rd b (u b E)) nk fun a ha=>(zD.1 ha).elim (e.node.2.1.2.2 a) (U a);obtain⟨e',h'⟩:=e.mE h u f (hN _ (e.fi I) hz) I;exact V C B' w' e' h' (e.jG u f I)
end
end
section
def A6{D:dE}{M:dU}(h:dF D M k v p=(n,0)):fx n k v:=by
 unfold dF at h;split at h;rename_i u;exact absurd (congrArg (·.2) h) u
 have:=qrL (kind:=(dD D M p).1) (b:=(dD D M p).2.1) (k:=k) (v:=v) (by rw[h])
 rw[h] at this;exact this
def ur(h:fx n k v):n.J6.length<=498/\n.Q0.length<=498/\n.J9.length<=498/\(n.Q4=true->n.Q0.length=n.J6.length/\n.J6.length<=(dQ k v).1)/\(n.Q4=false->n.J6.length+1=n.J9.length/\n.J9.length<=(dQ k v).2/\2<=n.J9.length):=by
 have R:=AF (k:=k) (v:=v);obtain⟨_,_,_,u⟩:=h;cases I:n.Q4 with
 | true=>
  rw[I,if_pos rfl] at u;obtain⟨C,J,E,G⟩:=u;rw[C];exact⟨oJ,oJ,oL,fun _=>⟨G,E⟩,fun h=>nomatch h⟩
 | false=>
  rw[I,if_neg oM] at u;obtain⟨_,C,J,E,G⟩:=u;rw[C];exact⟨oJ,oL,oJ,fun h=>(nomatch h),fun _=>⟨G,E,J⟩⟩
section
variable {D:dE} {M M1:dU} {k v f:Nat} {key val:Key} {p e0 e1:Int} {n:dG} {g:Grown}
def qxL(h:dF D M k v p=(n,e0))(u:e0≠0):gM D k v key val (f+1) M p=((nI,e0),M):=by unfold gM;rw[h,if_pos u]
def qxM(h:dF D M k v p=(n,0))(u:n.Q4=true)(C:n.J6[dI n.J6 key]?=some key):gM D k v key val (f+1) M p=fS k v M p { n with Q0:=n.Q0.set (dI n.J6 key) val } false:=by unfold gM;rw[h,if_neg (fun h=>h rfl),if_pos u,if_pos C]
def qwp(h:dF D M k v p=(n,0))(u:n.Q4=true)(C:¬n.J6[dI n.J6 key]?=some key):gM D k v key val (f+1) M p=fS k v M p { n with J6:=fy n.J6 (dI n.J6 key) key,Q0:=fy n.Q0 (dI n.J6 key) val } true:=by unfold gM;rw[h,if_neg (fun h=>h rfl),if_pos u,if_neg C]
def qpJ(h:dF D M k v p=(n,0))(u:¬n.Q4=true)(C:gM D k v key val f M (n.J9.getD (dZ n.J6 key) 0)=((g,e1),M1))(E:e1≠0):gM D k v key val (f+1) M p=((nI,e1),M1):=by unfold gM;rw[h,if_neg (fun h=>h rfl),if_neg u];dsimp only;rw[C,if_pos E]
def qwq(h:dF D M k v p=(n,0))(u:¬n.Q4=true)(C:gM D k v key val f M (n.J9.getD (dZ n.J6 key) 0)=((g,0),M1))(E:g.x5=n.J9.getD (dZ n.J6 key) 0/\g.x4=0):gM D k v key val (f+1) M p=((⟨p,g.J8,[],0⟩,0),M1):=by unfold gM;rw[h,if_neg (fun h=>h rfl),if_neg u];dsimp only;rw[C,if_neg (fun h=>h rfl),if_pos E]
def qy7(h:dF D M k v p=(n,0))(u:¬n.Q4=true)(C:gM D k v key val f M (n.J9.getD (dZ n.J6 key) 0)=((g,0),M1))(E:¬(g.x5=n.J9.getD (dZ n.J6 key) 0/\g.x4=0)):gM D k v key val (f+1) M p=fS k v M1 p (gp n (dZ n.J6 key) g) g.J8:=by unfold gM;rw[h,if_neg (fun h=>h rfl),if_neg u];dsimp only;rw[C,if_neg (fun h=>h rfl),if_neg E]
end
def qxF(u:n.Q4=true)(C:n.Q0.length=n.J6.length):(eM n k v).1>(eM n k v).2->nM n ((eM n k v).1 / 2):=fun h=>by unfold nM;have e:(eM n k v).1=n.J6.length:=(by unfold eM;rw[if_pos u]);rw[if_pos u,C];rw[e] at h⊢;omega
def qwh(u:¬n.Q4=true)(C:n.J6.length+1=n.J9.length)(E:2<=n.J9.length):(eM n k v).1>(eM n k v).2->nM n ((eM n k v).1 / 2):=fun h=>by unfold nM;have e:(eM n k v).1=n.J9.length:=(by unfold eM;rw[if_neg u]);rw[if_neg u];rw[e] at h⊢;omega
def AC{α:Type}{l:List α}{x:α}(h:i<=l.length):(fy l i x).length=l.length+1:=by unfold fy;simp;omega
def dW.cP{l:List Int}{i:Int}{K:Addr->Int->Prop}(h:dW ik 1 S w s l)(n:Nat)(hi:i=n)(R:n<l.length)(U:∀a,(∀S' w',dW ik 1 S' w' s l->w'.cell? a=some (.u l[n]))->K a l[n]):idx s i 1 fun a=>ld .u a w fun y=>K a y:=by
 subst hi;have I:l[n]?=some l[n]:=zA R;obtain⟨hl,b,o,J,_,cs,T,fr,hb,hc⟩:=h.at n I;refine pY J ⟨oJ,oJ⟩ ?_;rw[zJ];have key:∀S' w',dW ik 1 S' w' s l->w'.cell? ⟨b,o+n*1,none⟩=some (.u l[n]):=fun S' w' V=>by
  obtain⟨_,b',o',C,_,aa,T',ab,E,G⟩:=V.at n I;rw[J] at C;cases C;rw[je E]
  have:=congrArg (·[0]?) G
  simpa[ik] using this
 exact oV l[n] (key S w h) (U _ key)
section
variable {dbk pb j:Nat} {FD S0 N0 Y F F' F0 T B:List Nat} {D:dE} {w0 wa w w':World} {M M':dU} {L:List (Nat×Obj)} {x:jP} {n:dG} {k v:Nat} {t:Int}
def Ed.load{w7:World}(C:∀b∈N0,b∈S0)(g:Sg S0 w0 wa F T)(h:dM T wa w L)(G:TW dbk pb FD D j w7 (B++(eY L++Y)) F M)(I:eV (Zo FD (B++(eY L++Y)) F) w7 x n B)(f:Fr [] w w7)(E:∀c∈B,w.heap.size<=c)(J:∀b∈Y,b<w.heap.size): Ed dbk pb FD D j S0 N0 w0 w7 (eY L) Y F M x n B/\dM (eY L) w7 w7 L:=by
 refine⟨⟨g.cA h f,G.y0 fun b u=>?_,I.j6 fun b u=>.inl ?_,fun b u R=>?_,fun b u=>.inr (zL (g.fr h).size (E b u)),C,fun b u U=>?_⟩,pS h f fun _ _ h=>nomatch h⟩;simp only[zD] at u⊢;rcases u with u|u|u<;>simp[u];simp only[Zo,zD,zG] at u⊢;rcases u with (u|u|u|u|u)|u<;>simp[u]
 have:=vO h b u;have:=E b R;omega
 have:=J b U;have:=E b u;omega
def Ed.y6(e:Ed dbk pb FD D j S0 N0 w0 w T Y F M x n B):dW ik 1 (Zo FD (T++Y) F) w x.2.2.2 n.J9:=e.y9.2.2.2.2
def Ed.fr(e:Ed dbk pb FD D j S0 N0 w0 w T Y F M x n B):Fr S0 w0 w:=e.sg.py
def lq{L':List (Nat×Obj)}(h:dM T wa w L)(u:L'.Sublist L):dM (eY L') w w L':=(h.sub u).kZ
def D6{ks vs:Sl}{key val:Key}(af:eB key)(ai:eB val):∀(f:Nat) {Y F:List Nat} {w0:World} {M:dU} {p:Int} {K:Cu×Int->WP} (hT:TW dbk pb FD D j w0 Y F M) (hp:gy p) (hk:eE (Zo FD Y F) w0 ks key) (hv:eE (Zo FD Y F) w0 vs val) (am:(gM D k v key val f M p).1.2≠-1) (kk:∀gs F' w',Gb (gM D k v key val f M p).1.1->TW dbk pb FD D j w' Y F' (gM D k v key val f M p).2->eE (Zo FD Y F') w' gs (gM D k v key val f M p).1.1.key->Fr F w0 w'->(∀b∈F',b∈F\/w0.heap.size<=b)->K (sq (gM D k v key val f M p).1.1 gs,(gM D k v key val f M p).1.2) w'), cW 132 [.agg (mR (jt k v pb t)),.u p,ks.v,vs.v] [.agg po,.one .i] w0 K
 | 0,_,_,_,_,_,_,_,_,_,_,am,_=>absurd rfl am
 | f+1,Y,F,w0,M,p,K,hT,hp,hk,hv,am,kk=>by
  refine qmE ?_;unfold Cp FR Ca;have h:=oE [] w0;have g:=Sg.start F w0;refine oB h fun r1 w2 _ _ h=>oB h fun r3 w4 _ _ h=>oC h 1 rfl (jt k v pb t) rfl ?_;rcases R:dF D M k v p with ⟨n,e0⟩;refine AN (k:=k) (v:=v) (hT.cB h) hp fun x B w7 bg aL f7 bh=>?_;rw[R] at aL⊢;dsimp only at aL;obtain⟨e,h⟩:=Ed.load (N0:=[]) (fun _ h=>nomatch h) g h bg aL f7 bh fun b hb=>yC (hT.pX b hb) h.fr.size;refine oB h fun r8 w9 _ _ h=>oD h 0 rfl (eF x) fun bT h _=>dR (fun hc=>?_) (fun hc=>?_);have aW:e0≠0:=by rw[zT] at hc;exact zR.1 hc
  rw[qxL R aW] at kk;exact oD h 1 rfl (pg (0,false,dC,0)) fun bi h _=>oC h 1 rfl (0,false,dC,0) rfl<|kk dC F bi E9 (e.J0 h).qb.j7 (.nil _ _ _ _) (e.J0 h).fr (e.J0 h).sg.new;have bj:e0=0:=by rw[yD] at hc;exact yO.1 hc
  subst bj;have hr:=A6 R;obtain⟨l1,l2,l3,l4,l5⟩:=ur hr;have e:=e.J0 h;have h:=lq h (.refl _);have aX:x.1=n.Q4:=e.node.1;refine oA h 0 rfl x.1 rfl<|dR (fun hc=>?_) (fun hc=>?_);rw[aX] at hc;obtain⟨l6,l7⟩:=l4 hc;refine oC h 0 rfl x rfl<|BX e.y9 (e.cT hk) af hr.2.2.1 oJ fun bX bm=>?_;obtain⟨e,h⟩:=e.cA h bm;have ao:=Fg n.J6 key;refine gQ (fun _ w'=>∃x' n' B',dM [r8,r3,r1] w' w' [(r8,.cells (eF x') ND (0,0)),(r3,.cells (pg (0,false,dC,0)) GR (0,0)),(r1,.cells (mR (jt k v pb t)) WK (0,0))]/\Ed dbk pb FD D j F [] w0 w' [r8,r3,r1] Y F M x' n' B'/\
   gM D k v key val (f+1) M p=fS k v M p n' (!decide (n.J6[dI n.J6 key]?=some key))/\n'.Q4=true/\n'.Q0.length=n'.J6.length/\n'.J6.length<=1000/\n'.J9.length<=1000) ?_ ?_
  refine dR (fun U=>?_) (fun U=>?_);have aN:=zC U;have bY:=(zP.1 aN).1;refine oA h 0 rfl x.2.2.1 rfl<|e.Eu h (i:=dI n.J6 key) oJ rfl (e.cT hv) ai fun B' bZ e h _=>⟨x,_,B',h,e,?_,hc,by dsimp only;rw[xF];exact l6,by dsimp only;omega,by dsimp only;omega⟩;rw[qxM R hc aN,zZ aN];rfl;have aC:=zB U;have I:gM D k v key val (f+1) M p=fS k v M p { n with J6:=fy n.J6 (dI n.J6 key) key,Q0:=fy n.Q0 (dI n.J6 key) val } (!decide (n.J6[dI n.J6 key]?=some key)):=by rw[qwp R hc aC,zU aC];rfl
  have ap:(fy n.Q0 (dI n.J6 key) val).length=(fy n.J6 (dI n.J6 key) key).length:=(by rw[AC oJ,AC ao,l6]);have aq:(fy n.J6 (dI n.J6 key) key).length<=1000:=(by rw[AC ao];omega);refine⟨?_,?_,?_⟩;have h:=oF h;refine oA h 0 rfl x.2.1 rfl<|oA h 0 rfl x.2.2.1 rfl<|oB h fun b0 b1 _ _ h=>jX (h.cell 1 rfl rfl) (h.cell 1 rfl rfl) ?_;have e:=e.J0 h;refine e.cO h (i:=dI n.J6 key) ao rfl oJ 0 rfl (e.cT hk) af fun ab B1 aY e h _=>ia (h.cell 1 rfl rfl)<|oB h fun b2 b3 _ _ h=>jX (h.cell 2 rfl rfl) (h.cell 2 rfl rfl) ?_;have e:=e.J0 h;exact e.rN h (i:=dI n.J6 key) oN rfl oN 0 rfl (e.cT hv) ai fun ar B2 aZ e h _=>oD h 2 rfl (eF (x.1,ab,x.2.2.1,x.2.2.2)) fun a0 h _=>oD h 2 rfl (eF (x.1,ab,ar,x.2.2.2)) fun a1 h _=>⟨_,_,B2,lq h (.cons _ (.cons _ (.refl _))),(e.J0 h).sub oL,I,hc,ap,aq,by dsimp only;omega⟩;have h:=oF h;refine oA h 0 rfl x.2.1 rfl<|oA h 0 rfl x.2.2.1 rfl<|oB h fun b4 b5 _ _ h=>jX (h.cell 1 rfl rfl) (h.cell 1 rfl rfl)<|oB h fun b6 b7 _ _ h=>jX (h.cell 2 rfl rfl) (h.cell 2 rfl rfl) ?_;have e:=e.J0 h;exact e.cO h (i:=dI n.J6 key) ao rfl oJ 1 rfl (e.cT hk) af fun ab B1 aY e h _=>ia (h.cell 2 rfl rfl)<|e.rN h (i:=dI n.J6 key) oN rfl oN 0 rfl (e.cT hv) ai fun ar B2 aZ e h _=>oD h 2 rfl (eF (x.1,ab,x.2.2.1,x.2.2.2)) fun a0 h _=>oD h 2 rfl (eF (x.1,ab,ar,x.2.2.2)) fun a1 h _=>⟨_,_,B2,lq h (.cons _ (.cons _ (.refl _))),(e.J0 h).sub oL,I,hc,ap,aq,by dsimp only;omega⟩;have h:=oF h;refine oA h 0 rfl x.2.1 rfl<|oA h 0 rfl x.2.2.1 rfl<|oB h fun b8 b9 _ _ h=>jX (h.cell 1 rfl rfl) (h.cell 1 rfl rfl)<|oB h fun ca cc _ _ h=>jX (h.cell 2 rfl rfl) (h.cell 2 rfl rfl) ?_;have e:=e.J0 h;exact e.cO h (i:=dI n.J6 key) ao rfl oJ 0 rfl (e.cT hk) af fun ab B1 aY e h _=>ia (h.cell 2 rfl rfl)<|e.rN h (i:=dI n.J6 key) oN rfl oN 1 rfl (e.cT hv) ai fun ar B2 aZ e h _=>oD h 2 rfl (eF (x.1,ab,x.2.2.1,x.2.2.2)) fun a0 h _=>oD h 2 rfl (eF (x.1,ab,ar,x.2.2.2)) fun a1 h _=>⟨_,_,B2,lq h (.cons _ (.cons _ (.refl _))),(e.J0 h).sub oL,I,hc,ap,aq,by dsimp only;omega⟩;rintro _ cd ⟨x',n',B',h,e,I,m0,m1,m2,m3⟩;rw[I] at kk;refine oC h 2 rfl (jt k v pb t) rfl<|oC h 0 rfl x' rfl<|qpW (Y:=[r8,r3,r1]++Y) e.qb e.y9 oJ oJ oJ (qxF m0 m1) hp fun gs F' cg hG a2 C a3 bn=>?_;have g:=e.sg.next h a3 bn
  have h:=pS h a3 fun b hb=>e.qb.yf b (by simp at hb⊢;rcases hb with h|h|h<;>simp[h]);exact oG h 1 rfl (pg (sq (fS k v M p n' (!decide (n.J6[dI n.J6 key]?=some key))).1.1 gs)) rfl rfl (zO rfl) fun bo h _=>oC h 1 rfl (sq (fS k v M p n' (!decide (n.J6[dI n.J6 key]?=some key))).1.1 gs) rfl<|kk gs F' bo hG (a2.J0 h).j7 (C8 (pu C h)) (g.fr h) g.new
  ·rw[aX] at hc;have aj:¬n.Q4=true:=(by rw[hc];decide);obtain⟨l6,l7,l8⟩:=l5 hc;refine oC h 0 rfl x rfl<|Bc e.y9 (e.cT hk) af hr.2.2.1 oJ fun ch bp=>?_;obtain⟨e,h⟩:=e.cA h bp;have au:=xh n.J6 key;generalize ax:dZ n.J6 key=c at au⊢;have ak:c<n.J9.length:=oJ;have aO:n.J9.getD c 0=n.J9[c]:=(by rw[yQ,zA ak];rfl);have hu:gy n.J9[c]:=e.node.2.1.2.2 _ (zW ak);rcases av:gM D k v key val f M n.J9[c] with ⟨⟨E,e1⟩,M1⟩;have ac:gM D k v key val f M (n.J9.getD (dZ n.J6 key) 0)=((E,e1),M1):=(by rw[ax,aO];exact av);have aE:e1≠-1:=fun h1=>by rw[h1] at ac;rw[qpJ R aj ac oM] at am;exact am rfl
   refine⟨?a,?b⟩;case' a=>
    have h:=oF h;have e:=e.J0 h;refine oC h 2 rfl (jt k v pb t) rfl<|oA h 0 rfl x.2.2.2 rfl<|dW.cP e.y6 c rfl ak fun bq hh=>D6 af ai f e.tw hu (e.cT hk) (e.cT hv) (by rw[av];exact aE) fun gs F1 bt hG ad C aP aQ=>?_;rw[av] at hG ad C⊢;obtain⟨e,h⟩:=e.next h ad aP aQ
    refine oB h fun aw bu _ _ h=>mB (hh _ _ (e.J0 h).y6) (h.cell 1 rfl rfl) (h.cells 3 rfl rfl)<|oD h 0 rfl (pg (sq E gs)) fun a5 h _=>?_;have C:=pu C h;have e:=e.J0 h;have h:=lq h (.refl _)
   case' b=>
    have h:=oF h;have e:=e.J0 h;have h:=lq h (.refl _);refine oC h 2 rfl (jt k v pb t) rfl<|oA h 0 rfl x.2.2.2 rfl<|dW.cP e.y6 c rfl ak fun bq hh=>oB h fun aw bu _ _ h=>?_;have e:=e.J0 h;refine mB (hh _ _ e.y6) (h.cell 1 rfl rfl) (h.cells 3 rfl rfl)<|D6 af ai f e.tw hu (e.cT hk) (e.cT hv) (by rw[av];exact aE) fun gs F1 bt hG ad C aP aQ=>?_;rw[av] at hG ad C⊢;obtain⟨e,h⟩:=e.next h ad aP aQ
    refine oD h 0 rfl (pg (sq E gs)) fun a5 h _=>?_;have C:=pu C h;have e:=e.J0 h;have h:=lq h (.refl _)
   all_goals
    refine dR (fun U=>?_) (fun U=>?_);have a6:e1≠0:=by rw[zT] at U;exact zR.1 U
    rw[qpJ R aj ac a6] at kk;exact oD h 2 rfl (pg (0,false,dC,0)) fun bv h _=>oC h 2 rfl (0,false,dC,0) rfl<|kk dC F1 bv E9 (e.J0 h).qb.j7 (.nil _ _ _ _) (e.J0 h).fr (e.J0 h).sg.new;have bx:e1=0:=by rw[yD] at U;exact yO.1 U
    subst bx;refine gQ (fun b w'=>b=decide (E.x5=n.J9[c]/\E.x4=0)/\w'=a5.drew) ?_ ?_;have h:=oF h;refine oA h 0 rfl E.x5 rfl<|oA h 1 rfl x.2.2.2 rfl<|dW.get (e.J0 h).y6 c rfl (zA ak) (y:=n.J9[c]) rfl<|dR (fun G=>?_) (fun G=>?_);have G:E.x5=n.J9[c]:=yO.1 G;refine oA h 0 rfl E.x4 rfl ⟨?_,rfl⟩;rw[Bool.eq_iff_iff,yO,yM];exact⟨fun h=>⟨G,h⟩,fun h=>h.2⟩;have G:E.x5≠n.J9[c]:=zR.1 G;exact⟨(zU fun h=>G h.1).symm,rfl⟩;rintro bB bC ⟨rfl,rfl⟩;have h:=oF h;have C:=pu C h;have e:=e.J0 h;have h:=lq h (.refl _);refine dR (fun G=>?_) (fun G=>?_);have G:=zC G;rw[<- aO,<- ax] at G;rw[qwq R aj ac G] at kk;exact oA h 0 rfl E.J8 rfl<|oD h 2 rfl (pg (p,E.J8,dC,0)) fun a7 h _=>oC h 2 rfl (p,E.J8,dC,0) rfl<|kk dC F1 a7 ⟨hp,tI,.nil⟩ (e.J0 h).qb.j7 (.nil _ _ _ _) (e.J0 h).fr (e.J0 h).sg.new;have G:=zB G;rw[<- aO,<- ax] at G;have I:=qy7 R aj ac G;rw[ax] at I;rw[I] at kk;refine oA h 1 rfl x.2.2.2 rfl<|oA h 0 rfl E.x5 rfl<|e.tj h (i:=c) ak rfl hG.x5 fun B1 bD e h kp=>?_;have C:=kp.cT _ _ C;refine gQ (fun _ w'=>∃x' B',dM [aw,r8,r3,r1] w' w' [(aw,.cells (pg (sq E gs)) GR (0,0)),(r8,.cells (eF x') ND (0,0)),(r3,.cells (pg (0,false,dC,0)) GR (0,0)),(r1,.cells (mR (jt k v pb t)) WK (0,0))]/\Ed dbk pb FD D j F [] w0 w' [aw,r8,r3,r1] Y F1 M1 x' (gp n c E) B'/\
     ¬(gp n c E).Q4=true/\(gp n c E).J6.length+1=(gp n c E).J9.length/\2<=(gp n c E).J9.length/\(gp n c E).J9.length<=1000/\(gp n c E).Q0.length<=1000) ?_ ?_
    refine oA h 0 rfl E.x4 rfl<|dR (fun V=>?_) (fun V=>?_);have V:E.x4≠0:=by rw[zT] at V;exact zR.1 V
    have eg:gp n c E={ n with J9:=fy (n.J9.set c E.x5) (c+1) E.x4,J6:=fy n.J6 c E.key }:=(by unfold gp;rw[if_pos V]);have ah:¬(gp n c E).Q4=true/\(gp n c E).J6.length+1=(gp n c E).J9.length/\2<=(gp n c E).J9.length/\(gp n c E).J9.length<=1000/\(gp n c E).Q0.length<=1000:=(by rw[eg];dsimp only;rw[AC au,AC (l:=n.J9.set c E.x5) (by rw[xF];omega),xF];exact⟨aj,oJ,oJ,oJ,oJ⟩);rw[eg] at ah⊢;have ew:wrap .i64 ((c:Int)+1)=((c+1:Nat):Int):=qG oJ;rw[ew];refine⟨?_,?_,?_⟩;have h:=oF h;refine oA h 1 rfl x.2.2.2 rfl<|oA h 0 rfl E.x4 rfl<|oA h 1 rfl x.2.1 rfl<|oA h 0 rfl gs rfl<|oB h fun bE bF _ _ h=>mB (h.cell 1 rfl rfl) (h.cell 2 rfl rfl) (h.cell 2 rfl rfl) ?_;have C:=pu C h;have e:=e.J0 h;refine e.rJ h (i:=c+1) (by dsimp only;rw[xF];omega) rfl (by dsimp only;rw[xF];omega) 0 rfl hG.x4 fun J B2 aF e h kp=>?_;have C:=kp.cT _ _ C;refine jX (h.cell 1 rfl rfl) (h.cell 2 rfl rfl)<|oB h fun bG bH _ _ h=>mB (h.cell 3 rfl rfl) (h.cell 2 rfl rfl) (h.cell 3 rfl rfl) ?_;have C:=pu C h;have e:=e.J0 h;exact e.cO h (i:=c) au rfl oN 0 rfl C hG.key fun ae B3 aG e h _=>oD h 3 rfl (eF (x.1,x.2.1,x.2.2.1,J)) fun aH h _=>oD h 3 rfl (eF (x.1,ae,x.2.2.1,J)) fun aI h _=>⟨_,B3,lq h (.cons _ (.cons _ (.refl _))),(e.J0 h).sub oL,ah⟩;have h:=oF h;refine oA h 1 rfl x.2.2.2 rfl<|oA h 0 rfl E.x4 rfl<|oA h 1 rfl x.2.1 rfl<|oA h 0 rfl gs rfl<|oB h fun bI bJ _ _ h=>mB (h.cell 1 rfl rfl) (h.cell 2 rfl rfl) (h.cell 2 rfl rfl)<|oB h fun bK bL _ _ h=>mB (h.cell 3 rfl rfl) (h.cell 2 rfl rfl) (h.cell 3 rfl rfl) ?_;have C:=pu C h;have e:=e.J0 h;refine e.rJ h (i:=c+1) (by dsimp only;rw[xF];omega) rfl (by dsimp only;rw[xF];omega) 1 rfl hG.x4 fun J B2 aF e h kp=>?_;have C:=kp.cT _ _ C;exact jX (h.cell 2 rfl rfl) (h.cell 3 rfl rfl)<|e.cO h (i:=c) au rfl oN 0 rfl C hG.key fun ae B3 aG e h _=>oD h 3 rfl (eF (x.1,x.2.1,x.2.2.1,J)) fun aH h _=>oD h 3 rfl (eF (x.1,ae,x.2.2.1,J)) fun aI h _=>⟨_,B3,lq h (.cons _ (.cons _ (.refl _))),(e.J0 h).sub oL,ah⟩;have h:=oF h;refine oA h 1 rfl x.2.2.2 rfl<|oA h 0 rfl E.x4 rfl<|oA h 1 rfl x.2.1 rfl<|oA h 0 rfl gs rfl<|oB h fun bM bN _ _ h=>mB (h.cell 2 rfl rfl) (h.cell 1 rfl rfl) (h.cell 2 rfl rfl)<|oB h fun bO bP _ _ h=>mB (h.cell 2 rfl rfl) (h.cell 3 rfl rfl) (h.cell 3 rfl rfl) ?_;have C:=pu C h;have e:=e.J0 h;refine e.rJ h (i:=c+1) (by dsimp only;rw[xF];omega) rfl (by dsimp only;rw[xF];omega) 0 rfl hG.x4 fun J B2 aF e h kp=>?_;have C:=kp.cT _ _ C;exact jX (h.cell 2 rfl rfl) (h.cell 3 rfl rfl)<|e.cO h (i:=c) au rfl oN 1 rfl C hG.key fun ae B3 aG e h _=>oD h 3 rfl (eF (x.1,x.2.1,x.2.2.1,J)) fun aH h _=>oD h 3 rfl (eF (x.1,ae,x.2.2.1,J)) fun aI h _=>⟨_,B3,lq h (.cons _ (.cons _ (.refl _))),(e.J0 h).sub oL,ah⟩;have V:¬E.x4≠0:=(by rw[yD] at V;exact fun hh=>hh (yO.1 V));have eg:gp n c E={ n with J9:=n.J9.set c E.x5 }:=(by unfold gp;rw[if_neg V]);rw[eg];exact⟨x,B1,h,e,aj,by dsimp only;rw[xF];omega,by dsimp only;rw[xF];omega,by dsimp only;rw[xF];omega,by dsimp only;omega⟩;rintro _ bQ ⟨x',B',h,e,q1,q2,q3,q4,q5⟩;refine oC h 3 rfl (jt k v pb t) rfl<|oC h 1 rfl x' rfl<|oA h 0 rfl E.J8 rfl<|qpW (Y:=[aw,r8,r3,r1]++Y) e.qb e.y9 oJ oJ oJ (qwh q1 q2 q3) hp fun aT F2 bR bz aU a9 aJ a'=>?_;have g:=e.sg.next h aJ a'
    have h:=pS h aJ fun b hb=>e.qb.yf b (by simp at hb⊢;rcases hb with h|h|h|h<;>simp[h]);exact oG h 2 rfl (pg (sq (fS k v M1 p (gp n c E) E.J8).1.1 aT)) rfl rfl (zO rfl) fun ba h _=>oC h 2 rfl (sq (fS k v M1 p (gp n c E) E.J8).1.1 aT) rfl<|kk aT F2 ba bz (aU.J0 h).j7 (C8 (pu a9 h)) (g.fr h) g.new
end
end
section
def pV{H u C E:WP}{K:Prop}(h:H w)(G:u w)(I:C w)(J:E w)(k:K):held [H,u,C,E] w K:=by unfold held;exact⟨⟨h,G,I,J⟩,k⟩
structure pj (S0 Z:List Nat) (w:World) (x:jP) (n:dG) (pk pv:oS):Prop where
 lens:nz x n
 nb:NB n
 J6:fV pk=n.J6
 Q0:fV pv=n.Q0
 rk:dW gg 1 S0 w x.2.1 (ij pk)
 rv:dW gg 1 S0 w x.2.2.1 (ij pv)
 ri:dW ik 1 S0 w x.2.2.2 n.J9
 ek:∀ p∈pk,eE Z w p.1 p.2
 ev:∀ p∈pv,eE Z w p.1 p.2
section
variable {S S0 S0' Z Z' B:List Nat} {w w':World} {x:jP} {n:dG} {pk pv:oS}
def eV.Am(h:eV Z w x n B)(C:∀b∈B,b∉S0):∃pk pv,pj S0 Z w x n pk pv:=by have G:ef [] w x n:=h.rd (fun _ _ h=>(nomatch h)) fun _ h=>nomatch h;have I:=G.lens;obtain⟨h0,E,Bk,Bv,Bi,rfl,J,⟨pk,R,U,V⟩,⟨pv,v1,v2,v3⟩,hi⟩:=h;exact⟨pk,pv,I,E,U,v2,R.jq vh fun b u=>C b (by simp[u]),v1.jq vh fun b u=>C b (by simp[u]),hi.jq qy fun b u=>C b (by simp[u]),V,v3⟩
def pj.q8(h:pj S0 Z w x n pk pv)(f:Fr S w w')(G:∀b∈S,b∈S0)(E:∀b∈S,b∈Z)(C:lZ S0 w S0')(J:lZ Z w Z'):pj S0' Z' w' x n pk pv where
 lens:=h.lens
 nb:=h.nb
 J6:=h.J6
 Q0:=h.Q0
 rk:=h.rk.q8 (f.mono fun b u _=>G b u) C
 rv:=h.rv.q8 (f.mono fun b u _=>G b u) C
 ri:=h.ri.q8 (f.mono fun b u _=>G b u) C
 ek:=fun p I=>(h.ek p I).q8 (f.mono fun b u _=>E b u) J
 ev:=fun p I=>(h.ev p I).q8 (f.mono fun b u _=>E b u) J
def pj.sG(h:pj S0 Z w x n pk pv):pk.length=n.J6.length:=by rw[<- h.J6,zK]
def pj.vJ(h:pj S0 Z w x n pk pv):pv.length=n.Q0.length:=by rw[<- h.Q0,zK]
def pj.rdK(h:pj S0 Z w x n pk pv)(u:∀b∈S0,b∈Z):i9 S0 w x.2.1 pk:=⟨h.rk,fun p C=>(h.ek p C).q8 (.refl _ _) fun b E=>.inl (u b E)⟩
def pj.rdV(h:pj S0 Z w x n pk pv)(u:∀b∈S0,b∈Z):i9 S0 w x.2.2.1 pv:=⟨h.rv,fun p C=>(h.ev p C).q8 (.refl _ _) fun b E=>.inl (u b E)⟩
def dW.cF{i:Int}{K:Addr->Sl->Prop}(h:dW gg 1 S w s (ij ps))(n:Nat)(hi:i=n)(J:n<ps.length)(R:∀a,(∀S' w',dW gg 1 S' w' s (ij ps)->w'.cell? a=some (.slice ps[n].1.a ps[n].1.len ps[n].1.cap))->K a ps[n].1):idx s i 1 fun a=>ld .slice a w fun y=>K a y:=by
 subst hi;have G:(ij ps)[n]?=some ps[n].1:=(by rw[zQ,zA J];rfl);obtain⟨hl,b,o,I,_,cs,T,fr,hb,hc⟩:=h.at n G;refine pY I ⟨oJ,oJ⟩ ?_;rw[zJ];have key:∀S' w',dW gg 1 S' w' s (ij ps)->w'.cell? ⟨b,o+n*1,none⟩=some (.slice ps[n].1.a ps[n].1.len ps[n].1.cap):=fun S' w' U=>by
  obtain⟨_,b',o',u,_,V,T',aa,C,E⟩:=U.at n G;rw[I] at u;cases u;rw[je C]
  have:=congrArg (·[0]?) E
  simpa[gg] using this
 exact oV ps[n].1 (key S w h) (R _ key)
def pj.mt(h:pj S0 Z w x n pk pv)(hi:i<pk.length):n.J6.getD i []=pk[i].2:=by rw[<- h.J6,vV hi]
def pj.rq(h:pj S0 Z w x n pk pv)(hi:i<pv.length):n.Q0.getD i []=pv[i].2:=by rw[<- h.Q0,vV hi]
def tL{n:dG}(hi:i<n.J9.length):n.J9.getD i 0=n.J9[i]:=by rw[yQ,zA hi];rfl
end
structure gA (n:dG):Prop where
 Q4:n.Q4=true->n.Q0.length=n.J6.length
 inner:n.Q4=false->n.J9.length=n.J6.length+1
 J6:n.J6.length<=2000
 Q0:n.Q0.length<=2000
 J9:n.J9.length<=2000
section
variable {dbk pb j:Nat} {FD Y F Bl Br:List Nat} {D:dE} {w0:World} {M:dU} {xl xr:jP} {nl nr:dG} {ks:Sl} {key:Key}
def zoT{b:Nat}(h:b∈T):b∈Zo FD (T++Y) F:=by simp[h]
def Ae:∀b∈Zo FD Y F,b∈Zo FD (T++(Bl++Y)) F:=fun b h=>by simp only[Zo,zD,zG] at h⊢;rcases h with (h|h|h)|h<;>simp[h]
def yd{α:Type}(l:List α)(x:α):fy l 0 x=x::l:=by unfold fy;simp
def qxu{K:jP×jP×Sl->WP}(hT:TW dbk pb FD D j w0 (Br++(Bl++Y)) F M)(hl:eV (Zo FD (Br++(Bl++Y)) F) w0 xl nl Bl)(hr:eV (Zo FD (Br++(Bl++Y)) F) w0 xr nr Br)(d1:∀b∈Br,b∉Bl)(d2:∀b∈Br,b∉Y)(d3:∀b∈Bl,b∉Y)(hk:eE (Zo FD (Br++(Bl++Y)) F) w0 ks key)(aw:eB key)(bd:nl.Q4=nr.Q4)(h1:1<=nl.J6.length)(sl:gA nl)(sr:gA nr)(kk:∀yl yr aC w',TW dbk pb FD D j w' Y F M->ef (Zo FD Y F) w' yl (iI nl nr key).1->ef (Zo FD Y F) w' yr (iI nl nr key).2.1->eE (Zo FD Y F) w' aC (iI nl nr key).2.2->Fr (Br++F) w0 w'->K (yl,yr,aC) w'): cW 204 [.agg (eF xl),.agg (eF xr),ks.v] [.agg dT,.agg dT,.one .slice] w0 K:=by
 refine qr4 ?_;unfold Ck BU;obtain⟨pk,pv,o⟩:=hl.Am (S0:=Br++Zo FD Y F) fun b u hm=>by rcases zD.1 hm with hm|hm;exact d1 b hm u;have h0:=hT.sep b (by simp[u]);simp only[Zo,zD,zG] at hm;rcases hm with (hm|hm|hm)|hm;exact h0.1 hm;exact h0.2 hm;exact d3 b u hm;exact hT.yf b (by simp[u]) hm
 have e0:Ed dbk pb FD D j (Br++F) Br w0 w0 [] (Bl++Y) F M xr nr Br:=⟨⟨.refl _ _,fun b u=>.inl (by simp[u]),fun _ h=>nomatch h⟩,hT,hr,fun _ h=>(nomatch h),fun b u=>.inl u,fun b u=>by simp[u],fun b u hm=>(zD.1 hm).elim (d1 b u) (d2 b u)⟩;have ad:∀b∈Br++Zo FD Y F,b∈Zo FD (Br++(Bl++Y)) F:=fun b u=>by simp only[Zo,zD,zG] at u⊢;rcases u with u|(u|u|u)|u<;>simp[u]
 have ae:∀b∈Br++F,b∈Br++Zo FD Y F:=fun b u=>by simp only[Zo,zD,zG] at u⊢;rcases u with u|u<;>simp[u]
 have nZ:∀ {w' T x' n' B'},Ed dbk pb FD D j (Br++F) Br w0 w' T (Bl++Y) F M x' n' B'->lZ (Zo FD (Br++(Bl++Y)) F) w0 (Zo FD (T++(B'++(Bl++Y))) F):=fun e b u=>by simp only[Zo,zD,zG] at u;rcases u with (u|u|u|u|u|u)|u;exact .inl (by simp[u]);exact .inl (by simp[u]);exact (e.sg.own b u).imp (fun h=>ad b (ae b h)) id;exact (e.cE b u).imp (fun h=>ad b (ae b (e.cR b h))) id;exact .inl (by simp[u]);exact .inl (by simp[u]);exact .inl (by simp[u])
 have R:∀ {w' T x' n' B'},Ed dbk pb FD D j (Br++F) Br w0 w' T (Bl++Y) F M x' n' B'->pj (Br++Zo FD Y F) (Zo FD (T++(B'++(Bl++Y))) F) w' xl nl pk pv:=fun e=>o.q8 e.fr ae (fun b u=>ad b (ae b u)) (fun b u=>.inl u) (nZ e);have aD:=o.rdK ad;have aE:=o.rdV ad;have af:∀ {w' T x' n' B'},Ed dbk pb FD D j (Br++F) Br w0 w' T (Bl++Y) F M x' n' B'->Fr (Br++Zo FD Y F) w0 w':=fun e=>e.fr.mono fun b u _=>ae b u;have ag:∀b∈Zo FD Y F,b∈Br++Zo FD Y F\/w0.heap.size<=b:=fun b u=>.inl (zI _ u);have U:=o.lens;have kl:=o.sG;have vl:=o.vJ;have sk:=sl.J6;have bf:=sr.J6;have bg:=sr.Q0;have bh:=sr.J9;have aO:wrap .i64 ((xl.2.1.len:Int)-1)=((nl.J6.length-1:Nat):Int):=(by rw[U.J6,gc _ oJ];omega);have h:=oE [] w0;refine oB h fun r1 w2 _ _ h=>oB h fun r3 w4 _ _ h=>oB h fun r5 w6 _ _ h=>oB h fun r7 w8 _ _ h=>oA h 3 rfl xl.2.1 rfl<|oA h 3 rfl xl.1 rfl ?_;rw[aO];apply dR<;>intro hc
 ·rw[U.Q4] at hc;have bi:=sl.Q4 hc;have hG:iI nl nr key=({ nl with J6:=nl.J6.take (nl.J6.length-1),Q0:=nl.Q0.take (nl.J6.length-1) },{ nr with J6:=nl.J6.getD (nl.J6.length-1) []::nr.J6,Q0:=nl.Q0.getD (nl.J6.length-1) []::nr.Q0 },nl.J6.getD (nl.J6.length-1) []):=(by unfold iI;rw[if_pos hc]);have hi:nl.J6.length-1<pk.length:=oJ;have V:nl.J6.length-1<pv.length:=oJ;rw[hG,o.mt hi,o.rq V] at kk;have ac:eB pk[nl.J6.length-1].2:=(by rw[<- o.mt hi];exact rZ o.nb.1 _);have ay:eB pv[nl.J6.length-1].2:=(by rw[<- o.rq V];exact rZ o.nb.2.1 _);refine⟨?a1,?a2,?a3⟩;case' a1=>
   have h:=oF h;refine oA h 2 rfl xr.2.1 rfl<|oA h 3 rfl xl.2.1 rfl<|dW.cF ((o.rk).q7 h.fr) (nl.J6.length-1) rfl hi fun ai G=>oA h 2 rfl xr.2.2.1 rfl<|oA h 3 rfl xl.2.2.1 rfl<|dW.cF ((o.rv).q7 h.fr) (nl.J6.length-1) rfl V fun aF aa=>oB h fun aj ak _ _ h=>?_;have e:=e0.J0 h;refine pV (aa _ _ (R e).rv) (h.cell 4 rfl rfl) (h.cell 3 rfl rfl) (h.cell 3 rfl rfl)<|e.cO h (i:=0) (yW _) rfl oJ 0 rfl ((R e).ek _ (zW hi)) ac fun C B1 al e h _=>mB (aa _ _ (R e).rv) (h.cell 4 rfl rfl) (h.cell 3 rfl rfl)<|oB h fun am an _ _ h=>?_;have e:=e.J0 h;refine pV (h.cell 4 rfl rfl) (G _ _ (R e).rk) (h.cell 5 rfl rfl) (h.cell 4 rfl rfl)<|e.rN h (i:=0) (yW _) rfl oN 0 rfl ((R e).ev _ (zW V)) ay fun E B2 ao e h _=>?_
  case' a2=>
   have h:=oF h;refine oA h 2 rfl xr.2.1 rfl<|oA h 3 rfl xl.2.1 rfl<|dW.cF ((o.rk).q7 h.fr) (nl.J6.length-1) rfl hi fun ai G=>oA h 2 rfl xr.2.2.1 rfl<|oA h 3 rfl xl.2.2.1 rfl<|dW.cF ((o.rv).q7 h.fr) (nl.J6.length-1) rfl V fun aF aa=>oB h fun aj ak _ _ h=>pV (aa _ _ (R (e0.J0 h)).rv) (h.cell 4 rfl rfl) (h.cell 3 rfl rfl) (h.cell 3 rfl rfl)<|oB h fun am an _ _ h=>?_;have e:=e0.J0 h;refine pV (h.cell 4 rfl rfl) (G _ _ (R e).rk) (h.cell 5 rfl rfl) (h.cell 4 rfl rfl)<|e.cO h (i:=0) (yW _) rfl oJ 1 rfl ((R e).ek _ (zW hi)) ac fun C B1 al e h _=>mB (aa _ _ (R e).rv) (h.cell 5 rfl rfl) (h.cell 4 rfl rfl)<|e.rN h (i:=0) (yW _) rfl oN 0 rfl ((R e).ev _ (zW V)) ay fun E B2 ao e h _=>?_
  case' a3=>
   have h:=oF h;refine oA h 2 rfl xr.2.1 rfl<|oA h 3 rfl xl.2.1 rfl<|dW.cF ((o.rk).q7 h.fr) (nl.J6.length-1) rfl hi fun ai G=>oA h 2 rfl xr.2.2.1 rfl<|oA h 3 rfl xl.2.2.1 rfl<|dW.cF ((o.rv).q7 h.fr) (nl.J6.length-1) rfl V fun aF aa=>oB h fun aj ak _ _ h=>pV (h.cell 3 rfl rfl) (G _ _ (R (e0.J0 h)).rk) (h.cell 4 rfl rfl) (h.cell 3 rfl rfl)<|oB h fun am an _ _ h=>?_;have e:=e0.J0 h;refine pV (aa _ _ (R e).rv) (h.cell 5 rfl rfl) (h.cell 4 rfl rfl) (h.cell 4 rfl rfl)<|e.cO h (i:=0) (yW _) rfl oJ 0 rfl ((R e).ek _ (zW hi)) ac fun C B1 al e h _=>mB (aa _ _ (R e).rv) (h.cell 5 rfl rfl) (h.cell 4 rfl rfl)<|e.rN h (i:=0) (yW _) rfl oN 1 rfl ((R e).ev _ (zW V)) ay fun E B2 ao e h _=>?_
  all_goals
   refine oD h 4 rfl (eF (xr.1,C,xr.2.2.1,xr.2.2.2)) fun aQ h _=>oD h 4 rfl (eF (xr.1,C,E,xr.2.2.2)) fun aR h _=>?_;have h:=oF h;refine oA h 5 rfl xl.2.1 rfl<|i9.upto aD (nl.J6.length-1) rfl oJ fun I ap=>oA h 5 rfl xl.2.2.1 rfl<|i9.upto aE (nl.J6.length-1) rfl oJ fun J aq=>oD h 5 rfl (eF (xl.1,I,xl.2.2.1,xl.2.2.2)) fun aT h _=>oD h 5 rfl (eF (xl.1,I,J,xl.2.2.2)) fun aU h _=>?_;have h:=oF h;refine oC h 5 rfl (xl.1,I,J,xl.2.2.2) rfl<|oC h 4 rfl (xr.1,C,E,xr.2.2.2) rfl<|oA h 4 rfl C rfl ?_;have e:=e.J0 h;have h:=lq h (.refl _);obtain⟨q0,qN,⟨qk,au,aI⟩,q4,q5⟩:=e.y9;have az:0<qk.length:=by
    have:=congrArg List.length aI
    dsimp only at this;rw[yd,zK,yH] at this;omega
   have aV:qk[0].2=pk[nl.J6.length-1].2:=(by rw[<- vV az,aI];dsimp only;rw[yd];rfl);refine dW.cF au.1 0 rfl az fun bj aJ=>oD h 3 rfl (eF (xl.1,I,J,xl.2.2.2)) fun aW h _=>mB (aJ [] _ (au.1.q8 (h.fr.mono fun b u _=>zoT u) fun _ h=>nomatch h)) (h.cell 4 rfl rfl) (h.cells 4 rfl rfl)<|oD h 2 rfl (eF (xr.1,C,E,xr.2.2.2)) fun aA h _=>jX (aJ [] _ (au.1.q8 (h.fr.mono fun b u _=>zoT u) fun _ h=>nomatch h)) (h.cell 4 rfl rfl)<|oC h 3 rfl (xl.1,I,J,xl.2.2.2) rfl<|oC h 2 rfl (xr.1,C,E,xr.2.2.2) rfl ?_;have av:=pu (au.2 _ (zW az)) h;rw[aV] at av;have e:=e.J0 h;have hR:=e.y9.j6 (S':=Zo FD Y F) fun b u=>.inl (Ae b u);rw[yd,yd] at hR;exact kk (xl.1,I,J,xl.2.2.2) (xr.1,C,E,xr.2.2.2) _ aA (e.qb.y0 fun b u=>by simp[u]) ⟨U.Q4,⟨fun a ha=>o.nb.1 a (yU ha),fun a ha=>o.nb.2.1 a (yU ha),o.nb.2.2⟩,⟨_,ap.q8 (af e) ag,by rw[xn,o.J6]⟩,⟨_,aq.q8 (af e) ag,by rw[xn,o.Q0]⟩,o.ri.q8 (af e) ag⟩
    hR (av.q8 (.refl _ _) fun b u=>.inl (Ae b u)) e.fr
 ·rw[U.Q4] at hc;have aX:¬nl.Q4=true:=(by rw[hc];decide);have il:=sl.inner hc;have hG:iI nl nr key=({ nl with J6:=nl.J6.take (nl.J6.length-1),J9:=nl.J9.take (nl.J6.length-1+1) },{ nr with J6:=key::nr.J6,J9:=nl.J9.getD (nl.J6.length-1+1) 0::nr.J9 },nl.J6.getD (nl.J6.length-1) []):=(by unfold iI;rw[if_neg aX]);have hi:nl.J6.length-1<pk.length:=oJ;have ar:nl.J6.length-1+1<nl.J9.length:=oJ;rw[hG,o.mt hi,tL ar] at kk;have ac:gy nl.J9[nl.J6.length-1+1]:=o.nb.2.2 _ (zW ar);have aY:wrap .i64 (((nl.J6.length-1:Nat):Int)+1)=((nl.J6.length-1+1:Nat):Int):=qG oJ;rw[aY];have kw:∀ {w' T x' n' B'},Ed dbk pb FD D j (Br++F) Br w0 w' T (Bl++Y) F M x' n' B'->eE (Zo FD (T++(B'++(Bl++Y))) F) w' ks key:=fun e=>hk.q8 (e.fr.mono fun b u _=>ad b (ae b u)) (nZ e);refine oA h 3 rfl xl.2.1 rfl<|dW.cF ((o.rk).q7 h.fr) (nl.J6.length-1) rfl hi fun a9 a'=>⟨?b1,?b2,?b3⟩;case' b1=>
   have h:=oF h;refine oA h 2 rfl xr.2.1 rfl<|oA h 2 rfl xr.2.2.2 rfl<|oA h 3 rfl xl.2.2.2 rfl<|dW.cP ((o.ri).q7 h.fr) (nl.J6.length-1+1) rfl ar fun ai G=>oB h fun aj ak _ _ h=>?_;have e:=e0.J0 h;refine pV (G _ _ (R e).ri) (h.cell 4 rfl rfl) (h.cell 3 rfl rfl) (h.cell 3 rfl rfl)<|e.cO h (i:=0) (yW _) rfl oJ 0 rfl (kw e) aw fun C B1 al e h _=>mB (G _ _ (R e).ri) (h.cell 4 rfl rfl) (h.cell 3 rfl rfl)<|oB h fun am an _ _ h=>?_;have e:=e.J0 h;refine jX (h.cell 4 rfl rfl) (h.cell 4 rfl rfl)<|e.rJ h (i:=0) (yW _) rfl oN 0 rfl ac fun E B2 ao e h _=>?_
  case' b2=>
   have h:=oF h;refine oA h 2 rfl xr.2.1 rfl<|oA h 2 rfl xr.2.2.2 rfl<|oA h 3 rfl xl.2.2.2 rfl<|dW.cP ((o.ri).q7 h.fr) (nl.J6.length-1+1) rfl ar fun ai G=>oB h fun aj ak _ _ h=>pV (G _ _ (R (e0.J0 h)).ri) (h.cell 4 rfl rfl) (h.cell 3 rfl rfl) (h.cell 3 rfl rfl)<|oB h fun am an _ _ h=>?_;have e:=e0.J0 h;refine jX (h.cell 4 rfl rfl) (h.cell 4 rfl rfl)<|e.cO h (i:=0) (yW _) rfl oJ 1 rfl (kw e) aw fun C B1 al e h _=>mB (G _ _ (R e).ri) (h.cell 5 rfl rfl) (h.cell 4 rfl rfl)<|e.rJ h (i:=0) (yW _) rfl oN 0 rfl ac fun E B2 ao e h _=>?_
  case' b3=>
   have h:=oF h;refine oA h 2 rfl xr.2.1 rfl<|oA h 2 rfl xr.2.2.2 rfl<|oA h 3 rfl xl.2.2.2 rfl<|dW.cP ((o.ri).q7 h.fr) (nl.J6.length-1+1) rfl ar fun ai G=>oB h fun aj ak _ _ h=>jX (h.cell 3 rfl rfl) (h.cell 3 rfl rfl)<|oB h fun am an _ _ h=>?_;have e:=e0.J0 h;refine pV (G _ _ (R e).ri) (h.cell 5 rfl rfl) (h.cell 4 rfl rfl) (h.cell 4 rfl rfl)<|e.cO h (i:=0) (yW _) rfl oJ 0 rfl (kw e) aw fun C B1 al e h _=>mB (G _ _ (R e).ri) (h.cell 5 rfl rfl) (h.cell 4 rfl rfl)<|e.rJ h (i:=0) (yW _) rfl oN 1 rfl ac fun E B2 ao e h _=>?_
  all_goals
   refine oD h 4 rfl (eF (xr.1,C,xr.2.2.1,xr.2.2.2)) fun aQ h _=>oD h 4 rfl (eF (xr.1,C,xr.2.2.1,E)) fun aR h _=>?_;have h:=oF h;refine oA h 5 rfl xl.2.1 rfl<|i9.upto aD (nl.J6.length-1) rfl oJ fun I ap=>oA h 5 rfl xl.2.2.2 rfl<|dW.Ag o.ri (nl.J6.length-1+1) rfl oJ fun J aq=>oD h 5 rfl (eF (xl.1,I,xl.2.2.1,xl.2.2.2)) fun aT h _=>oD h 5 rfl (eF (xl.1,I,xl.2.2.1,J)) fun aU h _=>?_;have h:=oF h;refine oC h 5 rfl (xl.1,I,xl.2.2.1,J) rfl<|oC h 4 rfl (xr.1,C,xr.2.2.1,E) rfl<|oD h 3 rfl (eF (xl.1,I,xl.2.2.1,J)) fun aW h _=>ia (h.cells 4 rfl rfl)<|oD h 2 rfl (eF (xr.1,C,xr.2.2.1,E)) fun aA h _=>oC h 3 rfl (xl.1,I,xl.2.2.1,J) rfl<|oC h 2 rfl (xr.1,C,xr.2.2.1,E) rfl ?_;have e:=e.J0 h;have hR:=e.y9.j6 (S':=Zo FD Y F) fun b u=>.inl (Ae b u);rw[yd,yd] at hR;exact kk (xl.1,I,xl.2.2.1,J) (xr.1,C,xr.2.2.1,E) _ aA (e.qb.y0 fun b u=>by simp[u]) ⟨U.Q4,⟨fun a ha=>o.nb.1 a (yU ha),o.nb.2.1,fun a ha=>o.nb.2.2 a (yU ha)⟩,⟨_,ap.q8 (af e) ag,by rw[xn,o.J6]⟩,⟨_,aE.q8 (af e) ag,o.Q0⟩,aq.q8 (af e) ag⟩
    hR (((R e).ek _ (zW hi)).q8 (.refl _ _) fun b u=>.inl (by simp only[Zo,zD,zG] at u⊢;rcases u with (u|u|u)|u<;>simp[u])) e.fr
end
end
section
section
variable {dbk pb j:Nat} {FD Y F Bl Br:List Nat} {D:dE} {w0:World} {M:dU} {xl xr:jP} {nl nr:dG} {ks:Sl} {key:Key}
def qx1{K:jP×jP×Sl->WP}(hT:TW dbk pb FD D j w0 (Bl++(Br++Y)) F M)(hl:eV (Zo FD (Bl++(Br++Y)) F) w0 xl nl Bl)(hr:eV (Zo FD (Bl++(Br++Y)) F) w0 xr nr Br)(d1:∀b∈Bl,b∉Br)(d2:∀b∈Bl,b∉Y)(d3:∀b∈Br,b∉Y)(hk:eE (Zo FD (Bl++(Br++Y)) F) w0 ks key)(au:eB key)(aA:nl.Q4=nr.Q4)(h1:1<=nr.J6.length)(h2:nr.Q4=true->2<=nr.J6.length)(sl:gA nl)(sr:gA nr)(kk:∀yl yr aB w',TW dbk pb FD D j w' Y F M->ef (Zo FD Y F) w' yl (takeN nl nr key).1->ef (Zo FD Y F) w' yr (takeN nl nr key).2.1->eE (Zo FD Y F) w' aB (takeN nl nr key).2.2->Fr (Bl++F) w0 w'->K (yl,yr,aB) w'): cW 205 [.agg (eF xl),.agg (eF xr),ks.v] [.agg dT,.agg dT,.one .slice] w0 K:=by
 refine qr5 ?_;unfold C4 CY;obtain⟨pk,pv,o⟩:=hr.Am (S0:=Bl++Zo FD Y F) fun b u hm=>by rcases zD.1 hm with hm|hm;exact d1 b hm u;have h0:=hT.sep b (by simp[u]);simp only[Zo,zD,zG] at hm;rcases hm with (hm|hm|hm)|hm;exact h0.1 hm;exact h0.2 hm;exact d3 b u hm;exact hT.yf b (by simp[u]) hm
 have e0:Ed dbk pb FD D j (Bl++F) Bl w0 w0 [] (Br++Y) F M xl nl Bl:=⟨⟨.refl _ _,fun b u=>.inl (by simp[u]),fun _ h=>nomatch h⟩,hT,hl,fun _ h=>(nomatch h),fun b u=>.inl u,fun b u=>by simp[u],fun b u hm=>(zD.1 hm).elim (d1 b u) (d2 b u)⟩;have ae:∀b∈Bl++Zo FD Y F,b∈Zo FD (Bl++(Br++Y)) F:=fun b u=>by simp only[Zo,zD,zG] at u⊢;rcases u with u|(u|u|u)|u<;>simp[u]
 have af:∀b∈Bl++F,b∈Bl++Zo FD Y F:=fun b u=>by simp only[Zo,zD,zG] at u⊢;rcases u with u|u<;>simp[u]
 have nZ:∀ {w' T x' n' B'},Ed dbk pb FD D j (Bl++F) Bl w0 w' T (Br++Y) F M x' n' B'->lZ (Zo FD (Bl++(Br++Y)) F) w0 (Zo FD (T++(B'++(Br++Y))) F):=fun e b u=>by simp only[Zo,zD,zG] at u;rcases u with (u|u|u|u|u|u)|u;exact .inl (by simp[u]);exact .inl (by simp[u]);exact (e.sg.own b u).imp (fun h=>ae b (af b h)) id;exact (e.cE b u).imp (fun h=>ae b (af b (e.cR b h))) id;exact .inl (by simp[u]);exact .inl (by simp[u]);exact .inl (by simp[u])
 have J:∀ {w' T x' n' B'},Ed dbk pb FD D j (Bl++F) Bl w0 w' T (Br++Y) F M x' n' B'->pj (Bl++Zo FD Y F) (Zo FD (T++(B'++(Br++Y))) F) w' xr nr pk pv:=fun e=>o.q8 e.fr af (fun b u=>ae b (af b u)) (fun b u=>.inl u) (nZ e);have aC:=o.rdK ae;have aD:=o.rdV ae;have U:∀ {w' T x' n' B'},Ed dbk pb FD D j (Bl++F) Bl w0 w' T (Br++Y) F M x' n' B'->Fr (Bl++Zo FD Y F) w0 w':=fun e=>e.fr.mono fun b u _=>af b u;have ag:∀b∈Zo FD Y F,b∈Bl++Zo FD Y F\/w0.heap.size<=b:=fun b u=>.inl (zI _ u);have an:=o.lens;have kl:=o.sG;have vl:=o.vJ;have sk:=sr.J6;have bj:=sl.J6;have bk:=sl.Q0;have bl:=sl.J9;have h:=oE [] w0;refine oB h fun r1 w2 _ _ h=>oB h fun r3 w4 _ _ h=>oB h fun r5 w6 _ _ h=>oB h fun r7 w8 _ _ h=>oA h 3 rfl xl.1 rfl ?_;apply dR<;>intro hc
 ·rw[hl.1] at hc;have aE:nr.Q4=true:=(by rw[<- aA];exact hc);have h2:=h2 aE;have bm:=sr.Q4 aE;have hG:takeN nl nr key=({ nl with J6:=nl.J6++[nr.J6.getD 0 []],Q0:=nl.Q0++[nr.Q0.getD 0 []] },{ nr with J6:=nr.J6.drop 1,Q0:=nr.Q0.drop 1 },(nr.J6.drop 1).getD 0 []):=(by unfold takeN;rw[if_pos hc]);have hi:0<pk.length:=oJ;have V:0<pv.length:=oJ;have aw:0<(pk.drop 1).length:=(by rw[yB];omega);have aY:(nr.J6.drop 1).getD 0 []=(pk.drop 1)[0].2:=(by rw[<- o.J6,<- wq,vV aw]);rw[hG,o.mt hi,o.rq V,aY] at kk;have ad:eB pk[0].2:=(by rw[<- o.mt hi];exact rZ o.nb.1 _);have ax:eB pv[0].2:=(by rw[<- o.rq V];exact rZ o.nb.2.1 _);refine⟨?a1,?a2,?a3⟩;case' a1=>
   have h:=oF h;refine oA h 3 rfl xl.2.1 rfl<|oA h 2 rfl xr.2.1 rfl<|dW.cF ((o.rk).q7 h.fr) 0 rfl hi fun aF ai=>oA h 3 rfl xl.2.2.1 rfl<|oA h 2 rfl xr.2.2.1 rfl<|dW.cF ((o.rv).q7 h.fr) 0 rfl V fun aG aa=>oB h fun aH aI _ _ h=>?_;have e:=e0.J0 h;refine pV (aa _ _ (J e).rv) (h.cell 3 rfl rfl) (h.cell 4 rfl rfl) (h.cell 4 rfl rfl)<|e.oX h oJ 0 rfl ((J e).ek _ (zW hi)) ad fun C B1 aK e h _=>mB (aa _ _ (J e).rv) (h.cell 3 rfl rfl) (h.cell 4 rfl rfl)<|oB h fun aL aM _ _ h=>?_;have e:=e.J0 h;refine pV (h.cell 5 rfl rfl) (ai _ _ (J e).rk) (h.cell 4 rfl rfl) (h.cell 5 rfl rfl)<|e.vI h oN 0 rfl ((J e).ev _ (zW V)) ax fun E B2 aO e h _=>?_
  case' a2=>
   have h:=oF h;refine oA h 3 rfl xl.2.1 rfl<|oA h 2 rfl xr.2.1 rfl<|dW.cF ((o.rk).q7 h.fr) 0 rfl hi fun aF ai=>oA h 3 rfl xl.2.2.1 rfl<|oA h 2 rfl xr.2.2.1 rfl<|dW.cF ((o.rv).q7 h.fr) 0 rfl V fun aG aa=>oB h fun aH aI _ _ h=>pV (aa _ _ (J (e0.J0 h)).rv) (h.cell 3 rfl rfl) (h.cell 4 rfl rfl) (h.cell 4 rfl rfl)<|oB h fun aL aM _ _ h=>?_;have e:=e0.J0 h;refine pV (h.cell 5 rfl rfl) (ai _ _ (J e).rk) (h.cell 4 rfl rfl) (h.cell 5 rfl rfl)<|e.oX h oJ 1 rfl ((J e).ek _ (zW hi)) ad fun C B1 aK e h _=>mB (aa _ _ (J e).rv) (h.cell 4 rfl rfl) (h.cell 5 rfl rfl)<|e.vI h oN 0 rfl ((J e).ev _ (zW V)) ax fun E B2 aO e h _=>?_
  case' a3=>
   have h:=oF h;refine oA h 3 rfl xl.2.1 rfl<|oA h 2 rfl xr.2.1 rfl<|dW.cF ((o.rk).q7 h.fr) 0 rfl hi fun aF ai=>oA h 3 rfl xl.2.2.1 rfl<|oA h 2 rfl xr.2.2.1 rfl<|dW.cF ((o.rv).q7 h.fr) 0 rfl V fun aG aa=>oB h fun aH aI _ _ h=>pV (h.cell 4 rfl rfl) (ai _ _ (J (e0.J0 h)).rk) (h.cell 3 rfl rfl) (h.cell 4 rfl rfl)<|oB h fun aL aM _ _ h=>?_;have e:=e0.J0 h;refine pV (aa _ _ (J e).rv) (h.cell 4 rfl rfl) (h.cell 5 rfl rfl) (h.cell 5 rfl rfl)<|e.oX h oJ 0 rfl ((J e).ek _ (zW hi)) ad fun C B1 aK e h _=>mB (aa _ _ (J e).rv) (h.cell 4 rfl rfl) (h.cell 5 rfl rfl)<|e.vI h oN 1 rfl ((J e).ev _ (zW V)) ax fun E B2 aO e h _=>?_
  all_goals
   refine oD h 5 rfl (eF (xl.1,C,xl.2.2.1,xl.2.2.2)) fun am h _=>oD h 5 rfl (eF (xl.1,C,E,xl.2.2.2)) fun aZ h _=>?_;have h:=oF h;refine oA h 4 rfl xr.2.1 rfl<|i9.from aC 1 rfl oJ fun G R=>oA h 4 rfl xr.2.2.1 rfl<|i9.from aD 1 rfl oJ fun I aj=>oD h 4 rfl (eF (xr.1,G,xr.2.2.1,xr.2.2.2)) fun a0 h _=>oD h 4 rfl (eF (xr.1,G,I,xr.2.2.2)) fun a4 h _=>?_;have h:=oF h;refine oC h 5 rfl (xl.1,C,E,xl.2.2.2) rfl<|oC h 4 rfl (xr.1,G,I,xr.2.2.2) rfl<|oA h 4 rfl G rfl<|dW.cF (R.q8 (U (e.J0 h)) fun b u=>.inl u).1 0 rfl aw fun bn aP=>oD h 3 rfl (eF (xl.1,C,E,xl.2.2.2)) fun a5 h _=>mB (aP _ _ (R.q8 (U (e.J0 h)) fun b u=>.inl u).1) (h.cell 4 rfl rfl) (h.cells 4 rfl rfl)<|oD h 2 rfl (eF (xr.1,G,I,xr.2.2.2)) fun ay h _=>jX (aP _ _ (R.q8 (U (e.J0 h)) fun b u=>.inl u).1) (h.cell 4 rfl rfl)<|oC h 3 rfl (xl.1,C,E,xl.2.2.2) rfl<|oC h 2 rfl (xr.1,G,I,xr.2.2.2) rfl ?_;have e:=e.J0 h;have hR:=e.y9.j6 (S':=Zo FD Y F) fun b u=>.inl (Ae b u);have ak:=R.q8 (U e) ag;exact kk (xl.1,C,E,xl.2.2.2) (xr.1,G,I,xr.2.2.2) _ ay (e.qb.y0 fun b u=>by simp[u]) hR ⟨an.Q4,⟨fun a ha=>o.nb.1 a (yT ha),fun a ha=>o.nb.2.1 a (yT ha),o.nb.2.2⟩,⟨_,ak,by rw[wq,o.J6]⟩,⟨_,aj.q8 (U e) ag,by rw[wq,o.Q0]⟩,o.ri.q8 (U e) ag⟩
    (ak.2 _ (zW aw)) e.fr
 ·rw[hl.1] at hc;have a7:¬nl.Q4=true:=(by rw[hc];decide);have il:=sr.inner (by rw[<- aA];exact hc);have hG:takeN nl nr key=({ nl with J6:=nl.J6++[key],J9:=nl.J9++[nr.J9.getD 0 0] },{ nr with J6:=nr.J6.drop 1,J9:=nr.J9.drop 1 },nr.J6.getD 0 []):=(by unfold takeN;rw[if_neg a7]);have hi:0<pk.length:=oJ;have al:0<nr.J9.length:=oJ;rw[hG,o.mt hi,tL al] at kk;have ad:gy nr.J9[0]:=o.nb.2.2 _ (zW al);have kw:∀ {w' T x' n' B'},Ed dbk pb FD D j (Bl++F) Bl w0 w' T (Br++Y) F M x' n' B'->eE (Zo FD (T++(B'++(Br++Y))) F) w' ks key:=fun e=>hk.q8 (e.fr.mono fun b u _=>ae b (af b u)) (nZ e);refine oA h 2 rfl xr.2.1 rfl<|dW.cF ((o.rk).q7 h.fr) 0 rfl hi fun bf bg=>⟨?b1,?b2,?b3⟩;case' b1=>
   have h:=oF h;refine oA h 3 rfl xl.2.1 rfl<|oA h 3 rfl xl.2.2.2 rfl<|oA h 2 rfl xr.2.2.2 rfl<|dW.cP ((o.ri).q7 h.fr) 0 rfl al fun aQ ab=>oB h fun ao ap _ _ h=>?_;have e:=e0.J0 h;refine pV (ab _ _ (J e).ri) (h.cell 3 rfl rfl) (h.cell 4 rfl rfl) (h.cell 4 rfl rfl)<|e.oX h oJ 0 rfl (kw e) au fun C B1 aR e h _=>mB (ab _ _ (J e).ri) (h.cell 3 rfl rfl) (h.cell 4 rfl rfl)<|oB h fun aq ar _ _ h=>?_;have e:=e.J0 h;refine jX (h.cell 5 rfl rfl) (h.cell 5 rfl rfl)<|e.vj h oN 0 rfl ad fun E B2 am e h _=>?_
  case' b2=>
   have h:=oF h;refine oA h 3 rfl xl.2.1 rfl<|oA h 3 rfl xl.2.2.2 rfl<|oA h 2 rfl xr.2.2.2 rfl<|dW.cP ((o.ri).q7 h.fr) 0 rfl al fun aQ ab=>oB h fun ao ap _ _ h=>pV (ab _ _ (J (e0.J0 h)).ri) (h.cell 3 rfl rfl) (h.cell 4 rfl rfl) (h.cell 4 rfl rfl)<|oB h fun aq ar _ _ h=>?_;have e:=e0.J0 h;refine jX (h.cell 5 rfl rfl) (h.cell 5 rfl rfl)<|e.oX h oJ 1 rfl (kw e) au fun C B1 aR e h _=>mB (ab _ _ (J e).ri) (h.cell 4 rfl rfl) (h.cell 5 rfl rfl)<|e.vj h oN 0 rfl ad fun E B2 am e h _=>?_
  case' b3=>
   have h:=oF h;refine oA h 3 rfl xl.2.1 rfl<|oA h 3 rfl xl.2.2.2 rfl<|oA h 2 rfl xr.2.2.2 rfl<|dW.cP ((o.ri).q7 h.fr) 0 rfl al fun aQ ab=>oB h fun ao ap _ _ h=>jX (h.cell 4 rfl rfl) (h.cell 4 rfl rfl)<|oB h fun aq ar _ _ h=>?_;have e:=e0.J0 h;refine pV (ab _ _ (J e).ri) (h.cell 4 rfl rfl) (h.cell 5 rfl rfl) (h.cell 5 rfl rfl)<|e.oX h oJ 0 rfl (kw e) au fun C B1 aR e h _=>mB (ab _ _ (J e).ri) (h.cell 4 rfl rfl) (h.cell 5 rfl rfl)<|e.vj h oN 1 rfl ad fun E B2 am e h _=>?_
  all_goals
   refine oD h 5 rfl (eF (xl.1,C,xl.2.2.1,xl.2.2.2)) fun am h _=>oD h 5 rfl (eF (xl.1,C,xl.2.2.1,E)) fun aZ h _=>?_;have h:=oF h;refine oA h 4 rfl xr.2.1 rfl<|i9.from aC 1 rfl oJ fun G R=>oA h 4 rfl xr.2.2.2 rfl<|dW.uS o.ri 1 rfl oJ fun I aj=>oD h 4 rfl (eF (xr.1,G,xr.2.2.1,xr.2.2.2)) fun a0 h _=>oD h 4 rfl (eF (xr.1,G,xr.2.2.1,I)) fun a4 h _=>?_;have h:=oF h;refine oC h 5 rfl (xl.1,C,xl.2.2.1,E) rfl<|oC h 4 rfl (xr.1,G,xr.2.2.1,I) rfl<|oD h 3 rfl (eF (xl.1,C,xl.2.2.1,E)) fun a5 h _=>ia (h.cells 4 rfl rfl)<|oD h 2 rfl (eF (xr.1,G,xr.2.2.1,I)) fun ay h _=>oC h 3 rfl (xl.1,C,xl.2.2.1,E) rfl<|oC h 2 rfl (xr.1,G,xr.2.2.1,I) rfl ?_;have e:=e.J0 h;have hR:=e.y9.j6 (S':=Zo FD Y F) fun b u=>.inl (Ae b u);exact kk (xl.1,C,xl.2.2.1,E) (xr.1,G,xr.2.2.1,I) _ ay (e.qb.y0 fun b u=>by simp[u]) hR ⟨an.Q4,⟨fun a ha=>o.nb.1 a (yT ha),o.nb.2.1,fun a ha=>o.nb.2.2 a (yT ha)⟩,⟨_,R.q8 (U e) ag,by rw[wq,o.J6]⟩,⟨_,aD.q8 (U e) ag,o.Q0⟩,aj.q8 (U e) ag⟩
    (((J e).ek _ (zW hi)).q8 (.refl _ _) fun b u=>.inl (by simp only[Zo,zD,zG] at u⊢;rcases u with (u|u|u)|u<;>simp[u])) e.fr
end
end
section
section
variable {dbk pb j:Nat} {FD S S0 S1 N0 Y Y1 F F' T B Bl Br Bn:List Nat} {D:dE} {w0 wa w w':World} {M M':dU} {L:List (Nat×Obj)} {x xl xr:jP} {n nl nr:dG} {k v:Nat} {t:Int}
def qzb(g:Sg S0 w0 wa F T)(u:∀b∈S0,b∈S1):Sg S1 w0 wa F T:=⟨g.py.mono fun b h _=>u b h,fun b h=>(g.new b h).imp (u b) id,fun b h=>(g.own b h).imp (u b) id⟩
structure nc (FD F:List Nat) (w:World) (T R:List Nat) (x:jP) (n:dG) (B:List Nat):Prop where
 node:eV (Zo FD (T++R) F) w x n B
 sep:∀ b∈T,b∉B
def nc.J0{R:List Nat}(o:nc FD F wa T R x n B)(h:dM T wa w L):nc FD F w (eY L) R x n B:=
 ⟨o.node.q8 h.fr (fun b u C=>o.sep b C u) (fun b u=>.inl (by simp[u])) (BA h),fun b u C=>by
  obtain⟨q,G,rfl⟩:=mem_map.1 u;rcases h.own q G with E|E;exact o.sep _ E C
  have:=o.node.lt _ C;omega⟩
def Ed.base(e:Ed dbk pb FD D j S0 N0 w0 w T Y F M x n B)(C:∀b∈S0,b∈Z)(E:∀b∈FD,b∈Z)(G:HG∈Z)(I:∀b∈Y,b∈Z):lZ Z w0 (Zo FD (T++(B++Y)) F):=fun b u=>by simp only[Zo,zD,zG] at u;rcases u with (u|u|u|u|u)|u;exact .inl (E b u);rw[u];exact .inl G;exact (e.sg.own b u).imp (C b) id;exact (e.cE b u).imp (fun h=>C b (e.cR b h)) id;exact .inl (I b u);exact (e.sg.new b u).imp (C b) id
def Ed.x4(e:Ed dbk pb FD D j S0 N0 w0 w T Y F M x n B)(hn:eV Z w0 xl nl Bn)(V:∀b∈Bn,b∉S0)(hS:∀b∈S0,b∈Z)(G:∀b∈FD,b∈Z)(I:HG∈Z)(hY:∀b∈Y,b∈Z)(C:∀b∈Bn++Y1,b∈Y)(J:∀b∈Bn,b∉Y1)(R:∀b∈Bn,b<w0.heap.size): Ed dbk pb FD D j (Bn++S0) Bn w0 w T Y1 F M xl nl Bn:=by
 have hz:=e.base hS G I hY;have E:∀b∈Zo FD (T++(Bn++Y1)) F,b∈Zo FD (T++(B++Y)) F:=fun b u=>by simp only[Zo,zD,zG] at u⊢;have U:=fun h=>C b h;simp only[zD] at U;rcases u with (u|u|u|u|u)|u;simp[u];simp[u];simp[u];simp[U (.inl u)];simp[U (.inr u)];simp[u]
 refine⟨qzb e.sg fun b u=>zI _ u,e.tw.y0 fun b u=>?_,hn.q8 e.fr V (fun b u=>.inl (hS b u)) fun b u=>hz b (E b u),fun b u hm=>?_,fun b u=>.inl u,fun b u=>zH _ u,J⟩;rcases zD.1 u with u|u;simp[u];exact zI _ (zI _ (C b u));rcases e.sg.own b u with h1|h1;exact V b hm h1
 have:=R b hm;omega
def qz1:∀b∈Bn++(Br++Y),b∈Zo FD (Bl++(Bn++(Br++Y))) F:=fun b u=>by simp only[Zo,zD,zG] at u⊢;rcases u with h|h|h<;>simp[h]
def qzB:∀b∈Bn++Y,b∈Bn++(Br++Y):=fun b u=>by simp only[zD] at u⊢;rcases u with h|h<;>simp[h]
def qzC:∀b∈Zo FD (T++(Bn++Y)) F,b∈Zo FD (T++(Bn++(Br++Y))) F:=fun b u=>by simp only[Zo,zD,zG] at u⊢;rcases u with (h|h|h|h|h)|h<;>simp[h]
def qxB{K:jP×Int->WP}(hT:TW dbk pb FD D j w0 (Bl++(Bn++(Br++Y))) F M)(hl:eV (Zo FD (Bl++(Bn++(Br++Y))) F) w0 xl nl Bl)(hn:eV (Zo FD (Bl++(Bn++(Br++Y))) F) w0 x n Bn)(hr:eV (Zo FD (Bl++(Bn++(Br++Y))) F) w0 xr nr Br)(d1:∀b∈Bl,b∉Bn)(d2:∀b∈Bl,b∉Br)(d3:∀b∈Bl,b∉Y)(d4:∀b∈Bn,b∉Br)(d5:∀b∈Bn,b∉Y)(sl:gA nl)(sr:gA nr)(sn:gA n)(hi:i<n.J6.length)(aA:n.Q4=false)(R:∀yn B' F' w',TW dbk pb FD D j w' (B'++Y) F' (lp k v M n i nl nr).2->eV (Zo FD (B'++Y) F') w' yn (lp k v M n i nl nr).1.1 B'->Fr (Bn++(Bl++F)) w0 w'->(∀b∈B',b∈Bn\/w0.heap.size<=b)->(∀b∈F',b∈Bn++(Bl++F)\/w0.heap.size<=b)->K (yn,(lp k v M n i nl nr).1.2) w'): cW 203 [.agg (mR (jt k v pb t)),.agg (eF x),.i i,.agg (eF xl),.agg (eF xr)] [.agg dT,.one .i] w0 K:=by
 refine qle ?_;have e0:Ed dbk pb FD D j (Bl++F) Bl w0 w0 [] (Bn++(Br++Y)) F M xl nl Bl:=⟨⟨.refl _ _,fun b u=>.inl (by simp[u]),fun _ h=>nomatch h⟩,hT,hl,fun _ h=>(nomatch h),fun b u=>.inl u,fun b u=>by simp[u],fun b u G=>by simp only[zD] at G;rcases G with G|G|G;exact d1 b u G;exact d2 b u G;exact d3 b u G⟩;have hF:∀ {Bx:List Nat},(∀b∈Bx,b∈Bn\/b∈Br)->(∀b∈Bx,b∉Bl)->∀b∈Bx,b∉Bl++F:=fun h1 h2 b u G=>(zD.1 G).elim (h2 b u) fun G=>hT.yf b (by rcases h1 b u with h|h<;>simp[h]) G;have dn:=hF (Bx:=Bn) (fun b u=>.inl u) fun b u G=>d1 b G u;obtain⟨nk,nv,on⟩:=hn.Am (S0:=Bl++F) dn;obtain⟨rk,rv,E⟩:=hr.Am (S0:=Bl++F) (hF (fun b u=>.inr u) fun b u G=>d2 b G u);have ac:∀b∈Bl++F,b∈Zo FD (Bl++(Bn++(Br++Y))) F:=fun b u=>by rcases zD.1 u with u|u<;>simp[u]
 have nZ:∀ {w' T x' n' B'},Ed dbk pb FD D j (Bl++F) Bl w0 w' T (Bn++(Br++Y)) F M x' n' B'->lZ (Zo FD (Bl++(Bn++(Br++Y))) F) w0 (Zo FD (T++(B'++(Bn++(Br++Y)))) F):=fun e=>e.base ac (fun b u=>by simp[u]) oL fun b u=>by simp only[Zo,zD,zG] at u⊢;rcases u with h|h|h<;>simp[h]
 have nw:∀ {w' T x' n' B'},Ed dbk pb FD D j (Bl++F) Bl w0 w' T (Bn++(Br++Y)) F M x' n' B'->pj (Bl++F) (Zo FD (T++(B'++(Bn++(Br++Y)))) F) w' x n nk nv:=fun e=>on.q8 e.fr (fun b u=>u) ac (fun b u=>.inl u) (nZ e);have V:∀ {w' T x' n' B'},Ed dbk pb FD D j (Bl++F) Bl w0 w' T (Bn++(Br++Y)) F M x' n' B'->pj (Bl++F) (Zo FD (T++(B'++(Bn++(Br++Y)))) F) w' xr nr rk rv:=fun e=>E.q8 e.fr (fun b u=>u) ac (fun b u=>.inl u) (nZ e);have ad:i<nk.length:=(by rw[on.sG];exact hi);have a4:=sn.inner aA;have ae:i<n.J9.length:=oJ;have ag:i+1<n.J9.length:=oJ;have z1:=sl.J6;have z2:=sl.Q0;have z3:=sl.J9;have z4:=sr.J6;have z5:=sr.Q0;have z6:=sr.J9;have z7:=sn.J6;have z8:=sn.J9;have a5:=E.sG;have a6:=E.vJ;have h:=oE [] w0;refine oB h fun r1 w2 _ _ h=>oB h fun r3 w4 _ _ h=>oB h fun r5 w6 _ _ h=>oB h fun r7 w8 _ _ h=>oB h fun r9 a7 _ _ h=>gQ (fun _ w'=>∃I B',dM [r9,r7,r5,r3,r1] w' w' [(r9,.cells (eF fl) ND (0,0)),(r7,.cells (eF xr) ND (0,0)),(r5,.cells (eF (xl.1,I,xl.2.2)) ND (0,0)),(r3,.cells (eF x) ND (0,0)),(r1,.cells (mR (jt k v pb t)) WK (0,0))]/\
  Ed dbk pb FD D j (Bl++F) Bl w0 w' [r9,r7,r5,r3,r1] (Bn++(Br++Y)) F M (xl.1,I,xl.2.2) { nl with J6:=if nl.Q4 then nl.J6 else nl.J6++[n.J6.getD i []] } B') ?_ ?_
 refine oA h 2 rfl xl.1 rfl ?_;apply dR<;>intro C;have C:nl.Q4=false:=(by rw[hl.1,zT] at C;exact C);rw[if_neg (show ¬nl.Q4=true by rw[C];decide),on.mt ad];have h:=oF h;refine oA h 2 rfl xl.2.1 rfl<|oA h 3 rfl x.2.1 rfl<|dW.get (on.rk.q7 h.fr) i rfl (x:=nk[i].1) (by rw[zQ,zA ad];rfl) (y:=nk[i].1) rfl<|oB h fun a8 a9 _ _ h=>ia (h.cell 3 rfl rfl) ?_;have e:=e0.J0 h;exact e.oX h oJ 0 rfl ((nw e).ek _ (zW ad)) (by rw[<- on.mt ad];exact rZ on.nb.1 _) fun I B1 a' e h _=>oD h 3 rfl (eF (xl.1,I,xl.2.2)) fun ba h _=>⟨I,B1,lq h (.cons _ (.refl _)),(e.J0 h).sub oL⟩;have C:nl.Q4=true:=(by rw[hl.1,yD] at C;exact C);rw[if_pos C];exact⟨xl.2.1,Bl,lq h (.refl _),e0.J0 h⟩;rintro _ bb ⟨I,B1,h,e⟩;have e:=e.J0 h;have h:=lq h (.refl _);refine oA h 2 rfl I rfl<|oA h 1 rfl xr.2.1 rfl ?_;have aT:(if nl.Q4 then nl.J6 else nl.J6++[n.J6.getD i []]).length<=2001:=by split;omega;rw[zF,xL];omega
 refine e.uB h oN (V e).rk (V e).ek (by rw[E.J6];exact E.nb.1) fun aa B2 bd e h _=>?_;rw[E.J6] at e;refine oD h 2 rfl (eF (xl.1,aa,xl.2.2.1,xl.2.2.2)) fun bf h _=>oA h 2 rfl xl.2.2.1 rfl<|oA h 1 rfl xr.2.2.1 rfl ?_;have e:=e.J0 h;refine e.uf h oN (V e).rv (V e).ev (by rw[E.Q0];exact E.nb.2.1) fun af B3 bg e h _=>?_;rw[E.Q0] at e;refine oD h 2 rfl (eF (xl.1,aa,af,xl.2.2.2)) fun bh h _=>oA h 2 rfl xl.2.2.2 rfl<|oA h 1 rfl xr.2.2.2 rfl ?_;have e:=e.J0 h;refine e.ut h oN (V e).ri E.nb.2.2 fun ah B4 bi e h _=>oD h 2 rfl (eF (xl.1,aa,af,ah)) fun bj h _=>?_;have h:=oF h;have e:=e.J0 h;have h:=lq h (.refl _);refine oC h 4 rfl (jt k v pb t) rfl<|oA h 3 rfl x.2.2.2 rfl<|dW.get (nw e).ri i rfl (x:=n.J9[i]) (zA ae) (y:=n.J9[i]) rfl<|oC h 2 rfl (xl.1,aa,af,ah) rfl ?_;have hJ:({ Q4:=nl.Q4,J6:=(if nl.Q4 then nl.J6 else nl.J6++[n.J6.getD i []])++nr.J6,Q0:=nl.Q0++nr.Q0,J9:=nl.J9++nr.J9 }:dG)=kr nl nr (n.J6.getD i []):=rfl;have aC:n.J9.getD i 0=n.J9[i]:=tL ae;have ao:n.J9.getD (i+1) 0=n.J9[i+1]:=tL ag;unfold lp at R;rw[aC,ao,<- hJ] at R;have aD:=e.y9.j6 (fun b u=>.inl (qzC b u));have e:=e.x4 hn dn ac (fun b u=>by simp[u]) oL qz1 (Y1:=Y) qzB d5 hn.lt;refine ud e.tw aD (by dsimp only;rw[zF];omega) (by dsimp only;rw[zF];omega) (by dsimp only;rw[zF];omega) fun F1 bm ap aE aF=>?_;obtain⟨e,h⟩:=e.next h ap aE aF
 generalize aG:dK k v M n.J9[i] { Q4:=nl.Q4,J6:=(if nl.Q4 then nl.J6 else nl.J6++[n.J6.getD i []])++nr.J6,Q0:=nl.Q0++nr.Q0,J9:=nl.J9++nr.J9 }=st at R e⊢;have hu:gy st.1.1:=(by rw[<- aG];exact uk hT.wf (hn.2.1.2.2 _ (zW ae)));obtain⟨⟨bn,J⟩,M1⟩:=st;dsimp only at R e hu⊢;refine gQ (fun er w'=>∃F2,er=(if J=0 then (e9 M1 n.J9[i+1]).1 else J)/\dM [r9,r7,r5,r3,r1] w' w' [(r9,.cells (eF fl) ND (0,0)),(r7,.cells (eF xr) ND (0,0)),(r5,.cells (eF (xl.1,aa,af,ah)) ND (0,0)),(r3,.cells (eF x) ND (0,0)),(r1,.cells (mR (jt k v pb t)) WK (0,0))]/\
  Ed dbk pb FD D j (Bn++(Bl++F)) Bn w0 w' [r9,r7,r5,r3,r1] Y F2 (if J=0 then (e9 M1 n.J9[i+1]).2 else M1) x n Bn) ?_ ?_
 apply dR<;>intro C;have C:J=0:=yO.1 C;rw[if_pos C,if_pos C];have h:=oF h;refine oA h 4 rfl (pW pb) rfl<|oA h 3 rfl x.2.2.2 rfl ?_;have e:=e.J0 h;have ew:wrap .i64 ((i:Int)+1)=((i+1:Nat):Int):=qG oJ;refine dW.get e.y6 (i+1) ew (x:=n.J9[i+1]) (zA ag) (y:=n.J9[i+1]) rfl<|TW.drop e.tw fun F2 bo aq aH aI=>?_;obtain⟨e,h⟩:=e.next h aq aH aI
 exact⟨F2,rfl,h,e⟩;have C:¬J=0:=zR.1 C;rw[if_neg C,if_neg C];exact⟨F1,rfl,h,e⟩;rintro er bp ⟨F2,rfl,h,e⟩;have e:=e.J0 h;have h:=lq h (.refl _);have aJ:∀ {A B:(dG×Int)×dU},(if J≠0 then A else B)=if J=0 then B else A:=by intro A B;by_cases h:J=0;rw[if_neg (fun h'=>h' h),if_pos h];rw[if_pos h,if_neg h]
 rw[aJ] at R;apply dR<;>intro C;have C:(if J=0 then (e9 M1 n.J9[i+1]).1 else J)≠0:=by rw[zT] at C;exact zR.1 C
 refine oD h 0 rfl (eF fl) fun ar h _=>oC h 0 rfl fl rfl ?_;have e:=e.J0 h;by_cases h0:J=0;rw[if_pos h0] at R C e⊢;rw[if_pos C] at R;exact R fl [] F2 ar e.qb.j7 (.zero _ _) e.fr (fun _ h=>(nomatch h)) e.sg.new;rw[if_neg h0] at R C e⊢;exact R fl [] F2 ar e.qb.j7 (.zero _ _) e.fr (fun _ h=>(nomatch h)) e.sg.new;have C:(if J=0 then (e9 M1 n.J9[i+1]).1 else J)=0:=by rw[yD] at C;exact yO.1 C
 by_cases h0:J=0;rw[if_pos h0] at R C e;rw[if_neg (fun h=>h C)] at R;refine oA h 3 rfl x.2.2.2 rfl<|e.tj h (i:=i) ae rfl hu fun B1 bt e h _=>?_;have h:=oF h;refine oA h 3 rfl x.2.2.2 rfl<|oA h 3 rfl x.2.1 rfl ?_;have e:=e.J0 h;have ew:wrap .i64 ((i:Int)+1)=((i+1:Nat):Int):=qG oJ;have aK:wrap .i64 ((i:Int)+2)=((i+1+1:Nat):Int):=(by rw[gc _ oJ];omega);refine e.FQ h (i:=i+1) (by dsimp only;rw[xF];omega) ew aK (by dsimp only;rw[xF];omega) fun U B2 bu e h _=>ia (h.cell 3 rfl rfl)<|e.Ai h (i:=i) hi rfl ew oN fun ab B3 bv e h _=>oD h 3 rfl (eF (x.1,x.2.1,x.2.2.1,U)) fun bx h _=>oD h 3 rfl (eF (x.1,ab,x.2.2.1,U)) fun bz h _=>oC h 3 rfl (x.1,ab,x.2.2.1,U) rfl<|oD h 0 rfl (eF (x.1,ab,x.2.2.1,U)) fun aL h _=>oC h 0 rfl (x.1,ab,x.2.2.1,U) rfl ?_;have e:=e.J0 h;refine R (x.1,ab,x.2.2.1,U) B3 F2 aL e.tw.j7 (e.node.j6 fun b u=>.inl (by simp only[Zo,zD,zG] at u⊢;rcases u with (u|u|u|u)|u<;>simp[u])) e.fr e.cE e.sg.new;rw[if_neg h0] at C;exact absurd C h0
end
end
end
end Go.Proofs.YtpcmehldpoljfaaGreatDoor
