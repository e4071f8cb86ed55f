/- Conditions: those that stand in each line. -/
import Derived.Test.YtfneoijhmknlnaaGreatDoorCXBQ4
import Derived.Test.YtfneoijhmknlnaaGreatDoorCXBQ3
set_option linter.unusedVariables false
set_option linter.unusedSimpArgs false
set_option linter.defProp false
namespace Go.Proofs.YtfneoijhmknlnaaGreatDoor
open Go.Proofs.Tryz (prog)
section
open Go Go.Pt List
open Go.IntKind (wrap)
attribute [local irreducible] ld dK ic nK jx eT st new idx jK jF fV jI jl mp gK nn call dW inv run fl jf join loop held ext kW eU m8 nQ nT IntKind.wrap
variable {B:List Nat} {K:Sl->WP} {cs:Array Value} {i:Nat} {ii:Int} {l:List Int} {s:Sl} {w:World}
def EU:∃i,prog.info? 96=some i/\i.zero=some (.slice none 0 0)/\i.size=1/\i.bytes=24:=uj oK
abbrev gA (s:Sl):Value:=s.v
abbrev od (n:Int):Value:=.u n
def Et{α:Type}(e:α->Value)(l:List α)(i:Nat)(x:α):(l.take i++[x]++l.drop i).map e=(l.map e).take i++[e x]++(l.map e).drop i:=by rw[xN,xN,xP,xQ];rfl
def qua{α:Type}(e:α->Value)(l:List α)(i:Nat):(l.take i++l.drop (i+1)).map e=(l.map e).take i++(l.map e).drop (i+1):=by rw[xN,xP,xQ]
def AT{a:Addr}{len cap:Nat}{hi:Int}{u:Nat}{K:Sl->Prop}(n:Nat)(C:hi=n)(h:n<=cap)(k:K ⟨some a,n,cap⟩):fV ⟨some a,len,cap⟩ none (some hi) none u K:=by subst C;refine A0 ⟨oJ,by dsimp only;omega⟩ ?_;rw[zJ];exact k
def tI{b len cap:Nat}{lo:Int}{K:Sl->Prop}(n:Nat)(h:lo=n)(C:n<=len)(u:len<=cap)(E:n<cap)(k:K ⟨some (dc b n),len-n,cap-n⟩):fV ⟨pW b,len,cap⟩ (some lo) none none 1 K:=by subst h;refine E8 oJ oJ u oJ ?_;rw[zJ,xT,xS];exact k
def qxM{lo hi mx:Int}{u:Nat}{K:Sl->Prop}(h:0<=lo/\lo<=hi/\hi<=mx/\mx<=s.cap)(k:∀C,K C):fV s (some lo) (some hi) (some mx) u K:=by unfold fV;exact⟨by simpa using h,k _⟩
def Bg{α:Type}{e:α->Value}{b:Nat}{T:TypeId}{E:Nat×Nat}{l:List α}(G:w.heap[b]?=some (.cells cs T E))(I:cs.toList.take l.length=l.map e)(i:Nat):∀(j:Nat) u,((l.map e).drop i)[j]?=some u->w.cell? (Addr.add (dc b i) j)=some u:=fun j u C=>by rw[Addr.q9,kj G];rw[xA] at C;have h:=(zP.1 C).1;rw[zK] at h;rw[<- I,xB,if_pos h] at C;simpa using C
def qmD{α:Type}{e:α->Value}{l:List α}(h:cs.toList.take l.length=l.map e)(hi:i<=l.length):cs.toList.take i=(l.map e).take i:=by rw[<- h,take_take,xR hi]
def Ec{α:Type}{enc:α->List Value}{e:α->Value}(u:∀x,enc x=[e x]){l:List α}(h:cs.toList.take l.length=l.flatMap enc):cs.toList.take l.length=l.map e:=by rw[h,AM u]
def quS{l:List Sl}{x:Sl}{vb:Nat}{T':TypeId}(h:eZ gT 1 w s l B)(hi:i<=l.length)(he:ii=i)(hl:l.length<=100000)(hv:w.heap[vb]?=some (.cells #[gA x] T' (0,0)))(ai:vb∉B)(kk:∀s' B' w',eZ gT 1 w' s' (ga l i x) B'->Fr B w w'->(∀b∈B',b∈B\/w.heap.size<=b)->K s' w'): cW 187 [s.v,.i ii,.slice (pW vb) 1 1] dd w K:=by
 obtain⟨aE,V,hz,aj,ak⟩:=EU;refine qmb (s:=s) (i:=ii) (v:=⟨pW vb,1,1⟩) ?_;subst he;have al:=h.len;have aa:∀w',Fr B w w'->∀(j:Nat) u,([gA x]:List Value)[j]?=some u->w'.cell? (Addr.add (dc vb) j)=some u:=fun w' f j u hj=>by rw[Addr.q9,kj (by rw[f.block vb (fJ hv) ai];exact hv),xS];simpa using hj
 refine dX.part (S:=[]) (eZ.kF (enc:=gT) (k:=1) (fun _=>rfl) h (fun _ _ h=>nomatch h)) (lo:=some (i:Int)) (hi:=none) i l.length rfl (by rw[xW,al]) hi (zM _) fun s1 _ _ _=>cond_false rfl ?_;apply eH<;>intro hc;have J:i=l.length:=(by have:=yP.1 hc;omega);have am:Src prog 1 173 (.slice (pW vb) 1 1) 1 ([x].flatMap gT) w:=.ofSlice w (e':=96) oK _ 1 1 _ rfl (aa w (.refl _ _)) (fun u hu=>by rw[yH,flatMap_nil,xH] at hu;rw[zE.1 hu];rfl);refine eZ.j0 (ys:=[x]) (e:=96) h (fun _=>rfl) oK V hz aj rfl am rfl (by rw[ak];omega) oJ fun s' B' w' b' f' n' _=>kk s' B' w' ?_ f' n';have e:ga l i x=l++[x]:=(by unfold ga;rw[J,xZ,drop_length,xH]);rw[e];exact b';have J:i<l.length:=by
  have:=(zR.1 hc)
  omega
 have aF:l≠[]:=fun e=>by rw[e] at J;exact absurd J (xY _)
 obtain⟨b,cs,T,rfl,ha,hb,hn,an,ao,aG⟩:=h.ptr aF;have hM:=Ec (e:=gA) (fun _=>rfl) aG;obtain⟨sa,sn,sc⟩:=s;dsimp only at ha hn an ao;subst ha hn;have aH:vb≠b:=(oP ai);have E:(l.map gA).length=l.length:=zK ..;have ap:∀v∈(l.map gA).drop i,Value.oneCell' v=true:=fun v I=>by obtain⟨y,_,rfl⟩:=mem_map.1 (yU I);rfl
 have O:((l.map gA).drop i).length=l.length-i:=(by rw[yC,E]);have Q:wrap .i64 ((l.length:Int)+1)=((l.length+1:Nat):Int):=(by rw[gd _ oJ];rfl);have aq:wrap .i64 ((i:Int)+1)=((i+1:Nat):Int):=(by rw[gd _ oJ];rfl);have aI:wrap .i64 (((l.length+1:Nat):Int)-(i:Int))=((l.length+1-i:Nat):Int):=(by rw[gd _ oJ];omega);apply cD<;>intro hc;have hg:sc<l.length+1:=by
  have:=hc
  dsimp only at this;rw[show (((1:Nat):Int))=1 from rfl,Q] at this;omega
 refine AT i rfl oJ ?_;dsimp only;rw[show (((1:Nat):Int))=1 from rfl,Q,aI,aq];have ar:i+(l.length+1-i)=l.length+1:=oJ;refine GK (e:=96) (i:=aE) (kn:=.i64) (olds:=(l.map gA).take i) oK oK V hz aj rfl (by rw[yL,E];omega) (fun h=>nomatch h) (fun a ha j u hj=>?_) oJ oJ (by rw[ar,ak];omega) oJ fun b2 aK c w2 e2 ad U R aL aM=>?_;cases ha;have au:=Bg hb hM 0 j u;rw[xF] at au;rw[xB] at hj;split at hj;exact au hj;cases hj;rw[ar] at R⊢;have av:=fJ hb;have aX:Fr [b2] w w2:=U.mono fun _ h _=>nomatch h;refine tI i rfl oJ R oJ<|wX (vs:=[gA x]) (src:=⟨pW vb,1,1⟩) ad (el:=96) oK oK ?_ (fun _=>⟨_,rfl,aa w2 (U.mono fun _ h _=>nomatch h)⟩) (fun v I=>by rw[zE.1 I];rfl) oO fun w3 ae f3=>?_;show 1=min 1 (l.length+1-i);omega;refine tI (i+1) rfl oJ R oJ<|tI i rfl oJ oJ oJ ?_;have aN:w3.heap[b]?=some (.cells cs T (0,0)):=by rw[f3.block b (yD av U.size) oO,U.block b av (fun h=>nomatch h)];exact hb
 refine wX (w:=w3.drew) (vs:=(l.map gA).drop i) (src:=⟨some (dc b i),l.length-i,sc-i⟩) ae (el:=96) oK oK ?_ (fun _=>⟨_,rfl,Bg (w:=w3.drew) aN hM i⟩) ap (by rw[nY,O];omega) fun w4 aO f4=>?_;rw[O];show l.length-i=min (l.length-i) (l.length+1-(i+1));omega;have G:=qwZ (cs:=aK) (M:=l.map gA) (i:=i) (v:=gA x) (by rw[E];omega) (by rw[E];omega) aM;have C:(ga l i x).length=l.length+1:=(by unfold ga;simp;omega);refine kk _ [b2] w4 (eZ.one (e:=gA) (fun _=>rfl) aO C.symm R (by rw[nY,nY];exact aL) ?_) ?_ (fun b' af=>?_);rw[C];rw[E] at G;rw[G];exact (Et gA l i x).symm;refine Fr.j6 (S:=[b]) (T:=[b2]) (U.mono fun _ h _=>nomatch h) (f3.drew.trans f4) fun i hi=>.inr ?_;rw[zE.1 hi,e2];exact zM _;rw[zE.1 af,e2];exact .inr (zM _);have hg:l.length+1<=sc:=by
  have:=hc
  dsimp only at this;rw[show (((1:Nat):Int))=1 from rfl,Q] at this;omega
 dsimp only;rw[show (((1:Nat):Int))=1 from rfl,Q,aq];refine AT (l.length+1) rfl hg<|tI (i+1) rfl oJ hg oJ<|CM (e:=Extern.SlicesOverlaps.overlaps #[173,173] #[4]) Tryz.func216 oK oK oK oK false w (qov oK V hv hb aH oJ)<|cond_true rfl<|tI (i+1) rfl oJ hg oJ<|tI i rfl oJ hg oJ<|wX (w:=w.drew) (vs:=(l.map gA).drop i) (src:=⟨some (dc b i),l.length+1-i,sc-i⟩) hb (el:=96) oK oK ?_ (fun _=>⟨_,rfl,Bg (w:=w.drew) hb hM i⟩) ap (by rw[O];omega) fun w2 ad U=>?_;rw[O];show l.length-i=min (l.length+1-i) (l.length+1-(i+1));omega;refine tI i rfl oJ hg oJ<|wX (vs:=[gA x]) (src:=⟨pW vb,1,1⟩) ad (el:=96) oK oK ?_ (fun _=>⟨_,rfl,aa w2 ((Fr.refl [b] w).drew.trans U)⟩) (fun v I=>by rw[zE.1 I];rfl) (by rw[nY];simp;omega) fun w3 ae f3=>?_;show 1=min 1 (l.length+1-i);omega;have G:=qw1 (cs:=cs) (M:=l.map gA) (i:=i) (v:=gA x) (by rw[E];omega) (by rw[E];omega) (qmD hM oJ);have C:(ga l i x).length=l.length+1:=(by unfold ga;simp;omega);refine kk _ [b] w3 (eZ.one (e:=gA) (fun _=>rfl) ae C.symm hg (by rw[nY,nY];exact ao) ?_) (((Fr.refl [b] w).drew.trans U).trans f3) (fun b' af=>.inl af);rw[C];rw[E] at G;rw[G];exact (Et gA l i x).symm
def quP{l:List Sl}{jj:Int}(h:eZ gT 1 w s l B)(hi:i<l.length)(he:ii=i)(hj:jj=((i+1:Nat):Int))(hl:l.length<=100000)(kk:∀s' w',eZ gT 1 w' s' (iw l i) B->Fr B w w'->K s' w'): cW 222 [s.v,.i ii,.i jj] dd w K:=by
 obtain⟨au,aa,hz,ab,av⟩:=EU;refine ql9 ?_;subst he hj;have ac:l≠[]:=fun e=>by rw[e] at hi;exact absurd hi (xY _)
 obtain⟨b,cs,T,rfl,ha,hb,hn,Q,G,ad⟩:=h.ptr ac;have hM:=Ec (e:=gA) (fun _=>rfl) ad;obtain⟨sa,sn,sc⟩:=s;dsimp only at ha hn Q G;subst ha hn;have C:(l.map gA).length=l.length:=zK ..;have ay:∀v∈(l.map gA).drop (i+1),Value.oneCell' v=true:=fun v ae=>by obtain⟨y,_,rfl⟩:=mem_map.1 (yU ae);rfl
 have az:((l.map gA).drop (i+1)).length=l.length-(i+1):=(by rw[yC,C]);refine qxM oN fun _=>cond_false (zR.2 oJ)<|AT i rfl oJ ?_;have af:∀O,O.heap[b]?=some (.cells (dT cs i ((l.map gA).drop (i+1))) T (0,0))->Fr [b] w O->fV ⟨pW b,l.length-1,sc⟩ (some (((l.length-1:Nat)):Int)) (some ((l.length:Nat):Int)) none 1 fun (I:Sl)=>
  run [] ((Builtin.clear_ #[173] 0 (#[Value.slice I.a I.len I.cap])).run prog O)<|
  fun (aA:PUnit) (ag:World)=>
  K ⟨pW b,l.length-1,sc⟩ ag:=fun O J f5=>by
  refine ER oJ oJ oJ oJ ?_;rw[zJ,zJ,xT,xS];have h1:l.length-(l.length-1)=1:=oJ;rw[h1];dsimp only;refine qt7 (e:=96) (z:=(Value.slice none 0 0)) J oK oK rfl rfl oJ (by rw[nY];omega) fun w6 ai f6=>?_;have E:=qwC (cs:=cs) (M:=l.map gA) (i:=i) (z:=(Value.slice none 0 0)) (by rw[C];omega) (by rw[C];exact hM);have R:(iw l i).length=l.length-1:=(by unfold iw;simp;omega);refine kk _ w6 (eZ.one (e:=gA) (fun _=>rfl) ai R.symm oJ (by rw[nY,nY];exact G) ?_) (f5.trans f6);rw[R];rw[C] at E;rw[show List.replicate 1 ((Value.slice none 0 0))=[(Value.slice none 0 0)] from rfl,E];exact (qua gA l i).symm
 refine dX.part (S:=[]) (eZ.kF (enc:=gT) (k:=1) (fun _=>rfl) h (fun _ _ h=>nomatch h)) (lo:=some ((i+1:Nat):Int)) (hi:=none) (i+1) l.length rfl rfl oJ (zM _) fun s3 U h3 aF=>?_;have V:Src prog 1 173 s3.v s3.len ((l.map gA).drop (i+1)) w.drew:=by
  have:=vo (P:=prog) (tx:=173) (e':=96) (h3.same (qo.refl w).drew) (fun _=>rfl) (fun x u hu=>by rw[zE.1 hu];rfl) oK
  rw[AM (enc:=gT) (e:=gA) (fun _=>rfl),xZ,xQ] at this;exact this
 dsimp only;refine qt2 (w:=w.drew) (e:=96) hb oK aa ab V (by rw[U];omega) G fun O J f5=>?_;have e:i+s3.len=l.length-1:=(by rw[U];omega);rw[e];exact af O J ((Fr.refl [b] w).drew.trans f5)
def quT{x:Int}{vb:Nat}{T':TypeId}(h:eZ jc 1 w s l B)(hi:i<=l.length)(he:ii=i)(hl:l.length<=100000)(hv:w.heap[vb]?=some (.cells #[od x] T' (0,0)))(ai:vb∉B)(kk:∀s' B' w',eZ jc 1 w' s' (ga l i x) B'->Fr B w w'->(∀b∈B',b∈B\/w.heap.size<=b)->K s' w'): cW 189 [s.v,.i ii,.slice (pW vb) 1 1] dd w K:=by
 obtain⟨aE,V,hz,aj,ak⟩:=Ac;refine qmc (s:=s) (i:=ii) (v:=⟨pW vb,1,1⟩) ?_;subst he;have al:=h.len;have aa:∀w',Fr B w w'->∀(j:Nat) u,([od x]:List Value)[j]?=some u->w'.cell? (Addr.add (dc vb) j)=some u:=fun w' f j u hj=>by rw[Addr.q9,kj (by rw[f.block vb (fJ hv) ai];exact hv),xS];simpa using hj
 refine dX.part (S:=[]) (eZ.kF (enc:=jc) (k:=1) (fun _=>rfl) h (fun _ _ h=>nomatch h)) (lo:=some (i:Int)) (hi:=none) i l.length rfl (by rw[xW,al]) hi (zM _) fun s1 _ _ _=>cond_false rfl ?_;apply eH<;>intro hc;have J:i=l.length:=(by have:=yP.1 hc;omega);have am:Src prog 1 174 (.slice (pW vb) 1 1) 1 ([x].flatMap jc) w:=.ofSlice w (e':=44) oK _ 1 1 _ rfl (aa w (.refl _ _)) (fun u hu=>by rw[yH,flatMap_nil,xH] at hu;rw[zE.1 hu];rfl);refine eZ.j0 (ys:=[x]) (e:=44) h (fun _=>rfl) oK V hz aj rfl am rfl (by rw[ak];omega) oJ fun s' B' w' b' f' n' _=>kk s' B' w' ?_ f' n';have e:ga l i x=l++[x]:=(by unfold ga;rw[J,xZ,drop_length,xH]);rw[e];exact b';have J:i<l.length:=by
  have:=(zR.1 hc)
  omega
 have aF:l≠[]:=fun e=>by rw[e] at J;exact absurd J (xY _)
 obtain⟨b,cs,T,rfl,ha,hb,hn,an,ao,aG⟩:=h.ptr aF;have hM:=Ec (e:=od) (fun _=>rfl) aG;obtain⟨sa,sn,sc⟩:=s;dsimp only at ha hn an ao;subst ha hn;have aH:vb≠b:=(oP ai);have E:(l.map od).length=l.length:=zK ..;have ap:∀v∈(l.map od).drop i,Value.oneCell' v=true:=fun v I=>by obtain⟨y,_,rfl⟩:=mem_map.1 (yU I);rfl
 have O:((l.map od).drop i).length=l.length-i:=(by rw[yC,E]);have Q:wrap .i64 ((l.length:Int)+1)=((l.length+1:Nat):Int):=(by rw[gd _ oJ];rfl);have aq:wrap .i64 ((i:Int)+1)=((i+1:Nat):Int):=(by rw[gd _ oJ];rfl);have aI:wrap .i64 (((l.length+1:Nat):Int)-(i:Int))=((l.length+1-i:Nat):Int):=(by rw[gd _ oJ];omega);apply cD<;>intro hc;have hg:sc<l.length+1:=by
  have:=hc
  dsimp only at this;rw[show (((1:Nat):Int))=1 from rfl,Q] at this;omega
 refine AT i rfl oJ ?_;dsimp only;rw[show (((1:Nat):Int))=1 from rfl,Q,aI,aq];have ar:i+(l.length+1-i)=l.length+1:=oJ;refine GK (e:=44) (i:=aE) (kn:=.i64) (olds:=(l.map od).take i) oK oK V hz aj rfl (by rw[yL,E];omega) (fun h=>nomatch h) (fun a ha j u hj=>?_) oJ oJ (by rw[ar,ak];omega) oJ fun b2 aK c w2 e2 ad U R aL aM=>?_;cases ha;have au:=Bg hb hM 0 j u;rw[xF] at au;rw[xB] at hj;split at hj;exact au hj;cases hj;rw[ar] at R⊢;have av:=fJ hb;have aX:Fr [b2] w w2:=U.mono fun _ h _=>nomatch h;refine tI i rfl oJ R oJ<|wX (vs:=[od x]) (src:=⟨pW vb,1,1⟩) ad (el:=44) oK oK ?_ (fun _=>⟨_,rfl,aa w2 (U.mono fun _ h _=>nomatch h)⟩) (fun v I=>by rw[zE.1 I];rfl) oO fun w3 ae f3=>?_;show 1=min 1 (l.length+1-i);omega;refine tI (i+1) rfl oJ R oJ<|tI i rfl oJ oJ oJ ?_;have aN:w3.heap[b]?=some (.cells cs T (0,0)):=by rw[f3.block b (yD av U.size) oO,U.block b av (fun h=>nomatch h)];exact hb
 refine wX (w:=w3.drew) (vs:=(l.map od).drop i) (src:=⟨some (dc b i),l.length-i,sc-i⟩) ae (el:=44) oK oK ?_ (fun _=>⟨_,rfl,Bg (w:=w3.drew) aN hM i⟩) ap (by rw[nY,O];omega) fun w4 aO f4=>?_;rw[O];show l.length-i=min (l.length-i) (l.length+1-(i+1));omega;have G:=qwZ (cs:=aK) (M:=l.map od) (i:=i) (v:=od x) (by rw[E];omega) (by rw[E];omega) aM;have C:(ga l i x).length=l.length+1:=(by unfold ga;simp;omega);refine kk _ [b2] w4 (eZ.one (e:=od) (fun _=>rfl) aO C.symm R (by rw[nY,nY];exact aL) ?_) ?_ (fun b' af=>?_);rw[C];rw[E] at G;rw[G];exact (Et od l i x).symm;refine Fr.j6 (S:=[b]) (T:=[b2]) (U.mono fun _ h _=>nomatch h) (f3.drew.trans f4) fun i hi=>.inr ?_;rw[zE.1 hi,e2];exact zM _;rw[zE.1 af,e2];exact .inr (zM _);have hg:l.length+1<=sc:=by
  have:=hc
  dsimp only at this;rw[show (((1:Nat):Int))=1 from rfl,Q] at this;omega
 dsimp only;rw[show (((1:Nat):Int))=1 from rfl,Q,aq];refine AT (l.length+1) rfl hg<|tI (i+1) rfl oJ hg oJ<|CM (e:=Extern.SlicesOverlaps.overlaps #[174,174] #[4]) Tryz.func220 oK oK oK oK false w (qov oK V hv hb aH oJ)<|cond_true rfl<|tI (i+1) rfl oJ hg oJ<|tI i rfl oJ hg oJ<|wX (w:=w.drew) (vs:=(l.map od).drop i) (src:=⟨some (dc b i),l.length+1-i,sc-i⟩) hb (el:=44) oK oK ?_ (fun _=>⟨_,rfl,Bg (w:=w.drew) hb hM i⟩) ap (by rw[O];omega) fun w2 ad U=>?_;rw[O];show l.length-i=min (l.length+1-i) (l.length+1-(i+1));omega;refine tI i rfl oJ hg oJ<|wX (vs:=[od x]) (src:=⟨pW vb,1,1⟩) ad (el:=44) oK oK ?_ (fun _=>⟨_,rfl,aa w2 ((Fr.refl [b] w).drew.trans U)⟩) (fun v I=>by rw[zE.1 I];rfl) (by rw[nY];simp;omega) fun w3 ae f3=>?_;show 1=min 1 (l.length+1-i);omega;have G:=qw1 (cs:=cs) (M:=l.map od) (i:=i) (v:=od x) (by rw[E];omega) (by rw[E];omega) (qmD hM oJ);have C:(ga l i x).length=l.length+1:=(by unfold ga;simp;omega);refine kk _ [b] w3 (eZ.one (e:=od) (fun _=>rfl) ae C.symm hg (by rw[nY,nY];exact ao) ?_) (((Fr.refl [b] w).drew.trans U).trans f3) (fun b' af=>.inl af);rw[C];rw[E] at G;rw[G];exact (Et od l i x).symm
def quQ{jj:Int}(h:eZ jc 1 w s l B)(hi:i<l.length)(he:ii=i)(hj:jj=((i+1:Nat):Int))(hl:l.length<=100000)(kk:∀s' w',eZ jc 1 w' s' (iw l i) B->Fr B w w'->K s' w'): cW 257 [s.v,.i ii,.i jj] dd w K:=by
 obtain⟨au,aa,hz,ab,av⟩:=Ac;refine qma ?_;subst he hj;have ac:l≠[]:=fun e=>by rw[e] at hi;exact absurd hi (xY _)
 obtain⟨b,cs,T,rfl,ha,hb,hn,Q,G,ad⟩:=h.ptr ac;have hM:=Ec (e:=od) (fun _=>rfl) ad;obtain⟨sa,sn,sc⟩:=s;dsimp only at ha hn Q G;subst ha hn;have C:(l.map od).length=l.length:=zK ..;have ay:∀v∈(l.map od).drop (i+1),Value.oneCell' v=true:=fun v ae=>by obtain⟨y,_,rfl⟩:=mem_map.1 (yU ae);rfl
 have az:((l.map od).drop (i+1)).length=l.length-(i+1):=(by rw[yC,C]);refine qxM oN fun _=>cond_false (zR.2 oJ)<|AT i rfl oJ ?_;have af:∀O,O.heap[b]?=some (.cells (dT cs i ((l.map od).drop (i+1))) T (0,0))->Fr [b] w O->fV ⟨pW b,l.length-1,sc⟩ (some (((l.length-1:Nat)):Int)) (some ((l.length:Nat):Int)) none 1 fun (I:Sl)=>
  run [] ((Builtin.clear_ #[174] 0 (#[Value.slice I.a I.len I.cap])).run prog O)<|
  fun (aA:PUnit) (ag:World)=>
  K ⟨pW b,l.length-1,sc⟩ ag:=fun O J f5=>by
  refine ER oJ oJ oJ oJ ?_;rw[zJ,zJ,xT,xS];have h1:l.length-(l.length-1)=1:=oJ;rw[h1];dsimp only;refine qt7 (e:=44) (z:=(Value.int .u32 0)) J oK oK rfl rfl oJ (by rw[nY];omega) fun w6 ai f6=>?_;have E:=qwC (cs:=cs) (M:=l.map od) (i:=i) (z:=(Value.int .u32 0)) (by rw[C];omega) (by rw[C];exact hM);have R:(iw l i).length=l.length-1:=(by unfold iw;simp;omega);refine kk _ w6 (eZ.one (e:=od) (fun _=>rfl) ai R.symm oJ (by rw[nY,nY];exact G) ?_) (f5.trans f6);rw[R];rw[C] at E;rw[show List.replicate 1 ((Value.int .u32 0))=[(Value.int .u32 0)] from rfl,E];exact (qua od l i).symm
 refine dX.part (S:=[]) (eZ.kF (enc:=jc) (k:=1) (fun _=>rfl) h (fun _ _ h=>nomatch h)) (lo:=some ((i+1:Nat):Int)) (hi:=none) (i+1) l.length rfl rfl oJ (zM _) fun s3 U h3 aF=>?_;have V:Src prog 1 174 s3.v s3.len ((l.map od).drop (i+1)) w.drew:=by
  have:=vo (P:=prog) (tx:=174) (e':=44) (h3.same (qo.refl w).drew) (fun _=>rfl) (fun x u hu=>by rw[zE.1 hu];rfl) oK
  rw[AM (enc:=jc) (e:=od) (fun _=>rfl),xZ,xQ] at this;exact this
 dsimp only;refine qt2 (w:=w.drew) (e:=44) hb oK aa ab V (by rw[U];omega) G fun O J f5=>?_;have e:i+s3.len=l.length-1:=(by rw[U];omega);rw[e];exact af O J ((Fr.refl [b] w).drew.trans f5)
end
section
open Go Go.Pt List
open Go.IntKind (wrap)
open Classical
attribute [local irreducible] ld dK ic nK jx eT st new idx jK jF fV jI jl mp gK nn call dW inv run fl jf join loop held ext kW eU m8 nQ nT IntKind.wrap
variable {B S:List Nat} {K:Sl->WP} {L:List (Nat×Obj)} {T:TypeId} {b l:List Int} {k v:Nat} {kind:Int} {n:dN} {ps:qy} {s:Sl} {w w0:World} {x:kV}
def quh{i j:Nat}(h:i+j<=10000000):wrap .i64 (Int.fdiv (wrap .u64 (wrap .i64 ((i:Int)+(j:Int)))) (2^1))=(((i+j) / 2:Nat):Int):=by have e1:wrap .i64 ((i:Int)+(j:Int))=(i:Int)+(j:Int):=gd _ oJ;have u:wrap .u64 ((i:Int)+(j:Int))=(i:Int)+(j:Int):=IntWalk.u64_in _ oJ;rw[e1,u,Int.fdiv_eq_ediv_of_nonneg _ oM];have e:((i:Int)+(j:Int)) / 2^1=(((i+j) / 2:Nat):Int):=oJ;rw[e,gd _ oJ]
def qwo{n:Nat}{v:Value}{p:Nat->Bool}{K:Int->WP}(E:n<=1000000)(hf:∀w1 (i:Nat) (U:Bool->WP),Fr [] w w1->i<n->(∀w2,Fr [] w w2->U (p i) w2)->dW prog v [.i i] df w1 U)(u:∀i j,i<=j->j<n->p i=true->p j=true)(hk:∀(r:Nat) w',r<=n->(∀i,i<r->p i=false)->(∀i,r<=i->i<n->p i=true)->Fr [] w w'->K r w'): cW 129 [.i n,v] de w K:=by
 refine qpI<|jT (fun s w'=>∃i j:Nat,s=((i:Int),(j:Int))/\i<=j/\j<=n/\(∀a,a<i->p a=false)/\(∀a,j<=a->a<n->p a=true)/\Fr [] w w') (fun s _=>(s.2-s.1).toNat) ⟨0,n,rfl,oJ,oJ,fun _ h=>absurd h (xY _),fun a G I=>oJ,.refl _ _⟩ ?_;rintro s w1 ⟨i,j,rfl,ae,J,G,I,V⟩ X hX;dsimp only;apply cD<;>intro O;have af:i<j:=oJ;rw[quh oJ];refine hf w1 ((i+j) / 2) _ V oJ fun w2 C=>?_;cases hp:p ((i+j) / 2);refine cond_true rfl ?_;have e:wrap .i64 ((((i+j) / 2:Nat):Int)+1)=(((i+j) / 2+1:Nat):Int):=(by rw[gd _ oJ];rfl);rw[e];refine hX _ _ ⟨(i+j) / 2+1,j,rfl,oJ,J,fun a Q=>?_,I,C⟩ oN;cases R:p a;rfl
 have:=u a ((i+j) / 2) oJ oJ R
 rw[hp] at this;exact this.symm;exact cond_false rfl<|hX _ _ ⟨i,(i+j) / 2,rfl,oJ,oJ,G,fun a Q E=>u _ a Q E hp,C⟩ oN;have ag:¬i<j:=oJ;exact hk i w1 oJ G (fun a Q E=>I a oJ E) V
def qzA{n:Nat}{v:Value}{c:Nat->Int}{K:Int×Bool->WP}(O:n<=1000000)(hf:∀w1 (i:Nat) (K':Int->WP),Fr [] w w1->i<n->(∀w2,Fr [] w w2->K' (c i) w2)->dW prog v [.i i] de w1 K')(u:∀i j,i<=j->j<n->c j>0->c i>0)(hk:∀(r:Nat) w',r<=n->(∀i,i<r->c i>0)->(∀i,r<=i->i<n->¬c i>0)->Fr [] w w'->K (r,decide (r<n/\c r=0)) w'): cW 132 [.i n,v] du w K:=by
 refine qsS<|jT (fun s w'=>∃i j:Nat,s=((i:Int),(j:Int))/\i<=j/\j<=n/\(∀a,a<i->c a>0)/\(∀a,j<=a->a<n->¬c a>0)/\Fr [] w w') (fun s _=>(s.2-s.1).toNat) ⟨0,n,rfl,oJ,oJ,fun _ h=>absurd h (xY _),fun a Q R=>oJ,.refl _ _⟩ ?_;rintro s w1 ⟨i,j,rfl,ag,U,Q,R,V⟩ X hX;dsimp only;apply cD<;>intro G;have ah:i<j:=oJ;rw[quh oJ];refine hf w1 ((i+j) / 2) _ V oJ fun w2 C=>?_;apply eH<;>intro I;have I:=zC I;have e:wrap .i64 ((((i+j) / 2:Nat):Int)+1)=(((i+j) / 2+1:Nat):Int):=(by rw[gd _ oJ];rfl);rw[e];exact hX _ _ ⟨(i+j) / 2+1,j,rfl,oJ,U,fun a ha=>u a _ oJ oJ I,R,C⟩ oN;have I:=zB I;exact hX _ _ ⟨i,(i+j) / 2,rfl,oJ,oJ,Q,fun a ha O ab=>I (u _ a ha O ab),C⟩ oN;have ai:¬i<j:=oJ;have J:=fun w'=>hk i w' oJ Q (fun a ha O=>R a oJ O);apply cD<;>intro G;have E:i<n:=oJ;refine hf w1 i _ V E fun w2 C=>?_;have e:(c i==0)=decide (i<n/\c i=0):=by rw[Bool.eq_iff_iff,yP,yN];exact⟨fun h=>⟨E,h⟩,fun h=>h.2⟩
 rw[e];exact J w2 C;have E:¬i<n:=by omega
 have:=J w1 V
 rw[zU (fun h=>E h.1)] at this;exact this
section
variable {S S':List Nat} {w:World} {x:kV} {n:dN} {ks:Sl} {key:Key}
def Ej{K:Int×Bool->WP}(hx:eO S w x n)(hk:eF S' w ks key)(hB:eS key)(hr:gg n.J3)(hl:n.J3.length<=1000000)(kk:∀w',Fr [] w w'->K (dP n.J3 key,decide (n.J3[dP n.J3 key]?=some key)) w'): cW 88 [.agg (eV x),ks.v] du w K:=by
 obtain⟨h0,V,⟨pk,I,E⟩,_⟩:=hx;refine qq9<|oB (oE [] w) fun r1 w1 e1 f1 h=>oB h fun r3 w2 e2 f2 h=>oA h 1 rfl x.2.1 rfl ?_;have O:x.2.1.len=pk.length:=I.len;have ak:n.J3.length=pk.length:=(by rw[<- E,zK]);have u:∀(i:Nat) (C:i<pk.length),n.J3[i]?=some pk[i].2:=fun i C=>by rw[<- E,zQ,zA C];rfl
 rw[O];refine qzA (c:=fun i=>cmpL key (n.J3.getD i [])) oJ (fun w3 i K' f3 C aa=>?_) (fun i j am hj hc=>?_) fun r w' ao ab ac f'=>?_;refine qz (lb:=[dH r3,dH r1]) rfl oK ?_;have J:=h.q7 f3;refine qnm ?_;have J:=J.drew;refine oA J 0 rfl ks rfl<|oA J 1 rfl x.2.1 rfl<|jO.get (I.q7 J.fr) i rfl C<|CP (hk.q7 J.fr) ((I.q7 J.fr).2 pk[i] (zX C)) hB (V.1 _ (yF (u i C))) ?_;have e:n.J3.getD i []=pk[i].2:=by rw[yR,u i C];rfl
 have:=aa w3.drew f3.drew
 rw[e] at this;exact this;by_cases hij':i=j;rw[hij'];exact hc;have C:=u i oJ;have Q:=u j hj;rw[yR,Q,xV] at hc;rw[yR,C,xV];have h1:gf pk[j].2 key:=(by unfold gf;rw[vI];omega);have R:=qu (H6 hr oJ C Q) h1;unfold gf at R;rw[vI] at R;omega;have hp:dP n.J3 key=r:=qxn oJ (fun i a C U=>by
  have:=ab i C
  rw[yR,U,xV,vI] at this;show cmpL a key<0;omega) fun a U=>by
  have au:=(zP.1 U).1
  have:=ac r (zM _) oJ
  rw[yR,U,xV,vI] at this;show ¬cmpL a key<0;omega
 have G:=kk w' (h.fr.trans f');rw[hp] at G;have e:decide (n.J3[r]?=some key)=decide (r<pk.length/\cmpL key (n.J3.getD r [])=0):=by refine decide_eq_decide.2 ⟨fun h=>?_,fun h=>?_⟩;refine⟨by have:=(zP.1 h).1;omega,?_⟩;rw[yR,h,xV,FW];have R:=h.2;rw[yR,u r h.1,xV] at R;exact (u r h.1).trans (congrArg some (FV R).symm)
 rw[e] at G;exact G
def Cb{K:Int->WP}(hx:eO S w x n)(hk:eF S' w ks key)(hB:eS key)(hr:gg n.J3)(hl:n.J3.length<=1000000)(kk:∀w',Fr [] w w'->K (eA n.J3 key) w'): cW 87 [.agg (eV x),ks.v] de w K:=by
 obtain⟨h0,V,⟨pk,I,C⟩,_⟩:=hx;refine qtA<|oB (oE [] w) fun r1 w1 e1 f1 h=>oB h fun r3 w2 e2 f2 h=>oA h 1 rfl x.2.1 rfl ?_;have O:x.2.1.len=pk.length:=I.len;have ak:n.J3.length=pk.length:=(by rw[<- C,zK]);have E:∀(i:Nat) (u:i<pk.length),n.J3[i]?=some pk[i].2:=fun i u=>by rw[<- C,zQ,zA u];rfl
 rw[O];refine qwo (p:=fun i=>decide (cmpL key (n.J3.getD i [])<0)) oJ (fun w3 i K' f3 u aa=>?_) (fun i j am hj Q=>?_) fun r w' ao ab ac f'=>?_;refine qz (lb:=[dH r3,dH r1]) rfl oK ?_;have J:=h.q7 f3;refine qpv ?_;have J:=J.drew;refine oA J 0 rfl ks rfl<|oA J 1 rfl x.2.1 rfl<|jO.get (I.q7 J.fr) i rfl u<|CP (hk.q7 J.fr) ((I.q7 J.fr).2 pk[i] (zX u)) hB (V.1 _ (yF (E i u))) ?_;have e:n.J3.getD i []=pk[i].2:=(by rw[yR,E i u];rfl);have e2:decide (cmpL key (n.J3.getD i [])<0)=decide (cmpL key pk[i].2<0):=decide_eq_decide.2 (by rw[e]);rw[<- e2];exact aa w3.drew f3.drew;by_cases hij':i=j;rw[<- hij'];exact Q;have u:=E i oJ;have R:=E j hj;have Q:=zC Q;rw[yR,u,xV] at Q;refine yA ?_;rw[yR,R,xV];exact qu Q (H6 hr oJ u R);have hp:eA n.J3 key=r:=qz9 oJ (fun i a u U=>by
  have:=zB (ab i u)
  rw[yR,U,xV] at this;exact this) fun a U=>by
  have ar:=(zP.1 U).1
  have:=zC (ac r (zM _) oJ)
  rw[yR,U,xV] at this;exact this
 have G:=kk w' (h.fr.trans f');rw[hp] at G;exact G
end
section
def Ew{p:Prop}{i:Decidable p}(h:p):true=decide p:=by simp[h]
def sS{i:Nat}(h:i<=100000000):wrap .i64 ((i:Int)+1)=((i+1:Nat):Int):=by rw[gd _ oJ];rfl
section
variable {S:List Nat} {w:World} {s:Sl}
def qrs{v:Value}{p:Key->Bool}{K:Bool->WP}(Q:jO S w s ps)(hl:ps.length<=1000000)(hf:∀w1 (x:Sl×Key) (R:Bool->WP),Fr [] w w1->x∈ps->(∀w2,Fr [] w w2->R (p x.2) w2)->dW prog v [x.1.v] df w1 R)(U:∀w',Fr [] w w'->K ((gM ps).any p) w'): cW 232 [s.v,v] df w K:=by
 refine qgz<|qjs ?_;have V:=Q.len;refine jT (fun i w'=>∃n:Nat,i=(n:Int)/\n<=ps.length/\((gM ps).take n).any p=false/\Fr [] w w') (fun i _=>((ps.length:Int)-i).toNat) ⟨0,rfl,yX _,rfl,.refl _ _⟩ ?_;rintro _ w1 ⟨n,rfl,hn,C,u⟩ X hX;apply cD<;>intro I;have h:n<ps.length:=oJ;refine jO.get (Q.q7 u) n rfl h<|hf w1 ps[n] _ u (zX h) fun w2 E=>?_;have G:(gM ps)[n]?=some ps[n].2:=(by rw[zQ,zA h];rfl);apply eH<;>intro J;have:(gM ps).any p=true:=any_eq_true.2 ⟨ps[n].2,yF G,J⟩;show K (decide (((n:Nat):Int)>=0)) w2;rw[yA (show ((n:Nat):Int)>=0 by omega)];rw[<- this];exact U w2 E;rw[sS oJ];refine hX _ _ ⟨n+1,rfl,h,?_,E⟩ oJ;rw[take_add_one,G,any_append,C];simpa using J;have O:n=ps.length:=oJ;show K (decide ((-1:Int)>=0)) w1;rw[zU (show ¬(-1:Int)>=0 by decide)];have:(gM ps).any p=false:=by rw[<- C,O,zS (by rw[zK];exact zM _)]
 rw[<- this];exact U w1 u
def qrt{v:Value}{p:Int->Bool}{K:Bool->WP}(R:Rd S w s l)(hl:l.length<=1000000)(hf:∀w1 (x:Int) (U:Bool->WP),Fr [] w w1->x∈l->(∀w2,Fr [] w w2->U (p x) w2)->dW prog v [.u x] df w1 U)(V:∀w',Fr [] w w'->K (l.any p) w'): cW 202 [s.v,v] df w K:=by
 refine qgA<|qjt ?_;have aa:=R.1;refine jT (fun i w'=>∃n:Nat,i=(n:Int)/\n<=l.length/\(l.take n).any p=false/\Fr [] w w') (fun i _=>((l.length:Int)-i).toNat) ⟨0,rfl,yX _,rfl,.refl _ _⟩ ?_;rintro _ w1 ⟨n,rfl,hn,G,h⟩ X hX;apply cD<;>intro J;have C:n<l.length:=oJ;have E:l[n]?=some l[n]:=zA C;refine dX.get (R.q7 h) n rfl E (y:=l[n]) rfl<|hf w1 l[n] _ h (zX C) fun w2 I=>?_;apply eH<;>intro O;have:l.any p=true:=any_eq_true.2 ⟨l[n],yF E,O⟩;show K (decide (((n:Nat):Int)>=0)) w2;rw[yA (show ((n:Nat):Int)>=0 by omega)];rw[<- this];exact V w2 I;rw[sS oJ];refine hX _ _ ⟨n+1,rfl,C,?_,I⟩ oJ;rw[take_add_one,E,any_append,G];simpa using O;have Q:n=l.length:=oJ;show K (decide ((-1:Int)>=0)) w1;rw[zU (show ¬(-1:Int)>=0 by decide)];have:l.any p=false:=by rw[<- G,Q,zS (zM _)]
 rw[<- this];exact V w1 h
def qsm{m:Nat}{K:Bool->WP}(O:jO S w s ps)(Q:ps.length<=1000000)(R:∀w',Fr [] w w'->K (decide (∀a∈gM ps,a.length=m)) w'): cW 200 [s.v,.i m] df w K:=by
 refine qsr<|oB (oE [] w) fun r1 w1 e1 I h=>?_;have u:=O.q7 I;refine qrs (p:=fun a=>decide (a.length≠m)) u Q (fun w2 x K' J U C=>?_) fun w' V=>?_;refine qz (lb:=[dH r1]) rfl oK<|qor<|oA (h.q7 J) 0 rfl (m:Int) rfl ?_;have E:=(u.2 x U).1;have e:(!((x.1.len:Int)==(m:Int)))=decide (x.2.length≠m):=by rw[E,Bool.eq_iff_iff];simp;omega
 rw[e];exact C w2 J;have e:(!((gM ps).any fun a=>decide (a.length≠m)))=decide (∀a∈gM ps,a.length=m):=by
  rw[Bool.eq_iff_iff,yN,zT,any_eq_false];constructor;intro h a G
  have:=h a G
  simpa using this;intro h a G;simp[h a G]
 rw[e];exact R w' (I.trans V)
def qxi{K:Bool->WP}(V:jO S w s ps)(hB:∀a∈gM ps,eS a)(hl:ps.length<=1000000)(kk:∀w',Fr [] w w'->K (decide (gg (gM ps))) w'): cW 201 [s.v] df w K:=by
 refine qrd ?_;have ac:=V.len;have C:∀(i:Nat) (hi:i<ps.length),(gM ps)[i]?=some ps[i].2:=fun i hi=>by rw[zQ,zA hi];rfl
 refine jT (fun i w'=>∃n:Nat,i=(n:Int)/\1<=n/\(∀(j:Nat) a b,j+1<n->(gM ps)[j]?=some a->(gM ps)[j+1]?=some b->gf a b)/\Fr [] w w') (fun i _=>((ps.length:Int)-i).toNat) ⟨1,rfl,zM _,fun j a b h=>oJ,.refl _ _⟩ ?_;rintro _ w1 ⟨n,rfl,hn,J,E⟩ X hX;apply cD<;>intro U;have G:n<ps.length:=oJ;have e1:wrap .i64 ((n:Int)-1)=((n-1:Nat):Int):=(by rw[gd _ oJ];omega);have I:=V.q7 E.drew;rw[e1];refine jO.get I (n-1) rfl oJ<|jO.get I n rfl G<|CP (I.2 ps[n-1] (zX _)) (I.2 ps[n] (zX _)) (hB _ (yF (C (n-1) oJ))) (hB _ (yF (C n G))) ?_;apply eH<;>intro O;have O:=zC O;have:¬gg (gM ps):=fun hr=>by
  have:=H6 hr (show n-1<n by omega) (C (n-1) oJ) (C n G)
  unfold gf at this;omega
 have u:=kk _ E.drew;rw[zU this] at u;exact u;have O:=zB O;rw[sS oJ];refine hX _ _ ⟨n+1,rfl,oJ,fun j a b hj R Q=>?_,E.drew⟩ oJ;by_cases hjn:j+1<n;exact J j a b hjn R Q;obtain rfl:n=j+1:=by omega
 rw[C j oJ] at R;rw[C (j+1) G] at Q;cases R;cases Q;show cmpL _ _<0;simp only[Nat.add_sub_cancel] at O;omega;have ag:¬n<ps.length:=oJ;have:gg (gM ps):=qk4 fun j a b R Q=>J j a b (by
  have:=(zP.1 Q).1
  rw[zK] at this;omega) R Q
 have u:=kk w1 E;rw[yA this] at u;exact u
def qyq:uJ (k:Int) (v:Int)=(((dY k v).1:Int),((dY k v).2:Int)):=by unfold uJ dY;by_cases h:k<1\/k>24\/v>108;rw[if_pos h,iP];rfl;rw[if_neg h,iN];rfl
def G1{w:World}{K:Int×Int->WP}(h:∀w',Fr [] w w'->K (((dY k v).1:Int),((dY k v).2:Int)) w'):cW 126 [.i k,.i v] dl w K:=
 qzw fun w' u=>by rw[qyq];exact h w' (.of_same u)
def qrC{K:Bool->WP}(hx:eO S w x n)(h1:n.J3.length<=1000000)(h2:n.J7.length<=1000000)(h3:n.J6.length<=1000000)(kk:∀w',Fr [] w w'->K (decide (fZ n k v)) w'): cW 171 [.agg (eV x),.i k,.i v] df w K:=by
 obtain⟨h0,aj,⟨pk,ac,C⟩,⟨pv,ae,R⟩,aa⟩:=hx;refine qra<|oB (oE [] w) fun r1 w1 e1 f1 h=>G1 fun w2 f2=>?_;have h:=h.q7 f2;have l1:pk.length=n.J3.length:=(by rw[<- C,zK]);have l2:pv.length=n.J7.length:=(by rw[<- R,zK]);have n1:x.2.1.len=n.J3.length:=(by rw[ac.len,l1]);have n2:x.2.2.1.len=n.J7.length:=(by rw[ae.len,l2]);have n3:x.2.2.2.len=n.J6.length:=aa.1;refine iQ (fun b w'=>b=decide (¬((∀a∈n.J3,a.length=k)/\(∀a∈n.J7,a.length=v)/\gg n.J3))/\dR [] w w' [(r1,.cells (eV x) 176)]) ?_ ?_;refine oA h 0 rfl x.2.1 rfl<|qsm (m:=k) (ac.q7 h.fr) oJ fun w3 f3=>?_;have h:=h.q7 f3;rw[C];refine eH (fun G=>⟨?_,h⟩) (fun G=>?_);have:¬ ∀a∈n.J3,a.length=k:=zB (oP G);exact Ew fun J=>this J.1;have q1:∀a∈n.J3,a.length=k:=zC (oP G);refine oA h 0 rfl x.2.2.1 rfl<|qsm (m:=v) (ae.q7 h.fr) oJ fun w4 f4=>?_;have h:=h.q7 f4;rw[R];refine eH (fun G=>⟨?_,h⟩) (fun G=>?_);have:¬ ∀a∈n.J7,a.length=v:=zB (oP G);exact Ew fun J=>this J.2.1;have q2:∀a∈n.J7,a.length=v:=zC (oP G);refine oA h 0 rfl x.2.1 rfl<|qxi (ac.q7 h.fr) (by rw[C];exact aj.1) oJ fun w5 f5=>?_;have h:=h.q7 f5;rw[C];refine⟨?_,h⟩;rw[Bool.eq_iff_iff,zT,decide_eq_false_iff_not,yN];exact⟨fun J g=>J g.2.2,fun J g=>J ⟨q1,q2,g⟩⟩;rintro b w3 ⟨rfl,h⟩;have no:∀ {w'},¬fZ n k v->Fr [] w w'->K false w':=fun hn f=>by
  have:=kk _ f
  rw[zU hn] at this;exact this
 refine eH (fun G=>no (fun E=>zC G ⟨E.1,E.2.1,E.2.2.1⟩) h.fr) (fun G=>?_);have hq:=Classical.not_not.1 (zB G);have u:fZ n k v↔(if n.Q1 then n.J6=[]/\1<=n.J3.length/\n.J3.length<=(dY k v).1/\n.J7.length=n.J3.length
   else (∀x∈n.J6,2<=x)/\n.J7=[]/\2<=n.J6.length/\n.J6.length<=(dY k v).2/\n.J3.length+1=n.J6.length):=⟨fun E=>E.2.2.2,fun J=>⟨hq.1,hq.2.1,hq.2.2,J⟩⟩
 refine oA h 0 rfl x.1 rfl ?_;apply eH<;>intro G;rw[h0] at G;rw[if_pos G] at u;have ad:∀ {Q:Sl->Prop},Q x.2.1->ld .slice (dc r1 1) w3 Q:=fun q=>oA h 0 rfl x.2.1 rfl q;refine oA h 0 rfl x.2.2.2 rfl<|eH (fun O=>?_) (fun O=>no (fun E=>?_) h.fr);refine ad (eH (fun U=>?_) (fun U=>no (fun E=>?_) h.fr));refine ad (eH (fun I=>?_) (fun I=>no (fun E=>?_) h.fr));refine oA h 0 rfl x.2.2.1 rfl (ad ?_);have O:=yP.1 O;have U:=zC U;have I:=zC I;have e:((x.2.2.1.len:Int)==(x.2.1.len:Int))=decide (fZ n k v):=by rw[Bool.eq_iff_iff,yP,yN,u];dsimp only at I;constructor;intro J;exact⟨eq_nil_of_length_eq_zero oJ,oJ,oJ,oJ⟩;intro J;omega
 rw[e];exact kk w3 h.fr
 have:=(u.1 E).2.2.1
 have I:=zB I;dsimp only at I;omega
 have:=(u.1 E).2.1
 have U:=zB U;omega
 have:=(u.1 E).1
 have O:=zR.1 O;rw[this] at n3;exact O (by rw[n3];rfl);rw[h0] at G;rw[if_neg (by rw[G];decide)] at u;have V:∀ {w'} {Q:Sl->Prop},dR [] w w' [(r1,.cells (eV x) 176)]->Q x.2.2.2->ld .slice (dc r1 3) w' Q:=fun h q=>oA h 0 rfl x.2.2.2 rfl q;refine V h<|qrt (p:=fun y=>decide (y<2)) (aa.q7 h.fr) h3 (fun w4 y K' f4 hy an=>?_) fun w4 f4=>?_;exact qz (lb:=[]) rfl oK<|qnn<|an w4 f4;have h:=h.q7 f4;refine eH (fun c0=>no (fun E=>?_) h.fr) (fun c0=>?_);obtain⟨y,hy,ap⟩:=any_eq_true.1 c0
 have:=(u.1 E).1 y hy
 have:=zC ap
 omega;have ag:∀y∈n.J6,2<=y:=fun y hy=>by
  have:=any_eq_false.1 c0 y hy
  simp at this;exact this
 refine oA h 0 rfl x.2.2.1 rfl<|eH (fun O=>?_) (fun O=>no (fun E=>?_) h.fr);refine V h (eH (fun U=>?_) (fun U=>no (fun E=>?_) h.fr));refine V h (eH (fun I=>?_) (fun I=>no (fun E=>?_) h.fr));refine oA h 0 rfl x.2.1 rfl (V h ?_);have O:=yP.1 O;have U:=zC U;have I:=zC I;dsimp only at I;have ew:wrap .i64 ((x.2.2.2.len:Int)-1)=(x.2.2.2.len:Int)-1:=gd _ oJ;have e:((x.2.1.len:Int)==wrap .i64 ((x.2.2.2.len:Int)-1))=decide (fZ n k v):=by rw[ew,Bool.eq_iff_iff,yP,yN,u];constructor;intro J;exact⟨ag,eq_nil_of_length_eq_zero oJ,oJ,oJ,oJ⟩;intro J;omega
 rw[e];exact kk _ h.fr
 have:=(u.1 E).2.2.2.1
 have I:=zB I;dsimp only at I;omega
 have:=(u.1 E).2.2.1
 have U:=zB U;omega
 have:=(u.1 E).2.1
 have O:=zR.1 O;rw[this] at n2;exact O (by rw[n2];rfl)
end
end
section
def A8{src:Sl}{ys:List Int}(h:gF w s l B)(J:eF S w src ys)(hl:l.length+ys.length<=1000000)(O:∀E B' w',gF w' E (l++ys) B'->Fr B w w'->(∀b∈B',b∈B\/w.heap.size<=b)->K E w'): Pt.run dd ((Builtin.append_ #[96,96] 96 #[s.v,src.v]).run prog w) K:=by obtain⟨i,Q,R,G,I⟩:=xn;have C:=J.1;exact eZ.j0 (e:=5) h lZ oK Q R G rfl (vo (e':=5) J lZ (fun x u U=>by rw[zE.1 U];rfl) oK) C (by rw[I];omega) oJ fun E B' w' b' V n' _=>O E B' w' b' V n'
def qAG(n:Int):be n 2=[wrap .u8 (Int.fdiv n (2^8)),wrap .u8 n]:=by show [gW n 1,gW n 0]=_;unfold gW;rw[show (min (8*1) 32:Nat)=8 from rfl,show (min (8*0) 32:Nat)=0 from rfl,Int.pow_zero,Int.fdiv_one]
def qBy(n:Int):be n 4=[wrap .u8 (Int.fdiv n (2^24)),wrap .u8 (Int.fdiv n (2^16)),wrap .u8 (Int.fdiv n (2^8)),wrap .u8 n]:=by show [gW n 3,gW n 2,gW n 1,gW n 0]=_;unfold gW;rw[show (min (8*3) 32:Nat)=24 from rfl,show (min (8*2) 32:Nat)=16 from rfl,show (min (8*1) 32:Nat)=8 from rfl,show (min (8*0) 32:Nat)=0 from rfl,Int.pow_zero,Int.fdiv_one]
def jO.get'(h:jO S w s ps)(n:Nat){i:Int}{K:Addr->Sl->Prop}(hi:i=n)(J:n<ps.length)(O:∀a,w.cell? a=some (.slice ps[n].1.a ps[n].1.len ps[n].1.cap)->(∀w',jO S w' s ps->w'.cell? a=some (.slice ps[n].1.a ps[n].1.len ps[n].1.cap))->K a ps[n].1):idx s i 1 fun a=>ld .slice a w fun x=>K a x:=by
 subst hi;have G:(i3 ps)[n]?=some ps[n].1:=(by rw[zQ,zA J];rfl);obtain⟨V,b,o,I,_,cs,T,fr,hb,hc⟩:=h.1.at n G;refine rM I ⟨oJ,oJ⟩ ?_;rw[zJ];have key:∀w',jO S w' s ps->w'.cell? ⟨b,o+n*1,none⟩=some (.slice ps[n].1.a ps[n].1.len ps[n].1.cap):=fun w' Q=>by
  obtain⟨_,b',o',u,_,R,T',U,C,E⟩:=Q.1.at n G;rw[I] at u;cases u;rw[kj C]
  have:=congrArg (·[0]?) E
  simpa[gT] using this
 exact qI ps[n].1 (key w h) (O _ (key w h) key)
def Gf{b n:Nat}(u:w.heap[b]?=some (.cells (l.map (Value.int .u8)).toArray T (0,0)))(h:n=l.length):gF w ⟨pW b,n,n⟩ l [b]:=
 eZ.one (e:=Value.int .u8) (fun _=>rfl) u h (zM _) (by simp[h]) (by rw[<- zK (f:=Value.int .u8),xZ])
def qAg{b:Nat}{n:Int}(u:w.heap[b]?=some (.cells #[.b (wrap .u8 (Int.fdiv n (2^24))),.b (wrap .u8 (Int.fdiv n (2^16))),.b (wrap .u8 (Int.fdiv n (2^8))),.b (wrap .u8 n)] T (0,0))):eF [] w ⟨pW b,4,4⟩ (be n 4):=by rw[qBy];exact eZ.kF lZ (Gf (n:=4) u rfl) fun _ _ h=>nomatch h
section
variable {S:List Nat} {w:World} {s:Sl}
def qzB{n:Nat}(hn:n<=1000000)(Q:∀u B w',gF w' u [] B->Fr [] w w'->(∀b∈B,w.heap.size<=b)->K u w'): cW 114 [.slice none 0 0,.i n] dd w K:=by obtain⟨E,R,U,G,I⟩:=xn;refine qpH (s:=dI) (n:=n) ?_;have e0:wrap .i64 (((0:Nat):Int)-((0:Nat):Int))=0:=gd _ oM;have e1:wrap .i64 ((n:Int)-0)=(n:Int):=(by rw[gd _ oJ];omega);refine iQ (fun _ w'=>w=w') (cond_false (zU oJ) rfl) ?_;rintro _ _ rfl;refine iQ (fun u w'=>∃B,gF w' u [] B/\Fr [] w w'/\∀b∈B,w.heap.size<=b) ?_ (fun u w' ⟨B,V,f1,n1⟩=>Q u B w' V f1 n1);dsimp only;rw[e0,e1];refine eH (fun O=>?_) (fun O=>⟨[],.nil _ _ _,.refl _ _,fun _ h=>nomatch h⟩);have C:0<n:=(by have:=zC O;omega);refine A0 ⟨oJ,by dsimp only;omega⟩ ?_;rw[zJ];dsimp only;refine GK (e:=5) (i:=E) (kn:=.i64) (olds:=[]) oK oK R U G rfl rfl (fun _=>rfl) (fun a ha=>nomatch ha) C oJ (by rw[I];omega) oJ fun b cs c w2 e2 hb f2 h1 h2 h3=>A0 ⟨oJ,by dsimp only;omega⟩ ?_;rw[zJ];exact⟨[b],eZ.fresh (cap:=c) lZ hb rfl (yX _) oJ rfl,f2,fun b' J=>by rw[zE.1 J,e2];exact zM _⟩
def qkz{i:Nat}(hi:i<ps.length):((gM ps).take (i+1)).flatten=((gM ps).take i).flatten++ps[i].2:=by rw[take_add_one,zQ,zA hi,flatten_append];simp
def HU(i:Nat):((gM ps).take i).flatten.length<=(gM ps).flatten.length:=by have:(gM ps).flatten=((gM ps).take i).flatten++((gM ps).drop i).flatten:=(by rw[<- flatten_append,xE]);rw[this,zF];omega
def qpS(O:jO S w s ps)(hl:ps.length<=1000000)(ht:(gM ps).flatten.length<=1000000)(kk:∀s' B w',gF w' s' (gM ps).flatten B->Fr [] w w'->(∀b∈B,w.heap.size<=b)->K s' w'): cW 77 [s.v] dd w K:=by
 refine qnz ?_;have ae:=O.len;refine jT (fun t w'=>∃i:Nat,t=((((gM ps).take i).flatten.length:Int),(i:Int))/\i<=ps.length/\w'=w) (fun t _=>((ps.length:Int)-t.2).toNat) ⟨0,rfl,yX _,rfl⟩ ?_;rintro t w' ⟨i,rfl,hi,rfl⟩ X V;dsimp only;apply cD<;>intro E;have u:i<ps.length:=oJ;have G:=HU (ps:=ps) (i+1);have C:=qkz u;have aa:=(O.2 ps[i] (zX u)).1;have e:wrap .i64 ((((gM ps).take i).flatten.length:Int)+(ps[i].1.len:Int))=(((gM ps).take (i+1)).flatten.length:Int):=by rw[C,zF] at G⊢;rw[gd _ oJ,aa];rfl
 refine iQ (fun x w2=>x=(((gM ps).take (i+1)).flatten.length:Int)/\w2=w') ?_ ?_;refine jO.get O i rfl u ?_;rw[e];exact cond_false (zU oJ) ⟨rfl,rfl⟩;rintro x w2 ⟨rfl,rfl⟩;rw[sS oJ];exact V _ _ ⟨i+1,rfl,u,rfl⟩ oN;have I:i=ps.length:=oJ;refine qzB (zL (HU (ps:=ps) i) ht) fun s1 B1 w1 b1 f1 n1=>jT (fun t w2=>∃(j:Nat) (Q:Sl) (R:List Nat),t=(Q,(j:Int))/\j<=ps.length/\gF w2 Q ((gM ps).take j).flatten R/\Fr [] w' w2/\∀b∈R,w'.heap.size<=b) (fun t _=>((ps.length:Int)-t.2).toNat) ⟨0,s1,B1,rfl,yX _,b1,f1,n1⟩ ?_;rintro t w2 ⟨j,Q,R,rfl,hj,b2,U,n2⟩ X V;dsimp only;apply cD<;>intro E;have u:j<ps.length:=oJ;have G:=HU (ps:=ps) (j+1);have C:=qkz u;have J:=O.q7 U;refine jO.get J j rfl u<|A8 b2 (J.2 ps[j] (zX u)) (by rw[C,zF] at G;omega) fun s3 B3 w3 b3 f3 n3=>?_;rw[sS oJ];refine V _ _ ⟨j+1,s3,B3,rfl,u,by rw[C];exact b3,U.j6 f3 fun i hi=>.inr (n2 i hi),fun b hb=>?_⟩ oN;rcases n3 b hb with h|h;exact n2 b h;exact zL U.size h;have I:j=ps.length:=oJ;rw[I,zS (by rw[zK];exact zM _)] at b2;exact kk Q R w2 b2 U n2
def qye{K:Int×Sl×Int->WP}(hx:eO S w x n)(h1:n.J3.length<=1000000)(h2:n.J7.length<=1000000)(h3:n.J6.length<=1000000)(kk:∀s w',(∀G:List Nat,(∀b∈G,b<w.heap.size)->eF G w' s (eX n k v).2.1)->Fr [] w w'->K ((eX n k v).1,s,(eX n k v).2.2) w'): cW 183 [.agg (eV x),.i k,.i v] dj w K:=by
 have aU:=hx;obtain⟨h0,bc,⟨pk,am,E⟩,⟨pv,an,R⟩,aj⟩:=hx;refine qrb<|oB (oE [] w) fun r1 w1 e1 f1 h=>oC h 0 rfl x rfl<|qrC (x:=x) (aU.q7 f1) h1 h2 h3 fun w2 f2=>?_;have h:=h.q7 f2;apply eH<;>intro C;have hn:¬fZ n k v:=zB (oP C)
 have:=kk dI w2 (fun G _=>by unfold eX;rw[if_neg hn];exact .nil _ _ _ _) h.fr
 unfold eX at this;rw[if_neg hn] at this;exact this;have hR:fZ n k v:=zC (oP C);have hW:eX n k v=(jh n,gO n,0):=(by unfold eX;rw[if_pos hR]);rw[hW] at kk;have aC:=(DN hR).2;have l1:pk.length=n.J3.length:=(by rw[<- E,zK]);have l2:pv.length=n.J7.length:=(by rw[<- R,zK]);have n1:x.2.1.len=n.J3.length:=(by rw[am.len,l1]);have n3:x.2.2.2.len=n.J6.length:=aj.1;have aD:∀ {s' B w'},gF w' s' (gO n) B->(∀b∈B,w.heap.size<=b)->Fr [] w w'->K (jh n,s',0) w':=fun b hB f=>kk _ _ (fun G hG=>b.kF lZ fun c C hm=>by have:=hB c C;have:=hG c hm;omega) f;refine oA h 0 rfl x.1 rfl ?_;apply eH<;>intro C;rw[h0] at C;have u:gO n=be n.J3.length 2++(n.J3.zip n.J7).flatMap (fun x=>x.1++x.2):=(by unfold gO;rw[if_pos C];rfl);have J:jh n=3:=(by unfold jh;rw[if_pos C]);have aE:=hR.2.2.2;rw[if_pos C] at aE;have aF:(n.J3.zip n.J7).length=n.J3.length:=(by rw[length_zip,aE.2.2.2,Nat.min_self]);refine oA h 0 rfl x.2.1 rfl<|oA h 0 rfl x.2.1 rfl<|oB h fun r9 w3 e3 f3 h=>oA h 1 rfl x.2.1 rfl ?_;have h9:=h.at (i:=0) rfl;have ap:=h.sub (L':=[(r1,.cells (eV x) 176)]) (sublist_cons_self _ _);have aq:r1≠r9:=fun e=>by have:=h.nodup;simp[e] at this
 have U:w.heap.size<=r9:=(h.own (r9,_) (mem_cons_self ..)).elim (fun h=>nomatch h) id;refine jT (fun t w'=>∃(i:Nat) (s2:Sl) (B2:List Nat),t=(s2,(i:Int))/\i<=n.J3.length/\gF w' s2 (be n.J3.length 2++((n.J3.zip n.J7).take i).flatMap (fun x=>x.1++x.2)) B2/\dR [] w w' [(r1,.cells (eV x) 176)]/\r1∉B2/\∀b∈B2,w.heap.size<=b) (fun t _=>((n.J3.length:Int)-t.2).toNat)
  ⟨0,_,[r9],rfl,yX _,?_,ap,by simpa using aq,fun b V=>by rw[zE.1 V];exact U⟩ ?_
 rw[qAG,take_zero,flatMap_nil,xH];refine Gf (T:=5) ?_ rfl;rw[n1] at h9;exact h9;rintro t w4 ⟨i,s2,B2,rfl,hi,b2,ho,ab,I⟩ X hX;dsimp only;apply eH<;>intro C;have ag:i<n.J3.length:=(by have:=zC C;omega);have bp:i<n.J7.length:=oJ;have aH:=am.q7 ho.fr;refine jO.get aH i rfl oJ ?_;have ac:=ho.drew;refine oA ac 0 rfl x.2.2.1 rfl ?_;have aX:=an.q7 ac.fr;have ad:i<pv.length:=oJ;have ak:i<pk.length:=oJ;refine jO.get' aX i rfl ad fun a ha hh=>?_;have ah:n.J3[i]?=some pk[i].2:=(by rw[<- E,zQ,zA ak];rfl);have aY:n.J7[i]?=some pv[i].2:=(by rw[<- R,zQ,zA ad];rfl);have hz:(n.J3.zip n.J7)[i]?=some (pk[i].2,pv[i].2):=List.getElem?_zip_eq_some.2 ⟨ah,aY⟩;have O:((n.J3.zip n.J7).take (i+1)).flatMap (fun x=>x.1++x.2)=((n.J3.zip n.J7).take i).flatMap (fun x=>x.1++x.2)++(pk[i].2++pv[i].2):=by rw[take_add_one,hz,yQ];simp
 have ai:(be n.J3.length 2++((n.J3.zip n.J7).take (i+1)).flatMap (fun x=>x.1++x.2)).length<=500:=(by refine zL ?_ aC;rw[u,zF,zF];have e:(n.J3.zip n.J7).flatMap (fun x=>x.1++x.2)=((n.J3.zip n.J7).take (i+1)).flatMap (fun x=>x.1++x.2)++((n.J3.zip n.J7).drop (i+1)).flatMap (fun x=>x.1++x.2):=(by rw[<- yQ,xE]);rw[e,zF];omega);rw[O,zF,zF,zF] at ai;have bu:=ho.drew;refine A8 (w:=w4.drew) (b2.q7 (Fr.refl [] w4).drew) ((aH.2 pk[i] (zX ak)).q7 (Fr.refl [] w4).drew) (by rw[zF];omega) fun s3 B3 w5 b3 f5 n5=>?_;have Q:=ac.q8 f5 (fun i hi=>.inr (I i hi)) (fun p hp=>by rw[zE.1 hp];exact ab);have aJ:∀b∈B3,w.heap.size<=b:=fun b V=>by rcases n5 b V with h|h;exact I b h;exact zL ac.fr.size h
 refine ka (hh w5 (an.q7 Q.fr)) (Q.cell 0 rfl rfl) ?_;have aK:r1∉B3:=fun hm=>by
  rcases n5 r1 hm with h|h;exact ab h
  have:=fJ (ac.at (i:=0) rfl);dsimp only at this;omega
 refine A8 b3 ((an.q7 Q.fr).2 pv[i] (zX ad)) (by rw[zF,zF];omega) fun s6 B6 w6 b6 f6 n6=>?_;have ax:=Q.q8 f6 (fun i hi=>.inr (aJ i hi)) (fun p hp=>by rw[zE.1 hp];exact aK);rw[sS oJ];refine hX _ _ ⟨i+1,s6,B6,rfl,ag,by rw[O,<- zV,<- zV];exact b6,ax,fun hm=>?_,fun b V=>?_⟩ oN;rcases n6 r1 hm with h|h;exact aK h
 have:=fJ (Q.at (i:=0) rfl);dsimp only at this;omega
 rcases n6 b V with h|h;exact aJ b h;exact zL Q.fr.size h;have ay:i=n.J3.length:=(by have:=zB C;omega);rw[ay,<- aF,xZ,aF,<- u] at b2
 have:=aD b2 I ho.fr
 rw[J] at this;exact this;rw[h0] at C;have aM:¬n.Q1=true:=(by rw[C];decide);have u:gO n=be n.J6.length 2++n.J6.flatMap (fun x=>be x 4)++n.J3.flatten:=(by unfold gO;rw[if_neg aM]);have J:jh n=4:=(by unfold jh;rw[if_neg aM]);refine oA h 0 rfl x.2.2.2 rfl<|oA h 0 rfl x.2.2.2 rfl<|oB h fun r9 w3 e3 f3 h=>oA h 1 rfl x.2.2.2 rfl ?_;have h9:=h.at (i:=0) rfl;have ap:=h.sub (L':=[(r1,.cells (eV x) 176)]) (sublist_cons_self _ _);have aq:r1≠r9:=fun e=>by have:=h.nodup;simp[e] at this
 have U:w.heap.size<=r9:=(h.own (r9,_) (mem_cons_self ..)).elim (fun h=>nomatch h) id;have a0:(be n.J6.length 2++n.J6.flatMap (fun x=>be x 4)).length+n.J3.flatten.length<=500:=(by rw[<- zF,<- u];exact aC);refine jT (fun t w'=>∃(i:Nat) (s2:Sl) (B2:List Nat),t=(s2,(i:Int))/\i<=n.J6.length/\gF w' s2 (be n.J6.length 2++(n.J6.take i).flatMap (fun x=>be x 4)) B2/\dR [] w w' [(r1,.cells (eV x) 176)]/\r1∉B2/\∀b∈B2,w.heap.size<=b) (fun t _=>((n.J6.length:Int)-t.2).toNat)
  ⟨0,_,[r9],rfl,yX _,?_,ap,by simpa using aq,fun b V=>by rw[zE.1 V];exact U⟩ ?_
 rw[qAG,take_zero,flatMap_nil,xH];refine Gf (T:=5) ?_ rfl;rw[n3] at h9;exact h9;rintro t w4 ⟨i,s2,B2,rfl,hi,b2,ho,ab,I⟩ X hX;dsimp only;apply cD<;>intro C;have ag:i<n.J6.length:=oJ;have ah:n.J6[i]?=some n.J6[i]:=zA ag;refine dX.get (aj.q7 ho.fr) i rfl ah (y:=n.J6[i]) rfl<|oB ho fun r6 w5 e5 f5 h5=>?_;have a1:=h5.at (i:=0) rfl;have O:(n.J6.take (i+1)).flatMap (fun x=>be x 4)=(n.J6.take i).flatMap (fun x=>be x 4)++be n.J6[i] 4:=by rw[take_add_one,ah,yQ];simp
 have ai:(be n.J6.length 2++(n.J6.take (i+1)).flatMap (fun x=>be x 4)).length<=500:=(by have e:n.J6.flatMap (fun x=>be x 4)=(n.J6.take (i+1)).flatMap (fun x=>be x 4)++(n.J6.drop (i+1)).flatMap (fun x=>be x 4):=(by rw[<- yQ,xE]);rw[e,zF,zF] at a0;rw[zF];omega);rw[O,zF,zF] at ai;have al:eF [] w5 ⟨pW r6,4,4⟩ (be n.J6[i] 4):=qAg (T:=5) a1;have az:=kZ n.J6[i] 4;generalize be n.J6[i] 4=aN at O ai al az;refine A8 (src:=⟨pW r6,4,4⟩) (ys:=aN) (b2.q7 f5) al (by rw[zF];omega) fun s6 B6 w6 b6 f6 n6=>?_;have aA:=h5.sub (L':=[(r1,.cells (eV x) 176)]) (sublist_cons_self _ _);have ax:=aA.q8 f6 (fun i hi=>.inr (I i hi)) (fun p hp=>by rw[zE.1 hp];exact ab);rw[sS oJ];refine hX _ _ ⟨i+1,s6,B6,rfl,ag,by rw[O,<- zV];exact b6,ax,fun hm=>?_,fun b V=>?_⟩ oN;rcases n6 r1 hm with h|h;exact ab h
 have:=fJ (aA.at (i:=0) rfl);dsimp only at this;omega
 rcases n6 b V with h|h;exact I b h;exact zL aA.fr.size h;have ay:i=n.J6.length:=oJ;rw[ay,xZ] at b2;refine oA ho 0 rfl x.2.1 rfl<|qpS (am.q7 ho.fr) oJ (by rw[E];omega) fun s5 B5 w5 b5 f5 n5=>?_;rw[E] at b5;refine A8 (b2.q7 f5) (b5.kF lZ (S:=[]) (fun _ _ h=>nomatch h)) oJ fun s6 B6 w6 b6 f6 n6=>?_;rw[<- u] at b6
 have:=aD b6 (fun b V=>by rcases n6 b V with h|h;exact I b h;exact zL (zL ho.fr.size f5.size) h) ((ho.fr.trans f5).j6 f6 fun i hi=>.inr (I i hi))
 rw[J] at this;exact this
end
end
abbrev ND:TypeId:=176
def DG{k v:Nat}:∀(c:Nat) (b:List Int),(jm k v c b).1.length=c/\(jm k v c b).2.length=c
 | 0,_=>⟨rfl,rfl⟩
 | c+1,b=>by
  have:=DG (k:=k) (v:=v) c (b.drop (k+v))
  exact⟨by rw[jm,yI,this.1],by rw[jm,yI,this.2]⟩
def qoj{k v:Nat}:∀(c:Nat) (b:List Int),jm k v (c+1) b=((jm k v c b).1++[(b.drop (c*(k+v))).take k],(jm k v c b).2++[((b.drop (c*(k+v))).drop k).take v])
 | 0,b=>by simp[jm]
 | c+1,b=>by have ih:=qoj (k:=k) (v:=v) c (b.drop (k+v));have e:(k+v)+c*(k+v)=(c+1)*(k+v):=(by rw[xU];omega);rw[jm,ih];simp only[xD,e];rfl
def qoi:∀(c:Nat) (b:List Int),y7 (c+1) b=y7 c b++[iK ((b.drop (c*4)).take 4)]
 | 0,b=>by simp[y7]
 | c+1,b=>by have ih:=qoi c (b.drop 4);have e:4+c*4=(c+1)*4:=oJ;rw[y7,ih,xD,e];rfl
def qog{k:Nat}:∀(c:Nat) (b:List Int),lI k (c+1) b=lI k c b++[(b.drop (c*k)).take k]
 | 0,b=>by simp[lI]
 | c+1,b=>by have ih:=qog (k:=k) c (b.drop k);have e:k+c*k=(c+1)*k:=(by rw[xU];omega);rw[lI,ih,xD,e];rfl
def HR:∀(c:Nat) (b:List Int),(y7 c b).length=c
 | 0,_=>rfl
 | c+1,b=>by rw[y7,yI,HR c]
def Ie{k:Nat}:∀(c:Nat) (b:List Int),(lI k c b).length=c
 | 0,_=>rfl
 | c+1,b=>by rw[lI,yI,Ie c]
def qF{x:Sl}{l:List Sl}{vb:Nat}{T':TypeId}(h:eZ gT 1 w s l B)(hl:l.length<=100000)(Q:w.heap[vb]?=some (.cells #[gA x] T' (0,0)))(R:∀C B' w',eZ gT 1 w' C (l++[x]) B'->Fr B w w'->(∀b∈B',b∈B\/w.heap.size<=b)->K C w'): Pt.run dd ((Builtin.append_ #[173,173] 173 #[s.v,.slice (pW vb) 1 1]).run prog w) K:=by obtain⟨U,E,V,G,I⟩:=EU;refine eZ.j0 (ys:=[x]) (e:=96) h xa oK E V G rfl (.ofSlice w (e':=96) oK _ 1 1 _ rfl (fun j u J=>?_) fun u O=>?_) rfl (by rw[I];omega) oJ fun C B' w' b' f' n' _=>R C B' w' b' f' n';rw[Addr.q9,kj Q,xS];rw[yH,flatMap_nil,xH] at J;simpa[gT] using J;rw[yH,flatMap_nil,xH] at O;rw[zE.1 O];rfl
def qt3{x:Int}{vb:Nat}{T':TypeId}(h:eZ jc 1 w s l B)(hl:l.length<=100000)(Q:w.heap[vb]?=some (.cells #[.u x] T' (0,0)))(R:∀C B' w',eZ jc 1 w' C (l++[x]) B'->Fr B w w'->(∀b∈B',b∈B\/w.heap.size<=b)->K C w'): Pt.run dd ((Builtin.append_ #[174,174] 174 #[s.v,.slice (pW vb) 1 1]).run prog w) K:=by obtain⟨U,E,V,G,I⟩:=Ac;refine eZ.j0 (ys:=[x]) (e:=44) h ug oK E V G rfl (.ofSlice w (e':=44) oK _ 1 1 _ rfl (fun j u J=>?_) fun u O=>?_) rfl (by rw[I];omega) oJ fun C B' w' b' f' n' _=>R C B' w' b' f' n';rw[Addr.q9,kj Q,xS];rw[yH,flatMap_nil,xH] at J;simpa[jc] using J;rw[yH,flatMap_nil,xH] at O;rw[zE.1 O];rfl
abbrev tg (h:Nat):Value:=.func (.func 231) #[] #[dH h]
def qs0{u i m:Nat}(h:dR [] w0 w L)(hi:L[i]?=some (u,.cells #[gA s] T (0,0)))(E:eF [] w0 s b)(C:m<=b.length)(hl:b.length<=1000000)(kk:∀J B' O w',dR [] w0 w' (L.set i (u,.cells #[gA O] T (0,0)))->gF w' J (b.take m) B'->(∀c∈B',w.heap.size<=c)->eF [] w0 O (b.drop m)->Fr [u] w w'->K J w'): dW prog (tg u) [.i m] dd w K:=by
 refine qz (lb:=[dH u]) rfl oK<|qno<|oA h i hi s rfl<|dX.part (S:=[]) E (lo:=none) (hi:=some (m:Int)) 0 m rfl rfl (yX _) C fun s1 _ Q _=>?_;rw[xF] at Q;refine AX (Q.q7 h.fr) (by rw[yL];omega) fun s2 B2 w2 b2 R U _ _=>?_;have V:=h.q7 R;refine oA V i hi s rfl<|dX.part (S:=[]) E (lo:=some (m:Int)) (hi:=none) m b.length rfl (by rw[xW,E.1]) C (zM _) fun s3 _ h3 _=>?_;rw[xZ] at h3;have G:=fJ (h.at hi);refine oG V i hi #[gA s3] rfl rfl (zM _) fun w3 I f3=>kk s2 B2 s3 w3 I (b2.q8 f3 fun c hc C=>?_) U h3 ((R.mono fun _ h _=>nomatch h).trans f3)
 have:=U c hc
 rw[zE.1 C] at this;dsimp only at G;omega
def vX (x:kV) (o:Nat):Sl:=if o=1 then x.2.1 else x.2.2.1
def Aa (x:kV) (o:Nat) (s:Sl):kV:=if o=1 then (x.1,s,x.2.2) else (x.1,x.2.1,s,x.2.2.2)
def Gc{o:Nat}(h:o=1\/o=2):(eV x)[o]?=some (gA (vX x o)):=by rcases h with rfl|rfl<;>rfl
def qAj{o:Nat}(h:o=1\/o=2):dT (eV x) o [gA s]=eV (Aa x o s):=by rcases h with rfl|rfl<;>rfl
def H0{E I m o:Nat}{s':Sl}{l:List Sl}{Bk:List Nat}{K:WP}(ho:o=1\/o=2)(h:dR [] w0 w ((E,.cells (eV x) ND (0,0))::(I,.cells #[gA s'] T (0,0))::L))(hr:eF [] w0 s' b)(C:m<=b.length)(aG:b.length<=1000000)(ac:eZ gT 1 w (vX x o) l Bk)(V:∀c∈Bk,w0.heap.size<=c/\c∉E::I::L.map (·.1))(hl:l.length<=100000)(kk:∀sn sN O Bk' w',dR [] w0 w' ((E,.cells (eV (Aa x o O)) ND (0,0))::(I,.cells #[gA sN] T (0,0))::L)->eF [] w0 sN (b.drop m)->eZ gT 1 w' O (l++[sn]) Bk'-> (∀c∈Bk',c∈Bk\/w.heap.size<=c)->(∀c∈Bk',c∉E::I::L.map (·.1))->Fr (E::I::Bk) w w'->(∀G:List Nat,(∀c∈G,c<w.heap.size\/c∈Bk')->eF G w' sn (b.take m))->K w'): (ld Cell.slice (dc E o) w.drew<| fun (u:Sl)=> dW prog (tg I) ([Value.int IntKind.i64 m]) (dd) w.drew<| fun (Q:Sl) (ad:World)=> held [fun (aq:Go.World)=>World.cell? aq (dc E o)=some (Value.slice u.a u.len u.cap)] ad<| new (.cells #[Value.slice Q.a Q.len Q.cap] 96) ad<| fun (ar:Nat) (ae:World)=> held [fun (au:Go.World)=>World.cell? au (dc E o)=some (Value.slice u.a u.len u.cap)] ae<| run dd ((Builtin.append_ (#[173,173]) 173 (#[Value.slice u.a u.len u.cap,Value.slice (pW ar) 1 1])).run prog ae)<| fun (R:Sl) (av:World)=> st (dc E o) ([Value.slice R.a R.len R.cap]) av K):=by
 have hd:=h.drew;refine oA hd 0 rfl (vX x o) (Gc ho)<|qs0 hd (i:=1) rfl hr C aG fun aH aI sN ah aa aJ aK hN ai=>?_;have aa:dR [] w0 ah ((E,.cells (eV x) ND (0,0))::(I,.cells #[gA sN] T (0,0))::L):=aa;refine iM (aa.cell 0 rfl (Gc ho))<|oB aa fun aX aY aZ aj ak=>iM (ak.cell 1 rfl (Gc ho)) ?_;have al:eZ gT 1 w.drew (vX x o) l Bk:=ac;have aw:=al.q8 ai fun c J C=>(V c J).2 (by rw[zE.1 C];simp);have ax:=aw.q7 aj;refine qF ax hl (ak.at (i:=0) rfl) fun O Bk' a0 aL am ay=>?_;have az:=ak.sub (L':=(E,.cells (eV x) ND (0,0))::(I,.cells #[gA sN] T (0,0))::L) (sublist_cons_self _ _);have a1:w.heap.size<=ah.heap.size:=ai.size;have a2:=aj.size;have a3:=am.size;have U:∀c∈E::I::L.map (·.1),c<w.heap.size:=fun c J=>by obtain⟨p,hp,rfl⟩:=mem_map.1 (show c∈((E,Obj.cells (eV x) ND (0,0))::(I,.cells #[gA s'] T (0,0))::L).map (·.1) from J);exact fJ (h.i9 p hp)
 have an:∀p∈((E,Obj.cells (eV x) ND (0,0))::(I,.cells #[gA sN] T (0,0))::L),p.1∉Bk:=fun p hp C=>(V p.1 C).2 (zZ (f:=(·.1)) hp);have aN:=az.q8 am (fun i hi=>.inr (V i hi).1) an;have af:∀c∈Bk',c∈Bk\/w.heap.size<=c:=fun c J=>(ay c J).elim .inl fun h=>.inr oJ;have aA:∀c∈Bk',c∉E::I::L.map (·.1):=fun c J C=>by
  rcases af c J with h|h;exact (V c h).2 C
  have:=U c C;omega
 refine oG aN 0 rfl (eV (Aa x o O)) (qAj ho) rfl (by rcases ho with rfl|rfl<;>exact zO rfl) fun ao aO aB=>?_;have h5:∀c∈Bk',c∉[E]:=fun c J C=>aA c J (by rw[zE.1 C];simp);have aC:Fr (E::I::Bk) ah ao:=((aj.mono fun _ h _=>nomatch h).trans (am.mono fun i hi _=>by simp[hi])).trans (aB.mono fun i hi _=>by simp[zE.1 hi]);have aP:Fr (E::I::Bk) w ao:=((Fr.refl _ w).drew.trans (ai.mono fun i hi _=>by simp[zE.1 hi])).trans aC;refine kk aH sN O Bk' ao aO hN (aL.q8 aB h5) af aA aP fun G hG=>?_;have aD:∀c∈aI,c∉E::I::Bk++G.filter fun c=>decide (c<w.heap.size):=fun c J C=>by
  have h1:w.heap.size<=c:=aK c J;rcases zD.1 C with C|C;rcases zG.1 C with rfl|C
  have:=U c oL;omega
  rcases zG.1 C with rfl|C
  have:=U c oL;omega
  have:=ac.lt c C;omega
  have:=(mem_filter.1 C).2
  simp at this;omega
 refine (aJ.kF lZ aD).q8 (aC.mono fun i hi _=>zH _ hi) fun c J=>?_;rcases hG c J with h1|h1;exact .inl (zI _ (mem_filter.2 ⟨J,by simpa using h1⟩));rcases ay c h1 with h2|h2;exact .inl (zH _ (by simp[h2]));exact .inr oJ
section
def Eo{L':List (Nat×Obj)}(h:dR S w0 w L)(p:L.Perm L'):dR S w0 w L':=⟨fun x u=>h.i9 x (p.mem_iff.2 u),(p.map _).nodup_iff.1 h.nodup,h.fr,fun x u=>h.own x (p.mem_iff.2 u)⟩
def At{α:Type}{enc:α->List Value}{l:List α}(h:eZ enc k w s l B):B.Nodup:=by rcases h with ⟨_,_,rfl⟩|⟨b,_,_,_,rfl,_⟩<;>simp
def vd (w:World) (ps:qy) (T:List Nat):Prop:=∀p∈ps,eF T w p.1 p.2
def vd.q8{w w':World}{ps:qy}{T T' S:List Nat}(h:vd w ps T)(f:Fr S w w')(u:∀b∈S,b∈T)(C:∀b∈T',b∈T\/w.heap.size<=b):vd w' ps T':=fun p E=>(h p E).q8 (f.mono fun i G _=>u i G) C
def vd.snoc{T:List Nat}{a:Key}(h:vd w ps T)(g:eF T w s a):vd w (ps++[(s,a)]) T:=fun p u=>by rcases zD.1 u with u|u;exact h p u;rw[zE.1 u];exact g
def quy{G:List Nat}{pk pv:qy}{Bk h u T:List Nat}(h0:x.1=n.Q1)(hN:NB n)(O:eZ gT 1 w x.2.1 (i3 pk) Bk)(e1:gM pk=n.J3)(Q:eZ gT 1 w x.2.2.1 (i3 pv) h)(e2:gM pv=n.J7)(R:eZ jc 1 w x.2.2.2 n.J6 u)(U:∀c∈Bk,c∉h/\c∉u)(d2:∀c∈h,c∉u)(g1:vd w pk T)(g2:vd w pv T)(V:∀c∈G++(Bk++(h++u)),c∈T):fI (G++(Bk++(h++u))) w x n (Bk++(h++u)):=by refine⟨h0,hN,Bk,h,u,rfl,?_,⟨pk,O,e1,fun p I=>(g1 p I).j4 fun c J=>.inl (V c J)⟩,⟨pv,Q,e2,fun p I=>(g2 p I).j4 fun c J=>.inl (V c J)⟩,R⟩;refine yM.2 ⟨At O,yM.2 ⟨At Q,At R,fun a E b C e=>d2 a E (e▸C)⟩,fun a E b C e=>?_⟩;rcases zD.1 C with C|C;exact (U a E).1 (e▸C);exact (U a E).2 (e▸C)
section
variable {w:World} {s:Sl} {b:List Int}
def qAb{count:Nat}{K:kV×Bool->WP}(hb:eF [] w s b)(hB:eS b)(hl:b.length<=1000)(hc:count<=100000)(hk:1<=k/\k<=1000)(hv:v<=1000)(kk:∀x B n w',(b.length=count*(k+v)->n=⟨true,(jm k v count b).1,(jm k v count b).2,[]⟩)->fI (List.range w.heap.size++B) w' x n B->Fr [] w w'->(∀c∈B,w.heap.size<=c)->K (x,decide (b.length=count*(k+v))) w'): cW 169 [s.v,.i count,.i k,.i v] [.agg ed,.one .bool] w K:=by
 refine qsq<|oB (oE [] w) fun r1 w1 e1 f1 h=>?_;have a1:count*(k+v)<=100000*2000:=Nat.mul_le_mul hc oJ;have ew:wrap .i64 ((count:Int)*wrap .i64 ((k:Int)+(v:Int)))=((count*(k+v):Nat):Int):=by have e1:wrap .i64 ((k:Int)+(v:Int))=((k+v:Nat):Int):=(by rw[gd _ oJ];rfl);rw[e1,<- Int.natCast_mul,gd _ oJ]
 rw[ew];have an:=hb.1;apply eH<;>intro aa;have ao:b.length≠count*(k+v):=fun e=>by rw[an,e] at aa;simp at aa
 refine oD h 0 rfl (eV fU) fun w2 h f2=>oC h 0 rfl fU rfl ?_
 have:=kk fU [] iY w2 (fun e=>absurd e ao) (.zero _ _) h.fr (fun _ h=>nomatch h)
 rw[zU ao] at this;exact this;have aI:b.length=count*(k+v):=by
  have:((s.len:Int)==((count*(k+v):Nat):Int))=true:=by simpa using aa
  have:=yP.1 this
  omega
 have a7:count<=1000:=(by have:count*1<=count*(k+v):=Nat.mul_le_mul_left _ oJ;omega);refine oB h fun C w2 e2 f2 h=>oD h 0 rfl (eV (true,dI,dI,dI)) fun w3 h f3=>qjI<|oB h fun E w4 e4 f4 h=>?_;have h:=Eo h (List.Perm.swap _ _ _);have a8:=h.nodup;have a9:=fun p hp=>(h.own p hp).elim (fun h=>(nomatch h:False).elim) (id:w.heap.size<=p.1->_);refine jT (fun i w'=>∃(c:Nat) (sk V sn:Sl) (pk pv:qy) (Bk G:List Nat),i=(c:Int)/\c<=count/\dR [] w w' [(C,.cells (eV (true,sk,V,dI)) ND (0,0)),(E,.cells #[gA sn] 96 (0,0)),(r1,.cells (eV fU) ND (0,0))]/\
   eF [] w sn (b.drop (c*(k+v)))/\eZ gT 1 w' sk (i3 pk) Bk/\gM pk=(jm k v c b).1/\eZ gT 1 w' V (i3 pv) G/\gM pv=(jm k v c b).2/\(∀c∈Bk,w.heap.size<=c/\c∉[C,E,r1])/\(∀c∈G,w.heap.size<=c/\c∉[C,E,r1])/\(∀c∈Bk,c∉G)/\
   vd w' pk (List.range w.heap.size++C::E::r1::(Bk++G))/\vd w' pv (List.range w.heap.size++C::E::r1::(Bk++G))) (fun i _=>((count:Int)-i).toNat)
  ⟨0,dI,dI,s,[],[],[],[],rfl,yX _,h,by rw[Nat.zero_mul,xF];exact hb,.nil _ _ _,rfl,.nil _ _ _,rfl,fun _ h=>(nomatch h),fun _ h=>(nomatch h),fun _ h=>(nomatch h),fun _ h=>(nomatch h),fun _ h=>(nomatch h)⟩ ?_
 rintro _ w' ⟨c,sk,V,sn,pk,pv,Bk,G,rfl,ba,h,aJ,ap,ek,ab,ev,nk,nv,ah,gk,gv⟩ X hX;have lk:pk.length=c:=(by rw[<- zK (f:=(·.2)),show pk.map (·.2)=gM pk from rfl,ek,(DG c b).1]);have lv:pv.length=c:=(by rw[<- zK (f:=(·.2)),show pv.map (·.2)=gM pv from rfl,ev,(DG c b).2]);have J:∀z∈[C,E,r1],z<w'.heap.size:=fun z u=>by simp only[zG,xX,or_false] at u;rcases u with rfl|rfl|rfl;exact fJ (h.at (i:=0) rfl);exact fJ (h.at (i:=1) rfl);exact fJ (h.at (i:=2) rfl)
 apply cD<;>intro ai;have aq:c<count:=oJ;have aj:(c+1)*(k+v)<=count*(k+v):=Nat.mul_le_mul_right _ aq;rw[xU,Nat.one_mul] at aj;have bc:(b.drop (c*(k+v))).length=b.length-c*(k+v):=yC;refine H0 (o:=1) (m:=k) (.inl rfl) h aJ oJ oJ (x:=(true,sk,V,dI)) ap (fun z u=>nk z u) oO fun Q sN R Bk' w5 h5 aM b5 n5 m5 f5 g5=>?_;have h5:dR [] w w5 [(C,.cells (eV (true,R,V,dI)) ND (0,0)),(E,.cells #[gA sN] 96 (0,0)),(r1,.cells (eV fU) ND (0,0))]:=h5;have ar:=ab.q8 f5 fun z u I=>by simp only[zG] at I;rcases I with rfl|rfl|I;exact (nv _ u).2 oL;exact (nv _ u).2 oL;exact ah z I u
 have au:∀z∈List.range w.heap.size++C::E::r1::(Bk'++G),z∈List.range w.heap.size++C::E::r1::(Bk++G)\/w'.heap.size<=z:=fun z u=>by simp only[zD,zG] at u⊢;rcases u with u|rfl|rfl|rfl|u|u;exact .inl (.inl u);simp;simp;simp;rcases n5 z u with h|h;simp[h];exact .inr h;simp[u]
 have av:∀z∈C::E::Bk,z∈List.range w.heap.size++C::E::r1::(Bk++G):=fun z u=>by simp only[zD,zG] at u⊢;rcases u with rfl|rfl|u<;>simp[*]
 have aP:=(gk.q8 f5 av au).snoc (s:=Q) (a:=(b.drop (c*(k+v))).take k) (g5 _ fun z u=>by
  simp only[zD,zG,mem_range] at u
  have:=h.fr.size
  rcases u with u|rfl|rfl|rfl|u|u;exact .inl oJ;exact .inl (J _ oL);exact .inl (J _ oL);exact .inl (J _ oL);exact .inr u;exact .inl (ab.lt z u))
 have aQ:=gv.q8 f5 av au;have ak:∀z∈Bk',w.heap.size<=z/\z∉[C,E,r1]:=fun z u=>⟨by rcases n5 z u with O|O;exact (nk z O).1;exact zL h.fr.size O,m5 z u⟩;have ag:∀z∈Bk',z∉G:=fun z u I=>by
  rcases n5 z u with O|O;exact ah z O I
  have:=ab.lt z I;omega
 have aR:eZ gT 1 w5 R (i3 (pk++[(Q,(b.drop (c*(k+v))).take k)])) Bk':=(by rw[show i3 (pk++[(Q,(b.drop (c*(k+v))).take k)])=i3 pk++[Q] by simp];exact b5);refine H0 (o:=2) (m:=v) (.inr rfl) h5 aM (by rw[yC];omega) (by rw[yC];omega) (x:=(true,R,V,dI)) ar (fun z u=>nv z u) oO fun ad aw ax ay w6 h6 az b6 n6 m6 f6 g6=>?_;have h6:dR [] w w6 [(C,.cells (eV (true,R,ax,dI)) ND (0,0)),(E,.cells #[gA aw] 96 (0,0)),(r1,.cells (eV fU) ND (0,0))]:=h6;have U:∀z∈[C,E,r1],z<w5.heap.size:=fun z u=>yD (J z u) f5.size;have aA:=aR.q8 f6 fun z u I=>by simp only[zG] at I;rcases I with rfl|rfl|I;exact (ak _ u).2 oL;exact (ak _ u).2 oL;exact ag z u I
 have aB:∀z∈List.range w.heap.size++C::E::r1::(Bk'++ay),z∈List.range w.heap.size++C::E::r1::(Bk'++G)\/w5.heap.size<=z:=fun z u=>by simp only[zD,zG] at u⊢;rcases u with u|rfl|rfl|rfl|u|u;exact .inl (.inl u);simp;simp;simp;simp[u];rcases n6 z u with h|h;simp[h];exact .inr h
 have aC:∀z∈C::E::G,z∈List.range w.heap.size++C::E::r1::(Bk'++G):=fun z u=>by simp only[zD,zG] at u⊢;rcases u with rfl|rfl|u<;>simp[*]
 have aW:=(aQ.q8 f6 aC aB).snoc (s:=ad) (a:=((b.drop (c*(k+v))).drop k).take v) (g6 _ fun z u=>by
  simp only[zD,zG,mem_range] at u
  have:=h5.fr.size
  rcases u with u|rfl|rfl|rfl|u|u;exact .inl oJ;exact .inl (U _ oL);exact .inl (U _ oL);exact .inl (U _ oL);exact .inl (b5.lt z u);exact .inr u)
 have aX:=aP.q8 f6 aC aB;rw[sS oJ];have aD:=qoj (k:=k) (v:=v) c b;refine hX _ _ ⟨c+1,R,ax,aw,pk++[(Q,(b.drop (c*(k+v))).take k)],pv++[(ad,((b.drop (c*(k+v))).drop k).take v)],Bk',ay,rfl,aq,h6,?_,aA,?_,?_,?_,ak,fun z u=>⟨?_,m6 z u⟩,fun z u I=>?_,aX,aW⟩ oJ;rw[xD,xD] at az;have e:c*(k+v)+(k+v)=(c+1)*(k+v):=(by rw[xU];omega);rw[<- e];exact az;rw[aD];simp[ek];rw[show i3 (pv++[(ad,((b.drop (c*(k+v))).drop k).take v)])=i3 pv++[ad] by simp];exact b6;rw[aD];simp[ev];rcases n6 z u with O|O;exact (nv z O).1;exact zL h5.fr.size O;rcases n6 z I with O|O;exact ag z u O
 have:=b5.lt z u;omega
 have aY:c=count:=oJ;subst aY;refine oC h 0 rfl (true,sk,V,dI) rfl<|oD h 2 rfl (eV (true,sk,V,dI)) fun w5 h5 f5=>oC h5 2 rfl (true,sk,V,dI) rfl ?_;have aE:∀ {B:List Nat},(∀z∈B,w.heap.size<=z/\z∉[C,E,r1])->∀z∈B,z∉[r1]:=fun hB z u I=>(hB z u).2 (by rw[zE.1 I];simp);have aF:∀z∈[r1],z∈List.range w.heap.size++C::E::r1::(Bk++G):=fun z u=>by rw[zE.1 u];simp
 have:=kk (true,sk,V,dI) (Bk++(G++[])) ⟨true,(jm k v c b).1,(jm k v c b).2,[]⟩ w5 (fun _=>rfl)
  (quy (T:=List.range w.heap.size++C::E::r1::(Bk++G)) rfl ⟨(FZ c hB).1,(FZ c hB).2,fun _ h=>(nomatch h)⟩ (ap.q8 f5 (aE nk)) ek (ab.q8 f5 (aE nv)) ev (.nil _ _ _) (fun z u=>⟨ah z u,fun h=>nomatch h⟩) (fun _ _ h=>nomatch h)
   (gk.q8 f5 aF fun z u=>.inl u) (gv.q8 f5 aF fun z u=>.inl u) fun z u=>by simp only[xH,zD,zG] at u⊢;rcases u with u|u|u<;>simp[*]) h5.fr (fun z u=>by
   rw[xH] at u;rcases zD.1 u with u|u;exact (nk z u).1;exact (nv z u).1)
 rw[yA aI] at this;exact this
end
end
section
def qtn(u:eS l)(E:4<=l.length):fO (l.take 4)=iK (l.take 4):=by
 match l,E with
 | a::b::c::d::r,_=>
  have G:=u a oL;have I:=u b oL;have J:=u c oL;have O:=u d oL;show fO [a,b,c,d]=iK [a,b,c,d];show pN a b c d=_;rw[qr6 G I J O,EQ (fun v C=>u v (by simp at C⊢;rcases C with h|h|h|h<;>simp[h])) (zM _)];show _=(((0*256+a)*256+b)*256+c)*256+d;omega
def qyF(l:List Int):iy (iK l):=by
 unfold iK;have:∀(l:List Int) (r:Int),iy r->iy (l.foldl (fun r x=>bits .or .u32 (wrap .u32 (r*2^8)) (wrap .u32 x)) r):=by
  intro l;induction l with
  | nil=>intro r h;exact h
  | cons x l ih=>intro r h;exact ih _ (Eg _ _ _)
 exact this l 0 ⟨oM,oM⟩
def qqn:∀(c:Nat) (b:List Int),∀x∈y7 c b,iy x
 | 0,_,_,h=>nomatch h
 | c+1,b,x,h=>by rcases zG.1 h with rfl|h;exact qyF _;exact qqn c _ x h
def qAn{I J:Nat}{s':Sl}{Bi:List Nat}{K:WP}(h:dR [] w0 w ((I,.cells (eV x) ND (0,0))::(J,.cells #[gA s'] T (0,0))::L))(hr:eF [] w0 s' b)(hB:eS b)(V:4<=b.length)(aA:b.length<=1000000)(ah:eZ jc 1 w x.2.2.2 l Bi)(aa:∀c∈Bi,w0.heap.size<=c/\c∉I::J::L.map (·.1))(hl:l.length<=100000)(kk:∀sN O Q w',dR [] w0 w' ((I,.cells (eV (x.1,x.2.1,x.2.2.1,O)) ND (0,0))::(J,.cells #[gA sN] T (0,0))::L)->eF [] w0 sN (b.drop 4)->eZ jc 1 w' O (l++[iK (b.take 4)]) Q-> (∀c∈Q,w0.heap.size<=c/\c∉I::J::L.map (·.1))->K w'): (dW prog (tg J) ([Value.int IntKind.i64 4]) (dd) w<| fun (E:Sl) (u:World)=> ld Cell.slice (dc I 3) u.drew<| fun (C:Sl)=> idx E 0 1<| fun (ai:Addr)=> ld (Cell.int IntKind.u8) ai u.drew<| fun (aj:Int)=> idx E 1 1<| fun (ak:Addr)=> ld (Cell.int IntKind.u8) ak u.drew<| fun (al:Int)=> idx E 2 1<| fun (am:Addr)=> ld (Cell.int IntKind.u8) am u.drew<| fun (an:Int)=> idx E 3 1<| fun (ao:Addr)=> ld (Cell.int IntKind.u8) ao u.drew<| fun (ap:Int)=> new (.cells #[Value.int IntKind.u32 (bits .or .u32 (bits .or .u32 (bits .or .u32 (wrap IntKind.u32 (wrap IntKind.u32 aj*2^24)) (wrap IntKind.u32 (wrap IntKind.u32 al*2^16))) (wrap IntKind.u32 (wrap IntKind.u32 an*2^8))) (wrap IntKind.u32 ap))] 44) u.drew<| fun (aq:Nat) (ad:World)=> held [fun (ar:Go.World)=>World.cell? ar (dc I 3)=some (Value.slice C.a C.len C.cap)] ad<| run dd ((Builtin.append_ (#[174,174]) 174 (#[Value.slice C.a C.len C.cap,Value.slice (pW aq) 1 1])).run prog ad)<| fun (R:Sl) (au:World)=> st (dc I 3) ([Value.slice R.a R.len R.cap]) au K):=by
 refine qs0 (m:=4) h (i:=1) rfl hr V aA fun aB aX sN ab aC aD aY hN aE=>?_;have hd:dR [] w0 ab.drew ((I,.cells (eV x) ND (0,0))::(J,.cells #[gA sN] T (0,0))::L):=oF aC;refine oA hd 0 rfl x.2.2.2 rfl ?_;have G:eF [] ab.drew aB (b.take 4):=(aD.kF lZ (S:=[]) (fun _ _ h=>nomatch h)).q7 (Fr.refl [] ab).drew;have h4:4<=(b.take 4).length:=(by rw[yL];omega);refine eF.at G 0 rfl (getD_some oJ)<|eF.at G 1 rfl (getD_some oJ)<|eF.at G 2 rfl (getD_some oJ)<|eF.at G 3 rfl (getD_some oJ) ?_;have e4:=qtn hB V;unfold fO pN at e4;rw[e4];refine oB hd fun a0 aF a1 aG ae=>iM (ae.cell 1 rfl rfl) ?_;have av:=ah.q8 aE fun c hc V=>(aa c hc).2 (by rw[zE.1 V];simp);have aw:=(av.q7 (Fr.refl [] ab).drew).q7 aG;refine qt3 aw hl (ae.at (i:=0) rfl) fun O Q a2 aH aI aJ=>?_;have U:=ae.sub (L':=(I,.cells (eV x) ND (0,0))::(J,.cells #[gA sN] T (0,0))::L) (sublist_cons_self _ _);have ag:∀p∈((I,Obj.cells (eV x) ND (0,0))::(J,.cells #[gA sN] T (0,0))::L),p.1∉Bi:=fun p hp V=>(aa p.1 V).2 (zZ (f:=(·.1)) hp);have aL:=U.q8 aI (fun i hi=>.inr (aa i hi).1) ag;have ax:∀c∈I::J::L.map (·.1),c<aF.heap.size:=fun c hc=>by obtain⟨p,hp,rfl⟩:=mem_map.1 (show c∈((I,Obj.cells (eV x) ND (0,0))::(J,.cells #[gA sN] T (0,0))::L).map (·.1) from hc);exact fJ (U.i9 p hp)
 have ay:∀c∈Q,w0.heap.size<=c/\c∉I::J::L.map (·.1):=fun c hc=>by rcases aJ c hc with h|h;exact aa c h;exact⟨zL U.fr.size h,fun V=>by have:=ax c V;omega⟩
 exact oD aL 0 rfl (eV (x.1,x.2.1,x.2.2.1,O)) fun aM aN aO=>kk sN O Q aM aN hN (aH.q8 aO fun c hc V=>(ay c hc).2 (by rw[zE.1 V];simp)) ay
section
variable {w:World} {s:Sl} {b:List Int}
def qwW{count:Nat}{K:kV×Bool->WP}(hb:eF [] w s b)(hB:eS b)(hl:b.length<=1000)(hc:count<=100000)(hk:1<=k/\k<=1000)(kk:∀x B n w',(1<=count/\b.length=count*4+(count-1)*k->n=⟨false,lI k (count-1) (b.drop (count*4)),[],y7 count b⟩)->fI (List.range w.heap.size++B) w' x n B->Fr [] w w'->(∀c∈B,w.heap.size<=c)->K (x,decide (1<=count/\b.length=count*4+(count-1)*k)) w'): cW 170 [s.v,.i count,.i k] [.agg ed,.one .bool] w K:=by
 refine qrc<|oB (oE [] w) fun r1 w1 e1 f1 h=>?_;have al:=hb.1;have am:(count-1)*k<=100000*1000:=Nat.mul_le_mul oJ hk.2;refine iQ (fun d w'=>d = !decide (1<=count/\b.length=count*4+(count-1)*k)/\w'=w1) ?_ ?_;apply eH<;>intro h1;have h1:=zC h1;refine⟨?_,rfl⟩;rw[zU (fun h=>oJ)];rfl;have h1:=zB h1;refine⟨?_,rfl⟩;have ea:wrap .i64 ((count:Int)-1)=((count-1:Nat):Int):=(by rw[gd _ oJ];omega);have ew:wrap .i64 (wrap .i64 ((count:Int)*4)+wrap .i64 (wrap .i64 ((count:Int)-1)*(k:Int)))=((count*4+(count-1)*k:Nat):Int):=by have e4:wrap .i64 ((count:Int)*4)=((count*4:Nat):Int):=(by rw[gd _ oJ];rfl);have e5:wrap .i64 (((count-1:Nat):Int)*(k:Int))=(((count-1)*k:Nat):Int):=(by rw[<- Int.natCast_mul,gd _ oJ]);rw[ea,e4,e5];generalize (count-1)*k=z at am;rw[gd _ oJ];rfl
 rw[ew,al];congr 1;rw[Bool.eq_iff_iff,yP,yN];generalize (count-1)*k=z;omega;rintro d aX ⟨rfl,rfl⟩;apply eH<;>intro O;have ao:¬(1<=count/\b.length=count*4+(count-1)*k):=(by rw[zT] at O;exact zB O);refine oD h 0 rfl (eV fU) fun w2 h f2=>oC h 0 rfl fU rfl ?_
 have:=kk fU [] iY w2 (fun e=>absurd e ao) (.zero _ _) h.fr (fun _ h=>nomatch h)
 rw[zU ao] at this;exact this;have aD:1<=count/\b.length=count*4+(count-1)*k:=(by rw[yE] at O;exact zC O);refine oB h fun E w2 e2 f2 h=>qjI<|oB h fun G w4 e4 f4 h=>?_;have h:=Eo h (List.Perm.swap _ _ _);refine jT (fun i w'=>∃(c:Nat) (J sn:Sl) (I:List Nat),i=(c:Int)/\c<=count/\dR [] w w' [(E,.cells (eV (false,dI,dI,J)) ND (0,0)),(G,.cells #[gA sn] 96 (0,0)),(r1,.cells (eV fU) ND (0,0))]/\
   eF [] w sn (b.drop (c*4))/\eZ jc 1 w' J (y7 c b) I/\(∀c∈I,w.heap.size<=c/\c∉[E,G,r1])) (fun i _=>((count:Int)-i).toNat)
  ⟨0,dI,s,[],rfl,yX _,h,by rw[Nat.zero_mul,xF];exact hb,.nil _ _ _,fun _ h=>(nomatch h)⟩ ?_
 rintro _ w' ⟨c,J,sn,I,rfl,aZ,h,ap,C,ni⟩ X hX;apply cD<;>intro ad;have U:c<count:=oJ;have aF:(b.drop (c*4)).length=b.length-c*4:=yC;refine qAn h ap (hB.drop _) oJ oJ (x:=(false,dI,dI,J)) C ni (by rw[HR];omega) fun sN aG aH w5 h5 Q b5 n5=>?_;rw[sS oJ];refine hX _ _ ⟨c+1,aG,sN,aH,rfl,U,h5,?_,by rw[qoi];exact b5,n5⟩ oJ;rw[xD] at Q;have e:c*4+4=(c+1)*4:=oJ;rw[<- e];exact Q;have ae:c=count:=oJ;subst ae;have aR:∀z∈I,w.heap.size<=z:=fun z u=>(ni z u).1;refine jT (fun i w2=>∃(d:Nat) (sk sn:Sl) (pk:qy) (Bk:List Nat),i=(d:Int)/\d<=c-1/\dR [] w w2 [(E,.cells (eV (false,sk,dI,J)) ND (0,0)),(G,.cells #[gA sn] 96 (0,0)),(r1,.cells (eV fU) ND (0,0))]/\
   eF [] w sn ((b.drop (c*4)).drop (d*k))/\eZ jc 1 w2 J (y7 c b) I/\eZ gT 1 w2 sk (i3 pk) Bk/\gM pk=lI k d (b.drop (c*4))/\(∀c∈Bk,w.heap.size<=c/\c∉[E,G,r1])/\(∀c∈Bk,c∉I)/\
   vd w2 pk (List.range w.heap.size++E::G::r1::(Bk++I))) (fun i _=>(((c-1:Nat):Int)-i).toNat)
  ⟨0,dI,sn,[],[],rfl,yX _,h,by rw[Nat.zero_mul,xF];exact ap,C,.nil _ _ _,rfl,fun _ h=>(nomatch h),fun _ h=>(nomatch h),fun _ h=>(nomatch h)⟩ ?_
 rintro _ w2 ⟨d,sk,a0,pk,Bk,rfl,a1,h,ar,C,au,ek,nk,af,gk⟩ X hX;have lk:pk.length=d:=(by rw[<- zK (f:=(·.2)),show pk.map (·.2)=gM pk from rfl,ek,Ie]);have ea:wrap .i64 ((c:Int)-1)=((c-1:Nat):Int):=(by rw[gd _ oJ];omega);have R:∀z∈[E,G,r1],z<w2.heap.size:=fun z u=>by simp only[zG,xX,or_false] at u;rcases u with rfl|rfl|rfl;exact fJ (h.at (i:=0) rfl);exact fJ (h.at (i:=1) rfl);exact fJ (h.at (i:=2) rfl)
 rw[ea];apply cD<;>intro ag;have U:d<c-1:=oJ;have ah:(d+1)*k<=(c-1)*k:=Nat.mul_le_mul_right _ U;rw[xU,Nat.one_mul] at ah;have aF:((b.drop (c*4)).drop (d*k)).length=b.length-c*4-d*k:=(by rw[yC,yC]);refine H0 (o:=1) (m:=k) (.inl rfl) h ar oJ oJ (x:=(false,sk,dI,J)) au nk oO fun V sN av Bk' w5 h5 Q b5 n5 m5 f5 g5=>?_;have h5:dR [] w w5 [(E,.cells (eV (false,av,dI,J)) ND (0,0)),(G,.cells #[gA sN] 96 (0,0)),(r1,.cells (eV fU) ND (0,0))]:=h5;have aw:=C.q8 f5 fun z u hm=>by simp only[zG] at hm;rcases hm with rfl|rfl|hm;exact (ni _ u).2 oL;exact (ni _ u).2 oL;exact af z hm u
 have aK:∀z∈List.range w.heap.size++E::G::r1::(Bk'++I),z∈List.range w.heap.size++E::G::r1::(Bk++I)\/w2.heap.size<=z:=fun z u=>by simp only[zD,zG] at u⊢;rcases u with u|rfl|rfl|rfl|u|u;exact .inl (.inl u);simp;simp;simp;rcases n5 z u with h|h;simp[h];exact .inr h;simp[u]
 have aL:∀z∈E::G::Bk,z∈List.range w.heap.size++E::G::r1::(Bk++I):=fun z u=>by simp only[zD,zG] at u⊢;rcases u with rfl|rfl|u<;>simp[*]
 have aM:=(gk.q8 f5 aL aK).snoc (s:=V) (a:=((b.drop (c*4)).drop (d*k)).take k) (g5 _ fun z u=>by
  simp only[zD,zG,mem_range] at u
  have:=h.fr.size
  rcases u with u|rfl|rfl|rfl|u|u;exact .inl oJ;exact .inl (R _ oL);exact .inl (R _ oL);exact .inl (R _ oL);exact .inr u;exact .inl (C.lt z u))
 rw[sS oJ];refine hX _ _ ⟨d+1,av,sN,pk++[(V,((b.drop (c*4)).drop (d*k)).take k)],Bk',rfl,U,h5,?_,aw,?_,?_,fun z u=>⟨?_,m5 z u⟩,fun z u hm=>?_,aM⟩ oJ;rw[xD] at Q;have e:d*k+k=(d+1)*k:=(by rw[xU];omega);rw[<- e];exact Q;rw[show i3 (pk++[(V,((b.drop (c*4)).drop (d*k)).take k)])=i3 pk++[V] by simp];exact b5;rw[qog];simp[ek];rcases n5 z u with h'|h';exact (nk z h').1;exact zL h.fr.size h';rcases n5 z u with h'|h';exact af z h' hm
 have:=C.lt z hm;omega
 have ae:d=c-1:=oJ;subst ae;refine oC h 0 rfl (false,sk,dI,J) rfl<|oD h 2 rfl (eV (false,sk,dI,J)) fun w5 h5 f5=>oC h5 2 rfl (false,sk,dI,J) rfl ?_;have ax:∀ {B:List Nat},(∀z∈B,w.heap.size<=z/\z∉[E,G,r1])->∀z∈B,z∉[r1]:=fun hB z u hm=>(hB z u).2 (by rw[zE.1 hm];simp);have aN:∀z∈[r1],z∈List.range w.heap.size++E::G::r1::(Bk++I):=fun z u=>by rw[zE.1 u];simp
 have:=kk (false,sk,dI,J) (Bk++([]++I)) ⟨false,lI k (c-1) (b.drop (c*4)),[],y7 c b⟩ w5 (fun _=>rfl)
  (quy (pv:=[]) (T:=List.range w.heap.size++E::G::r1::(Bk++I)) rfl ⟨qql _ (hB.drop _),fun _ h=>(nomatch h),qqn _ _⟩ (au.q8 f5 (ax nk)) ek (.nil _ _ _) rfl (C.q8 f5 (ax ni)) (fun z u=>⟨fun h=>(nomatch h),af z u⟩) (fun _ h=>nomatch h)
   (gk.q8 f5 aN fun z u=>.inl u) (fun _ h=>nomatch h) fun z u=>by simp only[xI,zD,zG] at u⊢;rcases u with u|u|u<;>simp[*]) h5.fr (fun z u=>by
   rw[xI] at u;rcases zD.1 u with u|u;exact (nk z u).1;exact (ni z u).1)
 rw[yA aD] at this;exact this
end
end
section
def qti(h:eS b)(E:2<=b.length):bits .or .i64 (wrap .i64 (wrap .i64 (b.getD 0 0)*2^8)) (wrap .i64 (b.getD 1 0))=(fY b:Int)/\fY b<=65535:=by have u:0<=b.getD 0 0/\b.getD 0 0<256:=h _ (yF (getD_some (l:=b) (n:=0) oJ));have C:0<=b.getD 1 0/\b.getD 1 0<256:=h _ (yF (getD_some (l:=b) (n:=1) oJ));unfold fY;generalize b.getD 0 0=x at u⊢;generalize b.getD 1 0=y at C⊢;rw[gd x oJ,gd y oJ,gd (x*2^8) oJ,qsu 8 oJ oJ oJ oJ oJ];omega
def qnS(h:(dY k v).1≠0):1<=k/\k<=24/\v<=108:=by unfold dY at h;split at h;exact absurd rfl h;omega
def qy6(h:(dY k v).1=0\/b.length<2\/b.length>500):i7 kind b k v=(iY,2):=by unfold i7;rw[if_pos h]
def qxB(h:¬((dY k v).1=0\/b.length<2\/b.length>500)):i7 3 b k v=if (b.drop 2).length=fY b*(k+v)/\fZ (nh k v b) k v then (nh k v b,0) else (iY,2):=by unfold i7;rw[if_neg h];by_cases h2:(b.drop 2).length=fY b*(k+v)/\fZ (nh k v b) k v;rw[if_pos ⟨rfl,h2⟩,if_pos h2];rw[if_neg fun h=>h2 h.2,if_neg h2,if_neg fun h=>absurd h.1 oM]
def qvR(h:¬((dY k v).1=0\/b.length<2\/b.length>500)):i7 4 b k v=if (1<=fY b/\(b.drop 2).length=fY b*4+(fY b-1)*k)/\fZ (lL k b) k v then (lL k b,0) else (iY,2):=by unfold i7;rw[if_neg h,if_neg fun h=>absurd h.1 oM];by_cases h2:(1<=fY b/\(b.drop 2).length=fY b*4+(fY b-1)*k)/\fZ (lL k b) k v;rw[if_pos ⟨rfl,h2.1.1,h2.1.2,h2.2⟩,if_pos h2];rw[if_neg fun h=>h2 ⟨⟨h.2.1,h.2.2.1⟩,h.2.2.2⟩,if_neg h2]
def qxA(u:kind≠3)(C:kind≠4):i7 kind b k v=(iY,2):=by unfold i7;split;rfl;rw[if_neg fun h=>u h.1,if_neg fun h=>C h.1]
section
variable {w:World} {s:Sl} {b:List Int}
def HO{K:kV×Int->WP}(hb:eF [] w s b)(hB:eS b)(kk:∀x B w',fI (List.range w.heap.size++B) w' x (i7 kind b k v).1 B->Fr [] w w'->(∀c∈B,w.heap.size<=c)->K (x,(i7 kind b k v).2) w'): cW 128 [.b kind,s.v,.i k,.i v] [.agg ed,.one .i] w K:=by
 refine qso ?_;have af:=hb.1;refine oB (oE [] w) fun r1 w1 e1 f1 h=>G1 fun w4 f4=>?_;have h:=h.q7 f4;refine iQ (fun d w'=>d=decide ((dY k v).1=0\/b.length<2\/b.length>500)/\w'=w4) ?_ ?_;dsimp only;refine eH (fun C=>⟨?_,rfl⟩) (fun C=>eH (fun c2=>⟨?_,rfl⟩) (fun c2=>⟨?_,rfl⟩));have C:=yP.1 C;exact Ew (.inl oJ);have c2:=zC c2;exact Ew (.inr (.inl oJ));have C:=zR.1 C;have c2:=zB c2;rw[Bool.eq_iff_iff,yN,yN];constructor;intro h;exact .inr (.inr oJ);rintro (h|h|h);omega;omega;omega;rintro d aG ⟨rfl,rfl⟩;have ar:∀ {w'},i7 kind b k v=(iY,2)->dR [] w w' [(r1,.cells (eV fU) ND (0,0))]->
   st (dc r1) ([Value.bool false,Value.slice none 0 0,Value.slice none 0 0,Value.slice none 0 0]) w' fun au=>dK (ed) (dc r1) au fun aH=>K ((aH,2)) au:=fun he h=>by
  refine oD h 0 rfl (eV fU) fun w2 h f2=>oC h 0 rfl fU rfl ?_
  have:=kk fU [] w2 (by rw[he];exact .zero _ _) h.fr (fun _ h=>nomatch h)
  rw[he] at this;exact this
 refine eH (fun u=>ar (qy6 (zC u)) h) (fun u=>?_);have U:=zB u;have av:(dY k v).1≠0:=fun e=>U (.inl e);have h2:2<=b.length/\b.length<=500:=by refine⟨?_,?_⟩;exact Nat.not_lt.1 fun e=>U (.inr (.inl e));exact Nat.not_lt.1 fun e=>U (.inr (.inr e))
 obtain⟨aW,aX,aY⟩:=qnS av;obtain⟨aw,aZ⟩:=qti hB h2.1;have ax:=(hb.q7 h.fr).q7 (Fr.refl [] aG).drew;refine eF.at ax 0 rfl (getD_some oJ)<|eF.at ax 1 rfl (getD_some oJ) ?_;rw[aw];have h:=h.drew;refine oB h fun ad ah a0 a1 h=>?_;have ai:=fJ (h.at (i:=0) rfl);have ay:=fJ (h.at (i:=1) rfl);dsimp only at ai ay;have ag:=hb.q7 h.fr;have az:=h.fr.size;refine iQ (fun O w'=>∃x B n,dR [] w w' [(ad,.cells (eV x) ND (0,0)),(r1,.cells (eV fU) ND (0,0))]/\fI (List.range ah.heap.size++B) w' x n B/\(∀c∈B,ah.heap.size<=c)/\
   O=decide ((kind=3/\(b.drop 2).length=fY b*(k+v))\/(kind=4/\1<=fY b/\(b.drop 2).length=fY b*4+(fY b-1)*k))/\
   (O=true->n=if kind=3 then nh k v b else lL k b)) ?_ ?_
 refine eH (fun R=>?_) (fun R=>eH (fun c4=>?_) (fun c4=>?_));have R:=yP.1 R;refine dX.part (S:=[]) ag (lo:=some 2) (hi:=none) 2 b.length rfl (by rw[xW,af]) h2.1 (zM _) fun aJ _ I _=>?_;rw[xZ] at I;refine qAb I (hB.drop 2) (by rw[yC];omega) oJ oJ oJ fun x B n aK hn hN al J=>?_;have am:=h.q7 al;refine oD am 0 rfl (eV x) fun aL an ao=>?_;have V:∀c∈B,c∉[ad]:=fun c u hm=>by have:=J c u;rw[zE.1 hm] at this;omega
 refine⟨x,B,n,an,hN.q8 ao V (fun c u=>.inl (by rw[zE.1 u];simp[ai])) (fun c u=>.inl u),J,?_,fun E=>?_⟩;rw[Bool.eq_iff_iff,yN,yN];constructor;intro Q;exact .inl ⟨R,Q⟩;rintro (Q|Q);exact Q.2
 have:=Q.1;omega
 rw[if_pos R];exact hn (zC E);have R:=zR.1 R;have c4:=yP.1 c4;refine dX.part (S:=[]) ag (lo:=some 2) (hi:=none) 2 b.length rfl (by rw[xW,af]) h2.1 (zM _) fun aJ _ I _=>?_;rw[xZ] at I;refine qwW I (hB.drop 2) (by rw[yC];omega) oJ oJ fun x B n aK hn hN al J=>?_;have am:=h.q7 al;refine oD am 0 rfl (eV x) fun aL an ao=>?_;have V:∀c∈B,c∉[ad]:=fun c u hm=>by have:=J c u;rw[zE.1 hm] at this;omega
 refine⟨x,B,n,an,hN.q8 ao V (fun c u=>.inl (by rw[zE.1 u];simp[ai])) (fun c u=>.inl u),J,?_,fun E=>?_⟩;rw[Bool.eq_iff_iff,yN,yN];constructor;intro Q;exact .inr ⟨c4,Q⟩;rintro (Q|Q);exact absurd Q.1 R;exact Q.2;rw[if_neg R];exact hn (zC E);have R:=zR.1 R;have c4:=zR.1 c4;refine⟨fU,[],iY,h,.zero _ _,fun _ h=>(nomatch h),?_,fun E=>nomatch E⟩;rw[zU];rintro (Q|Q);exact R Q.1;exact c4 Q.1;rintro O aM ⟨x,B,n,h,hN,J,aa,hn⟩;have aB:O=true->n.J3.length<=1000000/\n.J7.length<=1000000/\n.J6.length<=1000000:=fun E=>by
  rw[hn E];split
  have:=DG (k:=k) (v:=v) (fY b) (b.drop 2)
  unfold nh;dsimp only;rw[this.1,this.2];simp;omega;unfold lL;dsimp only;rw[Ie,HR];simp;omega
 refine iQ (fun d w'=>d = !(O&&decide (fZ n k v))/\dR [] w w' [(ad,.cells (eV x) ND (0,0)),(r1,.cells (eV fU) ND (0,0))]/\fI (List.range ah.heap.size++B) w' x n B) ?_ ?_;apply eH<;>intro C;have C:O=false:=(oP C);exact⟨by rw[C];rfl,h,hN⟩;have C:O=true:=(oP C);obtain⟨q1,q2,q3⟩:=aB C;refine oC h 0 rfl x rfl ?_;have aN:eO [] aM x n:=hN.rd (fun _ _ h=>(nomatch h)) fun _ h=>nomatch h;exact qrC (x:=x) aN q1 q2 q3 fun a5 aC=>⟨by rw[C,Bool.true_and],h.q7 aC,hN.q7 aC⟩;rintro d a6 ⟨rfl,h,hN⟩;have G:i7 kind b k v=if (O&&decide (fZ n k v))=true then (n,0) else (iY,2):=by
  by_cases k3:kind=3;subst k3;rw[qxB U];have e:O=decide ((b.drop 2).length=fY b*(k+v)):=(by rw[aa];exact decide_eq_decide.2 ⟨fun h=>h.elim (·.2) fun h=>absurd h.1 oM,fun h=>.inl ⟨rfl,h⟩⟩);by_cases E:O=true;have ab:=hn E;rw[if_pos rfl] at ab;rw[ab,E,Bool.true_and];have hl:(b.drop 2).length=fY b*(k+v):=zC (e▸E);by_cases hr:fZ (nh k v b) k v;rw[if_pos ⟨hl,hr⟩,if_pos (yA hr)];rw[if_neg fun h=>hr h.2,if_neg (by rw[zU hr];decide)];have ac:O=false:=(oP E);rw[ac,Bool.false_and,if_neg (show ¬(false=true) by decide)];have hl:¬(b.drop 2).length=fY b*(k+v):=zB (e▸ac);rw[if_neg fun h=>hl h.1];by_cases k4:kind=4;subst k4;rw[qvR U];have e:O=decide (1<=fY b/\(b.drop 2).length=fY b*4+(fY b-1)*k):=(by rw[aa];exact decide_eq_decide.2 ⟨fun h=>h.elim (fun h=>absurd h.1 oM) (·.2),fun h=>.inr ⟨rfl,h⟩⟩);by_cases E:O=true;have ab:=hn E;rw[if_neg k3] at ab;rw[ab,E,Bool.true_and];have hl:=zC (e▸E);by_cases hr:fZ (lL k b) k v;rw[if_pos ⟨hl,hr⟩,if_pos (yA hr)];rw[if_neg fun h=>hr h.2,if_neg (by rw[zU hr];decide)];have ac:O=false:=(oP E);rw[ac,Bool.false_and,if_neg (show ¬(false=true) by decide)];have hl:=zB (e▸ac);rw[if_neg fun h=>hl h.1];rw[qxA k3 k4];have E:O=false:=by rw[aa,zU];rintro (h|h);exact k3 h.1;exact k4 h.1
  rw[E,Bool.false_and,if_neg (show ¬(false=true) by decide)]
 have aO:∀c∈B,c∉[r1]:=fun c u hm=>by have:=J c u;rw[zE.1 hm] at this;omega
 apply eH<;>intro C;refine ar ?_ (h.sub (sublist_cons_self _ _));rw[G,if_neg (by rw[zT] at C;rw[C];decide)];rw[yE] at C;refine oC h 0 rfl x rfl<|oD h 1 rfl (eV x) fun aP aD aQ=>oC aD 1 rfl x rfl ?_;rw[if_pos C] at G
 have:=kk x B aP (by rw[G];exact (hN.q8 aQ aO (fun c u=>.inl (by rw[zE.1 u];simp[ay])) (fun c u=>.inl u)).j4 fun c u=>.inl (by rcases zD.1 u with u|u;exact zH _ (mem_range.2 (yD (mem_range.1 u) az));exact zI _ u)) aD.fr (fun c u=>zL az (J c u))
 rw[G] at this;exact this
end
end
section
section
variable {D D':dM} {M:eQ} {y5 Q6:List Int} {t:Int} {ov:Bool}
end
end
end
section
open Go Go.Pt List
open Go.IntKind (wrap)
open Classical
attribute [local irreducible] ld dK ic nK jx eT st new idx jK jF fV jI jl mp gK nn call dW inv run fl jf join loop held ext kW eU m8 nQ nT IntKind.wrap
end
section
open Go Go.Pt List
open Go.IntKind (wrap)
variable {db:Option Addr} {w:World}
def wG{cl:List Cell}{b off:Nat}{cs:Array Value}{T:TypeId}{h:Nat×Nat}{K:HL cl->Prop}(u:w.heap[b]?=some (.cells cs T h))(x:HL cl)(C:(cs.toList.drop off).take cl.length=HL.mk cl x)(k:K x):Pt.dK cl (dc b off) w K:=
 ⟨x,uS u _ off 0 (by rw[HL.j1];exact C),k⟩
attribute [local irreducible] ld dK ic nK jx eT st new idx jK jF fV jI jl mp gK nn call dW inv run fl jf join loop held ext kW eU m8 nQ nT IntKind.wrap
def pu.u7{w':World}{X:List Nat}{pb:Nat}{M:eQ}{fb defb mb:Nat}{sl sn:Sl}{F1 F2:List Nat}{C:List (Int×lS)}{J9:List Int}(h:pu w X pb db M fb defb mb sl sn F1 F2 C)(E:J9.length=24)(G:w'.heap[pb]?=some (.cells (gx db M.j7 sl sn M.Q9 M.Q0 fb defb mb J9) tJ (0,0)))(f:Fr [pb] w w'):pu w' X pb db { M with J9:=J9 } fb defb mb sl sn F1 F2 C where
 cell:=G
 J8:=h.J8.q8 f fun b u=>by simpa using (h.sep.2.1 b u).1
 J4:=h.J4.q8 f fun b u=>by simpa using (h.sep.2.2 b u).1
 map:=h.map.q8 f (by simpa using fun e=>h.sep.1 e.symm)
 J5:=h.J5
 rows:=h.rows.q8 (f.mono fun i I _=>by rw[zE.1 I];simp) fun b u=>.inl u
 qM:=fun b u=>yD (h.qM b u) f.size
 nM:=h.nM
 sep:=h.sep
 Q5:=h.Q5
 x4:=E
def qvL{j7:p6}{sl sn:Sl}{Q9:Int}{Q0:Bool}{fb defb mb:Nat}{J9:List Int}(G:j7.2.length=27)(O:J9.length=24){t:Nat}(Q:t<8){h r1 C:Int}: dT (gx db j7 sl sn Q9 Q0 fb defb mb J9) (36+3*t) [.u h,.u r1,.u C]=gx db j7 sl sn Q9 Q0 fb defb mb (J9.take (3*t)++[h,r1,C]++J9.drop (3*t+3)):=by
 have E:J9=J9.take (3*t)++(J9.drop (3*t)).take 3++J9.drop (3*t+3):=by rw[zV,<- xD,xE,xE]
 have:=uu (A:=(.pointer db::fR j7.1 j7.2)++nU sl sn Q9 Q0 fb defb mb++(J9.take (3*t)).map (Value.int .u32)) (X:=((J9.drop (3*t)).take 3).map (Value.int .u32)) (Y:=[.u h,.u r1,.u C]) (Z:=(J9.drop (3*t+3)).map (Value.int .u32)) (by rw[zK,yL,yC];show min 3 _=3;omega)
 have I:((.pointer db::fR j7.1 j7.2)++nU sl sn Q9 Q0 fb defb mb++(J9.take (3*t)).map (Value.int .u32)).length=36+3*t:=(by rw[zF,zF,tt G,zK,yL];show 29+7+_=_;omega);rw[I] at this;unfold gx;have J:J9.map (Value.int .u32)=(J9.take (3*t)).map (Value.int .u32)++((J9.drop (3*t)).take 3).map (Value.int .u32)++(J9.drop (3*t+3)).map (Value.int .u32):=(by rw[<- xN,<- xN,<- E]);rw[J];simp only[xN,xO,map_nil];simp only[zV] at this⊢;exact this
section
variable {w:World} {X:List Nat} {pb:Nat} {db:Option Addr} {F:List Nat} {M:eQ}
def qtd{t E r1 G:Int}{K:Int->WP}(h:fP w X pb db F M)(hk:∀w',fP w' X pb db F (fv M t E r1 G).2->Fr F w w'->K (fv M t E r1 G).1 w'): cW 155 [dH pb,.i t,.agg #[.u E,.u r1,.u G]] de w K:=by
 have h0:=h;obtain⟨fb,defb,mb,sl,sn,F1,F2,fs,rfl,J⟩:=h;refine qhE ?_;have I:∀ {e:Int} {w':World},fv M t E r1 G=(e,M)->Fr [] w w'->K e w':=by
  intro e w' he hf
  have:=hk w' (by rw[he];exact h0.q7 hf) (hf.mono (fun b O=>by cases O))
  rw[he] at this;exact this
 refine oB (oE [] w) fun r w1 e1 f1 ho=>?_;have Q:=J.q7 f1;refine gI (jM Q.cell M.Q0 (De J.Q5) ?_);refine eH (fun C=>I (by rw[fv,if_pos C]) f1) (fun C=>?_);have R:¬M.Q0=true:=(by rw[C];decide);refine iQ (fun b w'=>b=decide (t<0\/t>7)/\w'=w1) ?_ ?_;refine eH (fun C=>⟨by rw[yA (Or.inl (zC C))],rfl⟩) (fun C=>?_)
 have:=zB C
 refine⟨decide_eq_decide.2 ⟨fun h=>.inr oJ,fun h=>oJ⟩,rfl⟩;rintro b w2 ⟨rfl,rfl⟩;refine eH (fun C=>I (by rw[fv,if_neg R,if_pos (zC C)]) f1) (fun C=>?_);have hr:=zB C;obtain⟨n,rfl⟩:∃n:Nat,t=n:=⟨t.toNat,oJ⟩;have ab:n<8:=oJ;have U:fv M n E r1 G=(0,{ M with J9:=M.J9.take (3*n)++[E,r1,G]++M.J9.drop (3*n+3) }):=(by rw[fv,if_neg R,if_neg hr,zJ]);have ac:=ho.drew;have V:=Q.q7 (Fr.refl [] w2).drew;refine oC ac 0 rfl (E,r1,G) rfl<|gI<|me oJ ?_;simp only[Addr.q9,zJ];refine tk V.cell (gx db M.j7 sl sn M.Q9 M.Q0 fb defb mb (M.J9.take (3*n)++[E,r1,G]++M.J9.drop (3*n+3))) (by show dT _ (0+33+3+n*3) _=_;rw[show 0+33+3+n*3=36+3*n by omega];exact qvL J.Q5 J.x4 ab) rfl (by rw[quD J.Q5,J.x4];exact zL (show 0+33+3+n*3+3<=60 by omega) (zM 60)) fun w3 ad f3=>?_;have hl:(M.J9.take (3*n)++[E,r1,G]++M.J9.drop (3*n+3)).length=24:=by
  have:=J.x4
  simp only[zF,yL,yC,yI,xK];omega
 have:=hk w3 (by rw[U];exact⟨fb,defb,mb,sl,sn,F1,F2,fs,rfl,V.u7 hl ad f3⟩) ((f1.drew.mono fun b O=>nomatch O).trans (f3.mono fun b O _=>by rw[zE.1 O];simp))
 rw[U] at this;exact this
def eE (M:eQ) (t:Int):Int×Int×Int:=if t<0\/t>7 then (0,0,0) else (M.J9.getD (3*t.toNat) 0,M.J9.getD (3*t.toNat+1) 0,M.J9.getD (3*t.toNat+2) 0)
def qx8{t:Int}{K:Int×Int×Int->WP}(h:fP w X pb db F M)(Q:∀w',Fr [] w w'->K (eE M t) w'): cW 85 [dH pb,.i t] [.agg [.u,.u,.u]] w K:=by
 obtain⟨fb,defb,mb,sl,sn,F1,F2,fs,rfl,I⟩:=h;refine qj3<|oB (oE [] w) fun r w1 e1 U R=>?_;have J:=I.q7 U;refine iQ (fun b w'=>b=decide (t<0\/t>7)/\w'=w1) ?_ ?_;refine eH (fun E=>⟨by rw[yA (Or.inl (zC E))],rfl⟩) (fun E=>?_)
 have:=zB E
 refine⟨decide_eq_decide.2 ⟨fun h=>.inr oJ,fun h=>oJ⟩,rfl⟩;rintro b w2 ⟨rfl,rfl⟩;apply cD<;>intro E;refine oD R 0 rfl #[.u 0,.u 0,.u 0] fun O C V=>oC C 0 rfl (0,0,0) rfl ?_
 have:=Q O C.fr
 rw[eE,if_pos (E)] at this;exact this;have hr:=E;obtain⟨n,rfl⟩:∃n:Nat,t=n:=⟨t.toNat,oJ⟩;have ab:n<8:=oJ;have ac:=I.x4;refine gI<|me oJ ?_;simp only[Addr.q9,zJ];have e3:((M.J9.map (Value.int .u32)).drop (3*n)).take 3=[.u (M.J9.getD (3*n) 0),.u (M.J9.getD (3*n+1) 0),.u (M.J9.getD (3*n+2) 0)]:=by rw[zY (by rw[zK];omega),zY (by rw[zK];omega),zY (by rw[zK];omega)];simp only[take_succ_cons,take_zero,getElem_map];rw[getElem_eq_getD 0,getElem_eq_getD 0,getElem_eq_getD 0]
 refine wG J.cell (M.J9.getD (3*n) 0,M.J9.getD (3*n+1) 0,M.J9.getD (3*n+2) 0) ?_ ?_;have hd:=qyZ (db:=db) (j7:=M.j7) (sl:=sl) (sn:=sn) (Q9:=M.Q9) (Q0:=M.Q0) (fb:=fb) (defb:=defb) (mb:=mb) (J9:=M.J9) I.Q5 I.x4;have G:(gx db M.j7 sl sn M.Q9 M.Q0 fb defb mb M.J9).toList.drop 36=M.J9.map (Value.int .u32):=by
  rw[<- hd,zS]
  have:=quD (db:=db) (j7:=M.j7) (sl:=sl) (sn:=sn) (Q9:=M.Q9) (Q0:=M.Q0) (fb:=fb) (defb:=defb) (mb:=mb) (J9:=M.J9) I.Q5
  rw[yC,Array.length_toList];omega
 rw[show 0+33+3+n*3=36+3*n by omega,<- xD,G];exact e3;refine oD R 0 rfl #[.u (M.J9.getD (3*n) 0),.u (M.J9.getD (3*n+1) 0),.u (M.J9.getD (3*n+2) 0)] fun O C V=>oC C 0 rfl (M.J9.getD (3*n) 0,M.J9.getD (3*n+1) 0,M.J9.getD (3*n+2) 0) rfl ?_
 have:=Q O C.fr
 rw[eE,if_neg hr,zJ] at this;exact this
end
def qwg{dbk pb:Nat}{X FD F:List Nat}{D:dM}{M:eQ}{k:Nat}{n:Int}{K:Int×Sl×Int->WP}(aa:fu w dbk FD D)(R:mH D k)(U:fP w X pb (sD dbk M) F M)(hv:Hv w)(hn:iy n)(hl:M.Q2.length<=1000000)(hb:∀e∈M.J5,e.2.2.length<=100000)(hk:∀s w',(∀G:List Nat,(∀b∈G,b<w.heap.size)->eF G w' s (dJ D M n).2.1)->Fr [] w w'->K ((dJ D M n).1,s,(dJ D M n).2.2) w'): cW 127 [dH pb,.u n] dj w K:=by
 have ab:=U;obtain⟨fb,defb,mb,sl,sn,F1,F2,fs,rfl,V⟩:=U;refine qj1 ?_;have ac:∀ {a:Int} {e:Int} {w':World},dJ D M n=(a,[],e)->Fr [] w w'->K (a,dI,e) w':=fun he f=>by
  have:=hk dI _ (fun G hG=>by rw[he];exact .nil _ _ _ _) f
  rw[he] at this;exact this
 refine gI (jM V.cell M.Q0 (De V.Q5) ?_);refine eH (fun I=>ac (by rw[dJ,if_pos I]) (.refl _ _)) (fun I=>?_);have J:¬M.Q0=true:=(by rw[I];decide);have an:sD dbk M=pW dbk:=if_neg J;refine gI ?_;simp only[Addr.q9];refine jM V.cell (some mb) (wm V.Q5) ?_;have h:look n M.J5=(look n fs).map fun q=>(q.1,q.2.1,q.2.2.2):=(by rw[V.J5];exact Ah (fun e:lS=>(e.1,e.2.2)) n fs);refine DK V.map.at (fun q hq=>?_) (fun hq=>?_);rw[hq] at h;have h:look n M.J5=some (q.1,q.2.1,q.2.2.2):=h;refine oB (oE [] w) fun r w1 e1 f1 ho=>oD ho 0 rfl #[.b q.2.1,q.2.2.1.v] fun w2 Q f2=>?_;have O:=Q.drew;refine cond_true rfl<|oA O 0 rfl q.2.1 rfl<|oA O 0 rfl q.2.2.1 rfl ?_;have ap:=(uX hq).2;have aq:=V.rows.y8 _ ap;have af:=(uX h).2;refine AX (aq.q7 O.fr) (zL (hb _ af) oM) fun s2 B2 w3 b2 f3 n2 _ _=>?_;have ag:=O.q7 f3;refine iM (ag.cell 0 rfl rfl) ?_;have C:dJ D M n=(q.2.1,q.2.2.2,0):=by rw[dJ,if_neg J,h]
 have:=hk s2 w3 (fun G hG=>by rw[C];exact eZ.kF lZ b2 fun b hb hm=>by have:=n2 b hb;have:=hG b hm;have:=O.fr.size;omega) ag.fr
 rw[C] at this;exact this;rw[hq] at h;have h:look n M.J5=none:=h;refine oB (oE [] w) fun r w1 e1 f1 ho=>oD ho 0 rfl #[.b 0,.slice none 0 0] fun w2 Q f2=>cond_false rfl<|qry (ab.q7 Q.fr) hl fun w3 f3=>?_;have E:=Q.fr.trans f3;have ah:=V.q7 E;apply eH<;>intro I;have hu:gU M n=false:=(oP I);exact ac (by rw[dJ,if_neg J,h];exact if_pos hu) E;have hu:¬gU M n=false:=(oP I);rw[an] at ah;refine gI (jM ah.cell (pW dbk) qBL ?_);rw[gd n (by have:=hn.1;have:=hn.2;omega)];refine EA (aa.q7 E) R.ok fun s5 B5 w5 b5 f5 n5=>?_;apply eH<;>intro I;have he:(eK D n).2≠0:=(oP I);exact ac (by rw[dJ,if_neg J,h];exact (if_neg hu).trans (if_pos he)) (E.trans f5);have he:¬(eK D n).2≠0:=(oP I);have av:=wV R.ok n;refine Hd (b5.kF lZ (S:=[]) oL) (hv.q7 (E.trans f5)) av.1 oJ fun s6 B6 w6 b6 f6 n6=>?_;have C:dJ D M n=fw n (eK D n).1:=by rw[dJ,if_neg J,h];exact (if_neg hu).trans (if_neg he)
 have:=hk s6 w6 (fun G hG=>by rw[C];exact eZ.kF lZ b6 fun b hb hm=>by have:=n6 b hb;have:=hG b hm;have:=(E.trans f5).size;omega) ((E.trans f5).trans f6)
 rw[C] at this;exact this
end
section
open Go Go.Pt List
open Go.IntKind (wrap)
def mH.new{n:Nat}(h:n<=4096):mH (nS n) 0:=⟨qAk h,by simp[nS],by simp[nS]⟩
def ur (n:Nat):List Int:=(fX n).take (gG (fX n).length)
def oq (n:Nat):List Int:=(fX n).drop (gG (fX n).length)
def nf (n:Nat):eQ:=kP (lf n) (ur n) (oq n) 1 false (oq n)
def qAh{n:Nat}(h:8<=n)(u:n<=4096):(nf n).Wf:=by have e:(lf n).2.getD 0 0=n:=(by show wrap .u32 (n:Int)=_;exact pa _ oJ);exact qym (by rw[e];exact qn5) (by rw[e];omega) (Ig h u).u32
structure Made (D:dM) (n:Nat):Prop where
 quiet:fj D
 size:D.size=n
 Q4:D.Q4=[]
 opens:qg D (lf n) (ur n) (oq n)
 fmt:mc (nS n)=(D,0)
 zero:view D 0=zs 512
end
section
open Go Go.Pt List
open Go.IntKind (wrap)
open Classical
variable {P:List Int} {t:Int}
def lg (t:Int) (s:(Int×Int)×eQ) (u h:Int):Int×eQ:=if s.1.2≠0 then (s.1.2,s.2) else fv s.2 t s.1.1 u h
noncomputable def tr (k v:Nat) (t:Int) (r:Int×Int×Int) (x:(Grown×Int)×eQ):Int×eQ:=
 if x.1.2≠0 then (x.1.2,x.2)
 else if x.1.1.Q7≠0 then lg t (dS k v x.2 0 ⟨false,[x.1.1.key],[],[x.1.1.Q8,x.1.1.Q7]⟩) (if x.1.1.J5 then wrap .u32 (r.2.1+1) else r.2.1) (wrap .u32 (r.2.2+1))
 else fv x.2 t x.1.1.Q8 (if x.1.1.J5 then wrap .u32 (r.2.1+1) else r.2.1) r.2.2
noncomputable def kc (D:dM) (k v:Nat) (t:Int) (key val:Key) (f:Nat) (M:eQ):Int×eQ:=
 if (eE M t).1=0 then lg t (dS k v M 0 (eh [(key,val)])) 1 1 else tr k v t (eE M t) (iF D k v key val f M (eE M t).1)
noncomputable def mW (k v:Nat) (t:Int) (r:Int×Int×Int) (x:(dN×Int)×eQ):Int×eQ:=
 if x.1.2≠0 then (x.1.2,x.2)
 else if x.1.1.Q1=true/\x.1.1.J3.length=0 then (if (fL x.2 r.1).1≠0 then ((fL x.2 r.1).1,(fL x.2 r.1).2) else fv (fL x.2 r.1).2 t 0 0 0)
 else if x.1.1.Q1=false/\x.1.1.J6.length=1 then (if (fL x.2 r.1).1≠0 then ((fL x.2 r.1).1,(fL x.2 r.1).2) else fv (fL x.2 r.1).2 t (x.1.1.J6.getD 0 0) (wrap .u32 (r.2.1-1)) (wrap .u32 (r.2.2-1)))
 else lg t (dS k v x.2 r.1 x.1.1) (wrap .u32 (r.2.1-1)) r.2.2
noncomputable def lA (D:dM) (k v:Nat) (t:Int) (key:Key) (f:Nat) (M:eQ):Int×eQ:=mW k v t (eE M t) (iL D k v key f M (eE M t).1)
def gQ (D:dM) (M:eQ) (k v:Nat) (t:Int) (L:gu) (P:List Int):Prop:=
 (eE M t=(0,0,0)/\L=[]/\P=[])\/∃h n p,p≠0/\eE M t=(p,(L.length:Int),((h+1:Nat):Int))/\Has D M k v h ⟨p,n,L,P⟩
structure qP (D:dM) (M M':eQ) (t:Int) (P P':List Int):Prop where
 step:Step D M { M' with J9:=M.J9 } P P'
 wf:M'.Wf
 len:M'.J9.length=24
 others:∀ t':Int,t'≠t->eE M' t'=eE M t'
section
variable {D:dM} {M M':eQ} {k v:Nat}
def qy9{a b c:Int}(O:0<=t/\t<8)(G:M.Q0=false)(Q:M.J9.length=24):∃R,fv M t a b c=(0,{ M with J9:=R })/\R.length=24/\eE { M with J9:=R } t=(a,b,c)/\(∀C:Int,C≠t->eE { M with J9:=R } C=eE M C)/\∀x∈R,x∈M.J9\/x=a\/x=b\/x=c:=by
 obtain⟨n,rfl⟩:∃n:Nat,t=n:=⟨t.toNat,oJ⟩;have U:n<8:=oJ;have e:fv M n a b c=(0,{ M with J9:=M.J9.take (3*n)++[a,b,c]++M.J9.drop (3*n+3) }):=by rw[fv,if_neg (by rw[G];decide),iN,zJ]
 have I:(M.J9.take (3*n)).length=3*n:=(by rw[yL];omega);have h:∀i,(M.J9.take (3*n)++[a,b,c]++M.J9.drop (3*n+3)).getD i 0=if i=3*n then a else if i=3*n+1 then b else if i=3*n+2 then c else M.J9.getD i 0:=fun i=>by rw[zV,yR];by_cases h1:i<3*n;rw[yZ oJ,xB,if_pos h1,iN,iN,iN,yR];rw[yY oJ,I];by_cases h2:i=3*n;rw[if_pos h2,h2,Nat.sub_self];rfl;rw[if_neg h2];by_cases h3:i=3*n+1;rw[if_pos h3,h3,show 3*n+1-3*n=1 by omega];rfl;rw[if_neg h3];by_cases h4:i=3*n+2;rw[if_pos h4,h4,show 3*n+2-3*n=2 by omega];rfl;rw[if_neg h4,yY oO,xA,yR];congr 2;simp;omega
 refine⟨_,e,?_,?_,fun C E=>?_,fun x u=>?_⟩;simp only[zF,yL,yC,yI,xK];omega;rw[eE,iN,zJ];dsimp only;rw[h,h,h,if_pos rfl,iN,if_pos rfl,iN,iN,if_pos rfl];unfold eE;by_cases hr':C<0\/C>7;rw[if_pos hr',if_pos hr'];rw[if_neg hr',if_neg hr'];dsimp only;have J:C.toNat≠n:=fun e=>E oJ;rw[h,h,h,iN,iN,iN,iN,iN,iN,iN,iN,iN];rcases zD.1 u with u|u;rcases zD.1 u with u|u;exact .inl (yV u);simp only[zG,xX,or_false] at u;exact .inr u;exact .inl (yU u)
def qs7{R:List Int}(h:M.Wf)(u:∀x∈R,iy x):({ M with J9:=R }:eQ).Wf:=⟨h.n4,h.u32,u,h.cM,h.Q6,h.cT,h.sd,h.nodup,h.range,h.body⟩
def Has.J9{h:Nat}{s:iO}{R:List Int}(u:Has D M k v h s):Has D { M with J9:=R } k v h s:=u.q8 fun x _=>rfl
def Step.J2{P':List Int}{a b c:Int}(E:0<=t/\t<8)(G:M.J9.length=24)(h:Step D M M' P P')(I:iy a)(J:iy b)(O:iy c): ∃R,fv M' t a b c=(0,{ M' with J9:=R })/\qP D M { M' with J9:=R } t P P'/\eE { M' with J9:=R } t=(a,b,c):=by obtain⟨R,e,Q,U,V,h3⟩:=qy9 (a:=a) (b:=b) (c:=c) E h.Q0 (by rw[h.J9];exact G);refine⟨R,e,⟨?_,qs7 h.wf fun x hx=>?_,Q,fun t' C=>?_⟩,U⟩;have e':({ M' with J9:=M.J9 }:eQ)=M':=(by rw[<- h.J9]);show Step D M { M' with J9:=M.J9 } P P';rw[e'];exact h;rcases h3 x hx with u|u|u|u;exact h.wf.J9 x u;rw[u];exact I;rw[u];exact J;rw[u];exact O;rw[V t' C];unfold eE;rw[h.J9]
def Has.counts:∀ {h:Nat} {s:iO},Has D M k v h s->h+1<=s.x9.length/\s.y5.length+1<=2*s.x9.length
 | 0,s,C=>by have I:=length_pos_iff.2 C.ne;rw[C.1];simp;omega
 | h+1,s,⟨E,V,I,J,O,Q,h5,h6,R⟩=>by
  have U:=Q.right.x6.1;rw[J,O];have key:∀l:List io,(∀e∈l,Has D M k v h e.2)->l.length*(h+1)<=(l.flatMap (·.2.x9)).length/\(l.flatMap (·.2.y5)).length+l.length<=2*(l.flatMap (·.2.x9)).length:=by
   intro l;induction l with
   | nil=>intro _;exact⟨oL,oL⟩
   | cons a l ih=>
    intro G;have i:=ih fun e u=>G e (zN _ u);have j:=(G a oL).counts;rw[yH,yH,zF,zF,yI,xU];omega
  have:=key E fun e u=>(R e u).1
  have h9:2*(h+1)<=E.length*(h+1):=Nat.mul_le_mul_right _ U;rw[yI];omega
def qw2(hc:iG k v){key val:Key}{L:gu}(ht:0<=t/\t<8)(hk:key.length=k/\eS key)(hv:val.length=v/\eS val)(hT:gQ D M k v t L P)(hW:M.Wf)(ho:M.Q0=false)(hr:M.J9.length=24)(hn:P.Nodup)(hL:L.length<=1000000)(hf:2*(eE M t).2.2.toNat+1<=M.J8.length): ∃M' P',kc D k v t key val (eE M t).2.2.toNat M=(0,M')/\gQ D M' k v t (gj key val L) P'/\qP D M M' t P P'/\M.J8.length<=M'.J8.length+(2*(eE M t).2.2.toNat+1):=by
 have aY:=Ch (k:=k) (v:=v);rcases hT with ⟨e0,rfl,rfl⟩|⟨h,n,p,aJ,er,hs⟩;unfold kc;rw[e0,if_pos rfl];have aK:mO k v [(key,val)]:=fun x hx=>by rw[zE.1 hx];exact⟨hk.1,hv.1,hk.2,hv.2⟩
 have hN:=Cv (k:=k) (v:=v) aK (pairwise_singleton _ _) oL (by have:=hc.Q1;simp;omega);obtain⟨q,M1,e1,st,ae,hl,af⟩:=Gm (D:=D) hW ho hN (fun e=>by rw[e] at hf;simp at hf);have hu:=st.has q oL;have hq:=vg st.wf hu;obtain⟨R,e2,rs,C⟩:=st.J2 (a:=q) (b:=1) (c:=1) ht hr ⟨oJ,hq.2⟩ ⟨oM,oM⟩ ⟨oM,oM⟩;refine⟨{ M1 with J9:=R },[q],?_,.inr ⟨0,1,q,af,C,?_⟩,rs,by show M.J8.length<=M1.J8.length+_;omega⟩;unfold lg;rw[e1];dsimp only;rw[if_neg (fun h=>h rfl),e2]
 have:=CY hN ae
 exact this.J9;rw[er] at hf;have an:(((h+1:Nat):Int)).toNat=h+1:=zJ _;dsimp only at hf;rw[an] at hf;have ao:=hs.counts;dsimp only at ao;obtain⟨g,M1,eg,ok⟩:=quK hc hk hv h M ⟨p,n,L,P⟩ hs hW ho hn (by
  have h9:=hs.load;obtain⟨N,R,_,hN,_⟩:=h9;show n<=1000;cases h with
  | zero=>have:=hN.2.2.2.2.2;dsimp only at this;omega
  | succ h=>obtain⟨_,_,_,_,_,_,_,_,h8,_⟩:=hN;dsimp only at h8;omega) oJ
 have ap:=ok.J8;have E:=ok.J5;dsimp only at eg E;have u:((gj key val L).length:Int)=if g.J5 then wrap .u32 ((L.length:Int)+1) else (L.length:Int):=by rw[E];by_cases hm:key∈dU L;rw[zU (fun h=>h hm),if_neg oM,DC hs.sort hm];rw[yA hm,if_pos rfl,E3 hm,pa _ oJ];omega
 have aq:iy (if g.J5 then wrap .u32 ((L.length:Int)+1) else (L.length:Int)):=by
  rw[<- u];have h1:(gj key val L).length<=L.length+1:=by by_cases hm:key∈dU L;rw[DC (show fH L from hs.sort) hm];omega;rw[E3 hm];exact zM _
  exact⟨oJ,oJ⟩
 unfold kc;rw[er,if_neg (show ¬p=0 from aJ)];dsimp only;rw[an,eg];unfold tr;dsimp only;rw[if_neg (fun h=>h rfl)];rcases ok.Ek with ⟨ah,n',P',hH,st,_⟩|⟨ah,n1,Q,I,n2,J,G,U,V,ar,aP,aQ,au,av,aR,aT,st⟩;rw[if_neg (fun h=>h ah)];have hu:=hH.J1 st.Q0 g.Q8 hH.mem;have hq:=vg st.wf hu;obtain⟨R,e2,rs,C⟩:=st.J2 (a:=g.Q8) (b:=if g.J5 then wrap .u32 ((L.length:Int)+1) else (L.length:Int)) (c:=((h+1:Nat):Int)) ht hr ⟨oJ,hq.2⟩ aq ⟨oJ,oJ⟩;rw[<- u] at C e2;refine⟨{ M1 with J9:=R },P',?_,.inr ⟨h,n',g.Q8,oJ,C,hH.J9⟩,rs,by show M.J8.length<=M1.J8.length+_;omega⟩;rw[<- u];exact e2;rw[if_pos ah];have a4:=vg st.wf (U.J1 st.Q0 g.Q8 U.mem);have a5:=vg st.wf (V.J1 st.Q0 g.Q7 V.mem);have aw:Q≠[]:=U.ne;have ax:J≠[]:=V.ne;have ad:gh [([],(⟨g.Q8,n1,Q,I⟩:iO)),(g.key,⟨g.Q7,n2,J,G⟩)]:=
  (gh.zt (A:=[]) (B:=[]) (lo:=[]) (s:=⟨0,0,Q++J,[]⟩) (s1:=⟨g.Q8,n1,Q,I⟩) (s2:=⟨g.Q7,n2,J,G⟩) (m:=g.key) (FB fun x _=>Cw _) rfl aP aQ aw ax)
 have hp:∀e∈[([],(⟨g.Q8,n1,Q,I⟩:iO)),(g.key,⟨g.Q7,n2,J,G⟩)],Has D M1 k v h e.2/\minOf k v h<=e.2.size:=fun e O=>by simp only[zG,xX,or_false] at O;rcases O with rfl|rfl;exact⟨U,aR⟩;exact⟨V,aT⟩
 have aU:gV k [([],(⟨g.Q8,n1,Q,I⟩:iO)),(g.key,⟨g.Q7,n2,J,G⟩)]:=fun e O=>by rw[zE.1 (show e∈[(g.key,(⟨g.Q7,n2,J,G⟩:iO))] from O)];exact⟨au,av⟩
 have hN:=A4 st.wf st.Q0 aU ad oL (by have:=hc.inner;simp;omega) fun e O=>(hp e O).1;obtain⟨q,M2,e1,aa,ae,a6,af⟩:=Gm (D:=D) st.wf st.Q0 hN (fun e=>by rw[e] at ap;simp at ap;omega);have az:∀e∈[([],(⟨g.Q8,n1,Q,I⟩:iO)),(g.key,⟨g.Q7,n2,J,G⟩)],Has D M2 k v h e.2/\minOf k v h<=e.2.size:=fun e O=>
  ⟨(hp e O).1.q8 fun x hx=>(aa.rest x ((hp e O).1.J1 st.Q0 x hx) oL).1,(hp e O).2⟩
 have hI:=Be (h:=h) rfl hN ae ad az;have aA:Step D M1 M2 (I++G) (q::(I++G)):=by
  have:=aa.beside (Z:=I++G) st.has (oP st.nodup)
  exact this.perm oL perm_append_comm
 have aB:=st.trans aA;have hq:=vg aa.wf (aa.has q oL);obtain⟨R,e2,rs,C⟩:=aB.J2 (a:=q) (b:=if g.J5 then wrap .u32 ((L.length:Int)+1) else (L.length:Int)) (c:=((h+1+1:Nat):Int)) ht hr ⟨oJ,hq.2⟩ aq ⟨oJ,oJ⟩;have e3:dS k v M1 0 ⟨false,[g.key],[],[g.Q8,g.Q7]⟩=((q,0),M2):=e1;have aV:wrap .u32 ((((h+1:Nat):Int))+1)=((h+1+1:Nat):Int):=(by rw[pa _ oJ];omega);rw[<- u] at C e2;refine⟨{ M2 with J9:=R },q::(I++G),?_,.inr ⟨h+1,2,q,af,C,?_⟩,rs,by show M.J8.length<=M2.J8.length+_;omega⟩;unfold lg;rw[e3,aV,<- u];dsimp only;rw[if_neg (fun h=>h rfl),e2];have h9:=hI.J9 (R:=R);have e5:[([],(⟨g.Q8,n1,Q,I⟩:iO)),(g.key,⟨g.Q7,n2,J,G⟩)].flatMap (·.2.x9)=gj key val L:=(by rw[<- ar];simp);have e6:[([],(⟨g.Q8,n1,Q,I⟩:iO)),(g.key,⟨g.Q7,n2,J,G⟩)].flatMap (·.2.y5)=I++G:=oL;rw[e5,e6] at h9;exact h9
def qxD(hc:iG k v){key:Key}{L:gu}(ht:0<=t/\t<8)(hT:gQ D M k v t L P)(I:key∈dU L)(hW:M.Wf)(ho:M.Q0=false)(hr:M.J9.length=24)(hn:P.Nodup)(hL:L.length<=1000000)(hf:2*(eE M t).2.2.toNat+1<=M.J8.length): ∃M' P',lA D k v t key (eE M t).2.2.toNat M=(0,M')/\gQ D M' k v t (gR key L) P'/\qP D M M' t P P'/\M.J8.length<=M'.J8.length+(2*(eE M t).2.2.toNat+1):=by
 rcases hT with ⟨e0,rfl,rfl⟩|⟨h,n,p,a0,er,hs⟩;cases I;rw[er] at hf;have ap:(((h+1:Nat):Int)).toNat=h+1:=zJ _;dsimp only at hf;rw[ap] at hf;have aq:=hs.counts;dsimp only at aq;obtain⟨N,m,M1,R,R',ec,hP,hN,st,aG,a1⟩:=G5 hc h M ⟨p,n,L,P⟩ hs hW ho hn I oJ;dsimp only at ec hP;subst hP;have G:=hs.sort;dsimp only at G;have aU:(gR key L).length+1=L.length:=by
  have hm:=(Ag G).2 I;have hi:dP (dU L) key<L.length:=by
   have:=(zP.1 hm).1
   simpa using this
  rw[qnZ G I,zF,yL,yC];omega
 have aH:wrap .u32 ((L.length:Int)-1)=((gR key L).length:Int):=(by rw[pa _ oJ];omega);have ai:iy ((gR key L).length:Int):=⟨oJ,oJ⟩;have aj:dZ M p:=hs.J1 ho p oL;have ar:p∉R:=(nodup_cons.1 hn).1;have J:=(st.rest p aj ar).2.1;have O:=(st.rest p aj ar).2.2;have ak:Step D M M1 (p::R) (p::R'):=st.beside (Z:=[p]) (fun x hx=>by rw[zE.1 hx];exact aj) (oP hn);unfold lA;rw[er];dsimp only;rw[ap,ec];unfold mW;dsimp only;rw[if_neg (fun h=>h rfl),aH];have af:∀ {a b c:Int},iy a->iy b->iy c->∃u U,fL M1 p=(0,u)/\fv u t a b c=(0,{ u with J9:=U })/\qP D M { u with J9:=U } t (p::R) R'/\eE { u with J9:=U } t=(a,b,c)/\M1.J8.length<=u.J8.length/\∀x∈R',dJ D u x=dJ D M1 x:=fun ha hb aI=>by
  obtain⟨u,e2,C,V⟩:=qp5 (D:=D) st.wf st.Q0 J;have h9:=C.beside (Z:=R') (fun x hx=>st.has x hx) (by
   have:=ak.nodup
   exact (perm_append_singleton p R').nodup_iff.2 this)
  rw[xH] at h9;have h8:=(ak.perm (.refl _) (perm_append_singleton p R').symm).trans h9;obtain⟨U,e3,rs,E⟩:=h8.J2 (t:=t) ht hr ha hb aI;exact⟨u,U,e2,e3,rs,E,V,fun x hx=>(C.rest x (st.has x hx) (fun hm=>O (by rw[<- zE.1 hm];exact hx))).1⟩
 cases h with
 | zero=>
  have al:=hN;have aJ:R=[]:=(vC (show p::R=[p] from hs.1)).2;subst aJ;obtain⟨rfl,hm,rfl,a5,aK,au⟩:=hN;dsimp only at hm;have aa:(eh (gR key L)).J3.length=(gR key L).length:=zK _;by_cases hz:(gR key L).length=0;rw[if_pos ⟨rfl,by rw[aa];exact hz⟩];have av:gR key L=[]:=eq_nil_of_length_eq_zero hz;obtain⟨u,U,e2,e3,rs,E,V,_⟩:=af (a:=0) (b:=0) (c:=0) ⟨oM,oM⟩ ⟨oM,oM⟩ ⟨oM,oM⟩;rw[e2];dsimp only;rw[if_neg (fun h=>h rfl),e3];exact⟨_,[],rfl,.inl ⟨E,av,rfl⟩,rs,by show M.J8.length<=u.J8.length+_;omega⟩;rw[if_neg (fun h=>hz (by rw[<- aa];exact h.2)),if_neg (fun h=>nomatch h.1)];obtain⟨q,u,e2,C,H2,V⟩:=al.store st.wf st.Q0 (show 1<=m by omega) J O oJ;have am:Step D M u [p] [q]:=ak.trans C;have hq:=vg C.wf (C.has q oL);obtain⟨U,e3,rs,E⟩:=am.J2 (a:=q) (b:=((gR key L).length:Int)) (c:=((0+1:Nat):Int)) ht hr ⟨oJ,hq.2⟩ ai ⟨oM,oM⟩;refine⟨{ u with J9:=U },[q],?_,.inr ⟨0,m,q,oJ,E,H2.J9⟩,rs,by show M.J8.length<=u.J8.length+_;omega⟩;unfold lg;rw[e2];dsimp only;rw[if_neg (fun h=>h rfl),e3]
 | succ h=>
  have al:=hN;obtain⟨es,hh,rfl,hm,aM,rfl,hk,aK,au,hp⟩:=hN;have aa:(dO es).J6.length=es.length:=(by show (es.map _).length=_;rw[zK]);have aW:2<=n:=by
   obtain⟨a7,_,g1,_,_,g4,_⟩:=hs
   have:=g4.right.x6
   dsimp only at g1;omega
  dsimp only at aG;rw[if_neg (fun h=>nomatch h.1)];by_cases h1:es.length=1;rw[if_pos ⟨rfl,by rw[aa];exact h1⟩];obtain⟨e,rfl⟩:∃e,es=[e]:=by
   match es,h1 with
   | [e],_=>exact⟨e,rfl⟩
  have ax:(dO [e]).J6.getD 0 0=e.2.Q8:=rfl;rw[ax];have he:=(hp e oL).1;have hq:=vg st.wf (he.J1 st.Q0 e.2.Q8 he.mem);have aO:wrap .u32 ((((h+1+1:Nat):Int))-1)=((h+1:Nat):Int):=(by rw[pa _ oJ];omega);rw[aO];obtain⟨u,U,e2,e3,rs,E,V,aP⟩:=af (a:=e.2.Q8) (b:=((gR key L).length:Int)) (c:=((h+1:Nat):Int)) ⟨oJ,hq.2⟩ ai ⟨oJ,oJ⟩;rw[e2];dsimp only;rw[if_neg (fun h=>h rfl),e3];have ay:gR key L=e.2.x9:=(by rw[aM];simp);have az:[e].flatMap (·.2.y5)=e.2.y5:=oL;refine⟨_,_,rfl,.inr ⟨h,e.2.size,e.2.Q8,oJ,E,?_⟩,rs,by show M.J8.length<=u.J8.length+_;omega⟩;rw[ay,az];exact (he.q8 fun x hx=>aP x (by rw[az];exact hx)).J9;rw[if_neg (fun h=>h1 (by rw[<- aa];exact h.2))];have h2:2<=m:=oJ;obtain⟨q,u,e2,C,H2,V⟩:=al.store st.wf st.Q0 (show 2<=m from h2) J O oJ;have am:Step D M u (p::R) ([q]++es.flatMap (·.2.y5)):=Step.kid (Q:=[q]) (hs.J1 ho) hn st C;have hq:=vg C.wf (C.has q oL);obtain⟨U,e3,rs,E⟩:=am.J2 (a:=q) (b:=((gR key L).length:Int)) (c:=((h+1+1:Nat):Int)) ht hr ⟨oJ,hq.2⟩ ai ⟨oJ,oJ⟩;refine⟨{ u with J9:=U },[q]++es.flatMap (·.2.y5),?_,.inr ⟨h+1,m,q,oJ,E,H2.J9⟩,rs,by show M.J8.length<=u.J8.length+_;omega⟩;unfold lg;rw[e2];dsimp only;rw[if_neg (fun h=>h rfl),e3]
end
section
def qo0{D:dM}{M:eQ}{k v:Nat}{L:gu}(C:gQ D M k v t L P):(eE M t).2.2.toNat<=L.length/\P.length<=2*L.length/\(eE M t).2.1=L.length/\0<=(eE M t).2.2:=by
 rcases C with ⟨u,rfl,rfl⟩|⟨h,n,p,G,u,E⟩;rw[u];exact⟨zM _,zM _,rfl,Int.le_refl _⟩
 have:=E.counts
 dsimp only at this;rw[u];dsimp only;rw[zJ];omega
def gQ.sort{D:dM}{M:eQ}{k v:Nat}{t:Int}{L:gu}{P:List Int}(C:gQ D M k v t L P):fH L/\mO k v L:=by rcases C with ⟨_,rfl,_⟩|⟨h,n,p,G,I,u⟩;exact⟨.nil,fun x E=>nomatch E⟩;exact⟨u.sort,u.ya⟩
def qAv(h:BP t):∃k v:Nat,ue t=((k:Int),(v:Int))/\iG k v/\1<=k/\k<=24/\1<=v/\v<=108:=by obtain⟨u,C⟩:=h;have:t=0\/t=1\/t=2\/t=3\/t=4\/t=5\/t=6\/t=7:=oJ;rcases this with rfl|rfl|rfl|rfl|rfl|rfl|rfl|rfl;exact⟨16,88,rfl,⟨oM,oM⟩,oM,oM,oM,oM⟩;exact⟨16,108,rfl,⟨oM,oM⟩,oM,oM,oM,oM⟩;exact⟨16,1,rfl,⟨oM,oM⟩,oM,oM,oM,oM⟩;exact⟨16,16,rfl,⟨oM,oM⟩,oM,oM,oM,oM⟩;exact⟨24,16,rfl,⟨oM,oM⟩,oM,oM,oM,oM⟩;exact⟨24,16,rfl,⟨oM,oM⟩,oM,oM,oM,oM⟩;exact⟨24,65,rfl,⟨oM,oM⟩,oM,oM,oM,oM⟩;exact⟨1,8,rfl,⟨oM,oM⟩,oM,oM,oM,oM⟩
structure Am (D:dM) (M:eQ) (k v c:Nat) (t:Int) (L:gu) (P:List Int):Prop where
 j9:gQ D M k v t L P
 wf:M.Wf
 Q0:M.Q0=false
 len:M.J9.length=24
 nodup:P.Nodup
 Q6:M.x7
 many:M.Q6.length=c
 use:∀ x,dZ M x->x∈P
section
variable {D:dM} {M M':eQ} {k v c:Nat} {t:Int} {L L':gu} {P P':List Int}
end
def qxN{D:dM}{n k v:Nat}(U:0<=t/\t<8)(V:8<=n)(h4:n<=4096)(O:(nf n).Wf):Am D (nf n) k v ((n-2)-gG (n-2)) t [] []:=by
 have I:(nf n).J9=zs 24:=rfl;have u:(zs 24).length=24:=(by simp[zs]);have E:∀i,(zs 24).getD i 0=0:=fun i=>by rw[yR];unfold zs;rw[List.getElem?_replicate];split<;>rfl
 refine⟨.inl ⟨?_,rfl,rfl⟩,O,rfl,by rw[I];exact u,.nil,qte _ _ _ _ _,?_,fun x C=>?_⟩;unfold eE;split;rfl;rw[I,E,E,E];show (oq n).length=_;unfold oq;rw[yC,EJ];rcases C with C|C;cases C;obtain⟨Q,J,R,G,h5,_⟩:=tl.1 C;have e:(nf n).j7.2.getD 0 0=n:=(by show wrap .u32 (n:Int)=_;exact pa _ oJ);rw[e] at J;have h:=Eu.2 ⟨Q,J⟩;rw[<- xE (gG (fX n).length) (fX n)] at h;rcases zD.1 h with h|h;exact absurd h R;exact absurd h G
end
section
section
variable {D:dM} {M M':eQ} {k v c:Nat} {t:Int} {L L':gu} {P P':List Int}
def Has.sC(J:4<=(dY k v).1):∀ {h:Nat} {s:iO},Has D M k v h s->minOf k v h<=s.size->s.y5.length+1<=s.x9.length
 | 0,s,E,G=>by have I:(dY k v).1 / 2<=s.size:=G;rw[E.2.1] at I;rw[E.1,xM];omega
 | h+1,s,⟨O,h0,I,Q,R,u,h5,h6,U⟩,G=>by
  have h8:=u.right.x6.1;rw[Q,R];have key:∀l:List io,(∀e∈l,Has D M k v h e.2/\minOf k v h<=e.2.size)->(l.flatMap (·.2.y5)).length+l.length<=(l.flatMap (·.2.x9)).length:=by
   intro l;induction l with
   | nil=>intro _;simp
   | cons a l ih=>
    intro C;have i:=ih fun e V=>C e (zN _ V);have j:=Has.sC J (C a oL).1 (C a oL).2;rw[yH,yH,zF,zF,yI];omega
  have:=key O U
  rw[yI];omega
def Has.cR(G:4<=(dY k v).1){h:Nat}{s:iO}(u:Has D M k v h s):s.y5.length<=s.x9.length:=by
 cases h with
 | zero=>
  have:=length_pos_iff.2 u.ne
  rw[u.1,xM];omega
 | succ h=>
  obtain⟨I,U,V,J,O,C,h5,h6,Q⟩:=u;have h8:=C.right.x6.1;rw[J,O];have key:∀l:List io,(∀e∈l,Has D M k v h e.2/\minOf k v h<=e.2.size)->(l.flatMap (·.2.y5)).length+l.length<=(l.flatMap (·.2.x9)).length:=by
   intro l;induction l with
   | nil=>intro _;simp
   | cons a l ih=>
    intro E;have i:=ih fun e R=>E e (zN _ R);have j:=Has.sC G (E a oL).1 (E a oL).2;rw[yH,yH,zF,zF,yI];omega
  have:=key I Q
  rw[yI];omega
def gQ.cR(u:4<=(dY k v).1)(C:gQ D M k v t L P):P.length<=L.length:=by rcases C with ⟨E,rfl,rfl⟩|⟨h,n,p,I,E,G⟩;exact zM _;exact G.cR u
end
end
section
section
variable {D D':dM} {M M':eQ} {k v:Nat} {t:Int} {L:gu} {P:List Int}
def Has.cH:∀ {h:Nat} {s:iO},Has D M k v h s->(∀x∈s.y5,dJ D' M' x=dJ D M x)->Has D' M' k v h s
 | 0,s,⟨C,G,u,I⟩,E=>⟨C,G,u,by rw[E s.Q8 (by rw[C];simp)];exact I⟩
 | h+1,s,⟨Q,R,C,G,u,I,U,V,O⟩,E=>⟨Q,R,C,G,u,I,by rw[E s.Q8 (by rw[u];simp)];exact U,V,fun e J=>⟨(O e J).1.cH fun x hx=>E x (by rw[u];exact zN _ (yK.2 ⟨e,J,hx⟩)),(O e J).2⟩⟩
structure Calm (D:dM) (M:eQ) (b q:Nat):Prop where
 quiet:fj D
 Q4:D.Q4=[]
 size:D.size=b
 blocks:M.j7.2.getD 0 0=b
 b8:8<=b
 wf:M.Wf
 Q6:M.x7
 Q0:M.Q0=false
 len:M.J9.length=24
 seq:0<=M.j7.1/\M.j7.1<=q
 Q9:0<=M.Q9/\M.Q9<=q
structure Kept (D:dM) (M:eQ) (D':dM) (M':eQ):Prop where
 J9:M'.J9=M.J9
 use:∀ x,dZ M' x↔dZ M x
 read:∀ x,dZ M x->dJ D' M' x=dJ D M x
end
end
end
section
open Go Go.Pt List
open Go.IntKind (wrap)
attribute [local irreducible] ld dK ic nK jx eT st new idx jK jF fV jI jl mp gK nn call dW inv run fl jf join loop held ext kW eU m8 nQ nT IntKind.wrap
variable {F':List Nat} {K:Int->WP} {body:List Int}
structure TW (dbk pb:Nat) (FD:List Nat) (D:dM) (j:Nat) (w:World) (Y F:List Nat) (M:eQ):Prop where
 cO:fu w dbk FD D
 lim:mH D j
 x5:fP w (FD++HG::Y) pb (sD dbk M) F M
 hv:Hv w
 wf:M.Wf
 sep:∀ b∈Y,b∉FD/\b≠HG
abbrev Zo (FD Y F:List Nat):List Nat:=(FD++HG::Y)++F
section
variable {dbk pb j:Nat} {FD Y Y' F:List Nat} {D:dM} {w w':World} {M:eQ}
def TW.q7(h:TW dbk pb FD D j w Y F M)(f:Fr [] w w'):TW dbk pb FD D j w' Y F M:=⟨h.cO.q7 f,h.lim,h.x5.q7 f,h.hv.q7 f,h.wf,h.sep⟩
def TW.sG(h:TW dbk pb FD D j w Y F M):∀b∈Y,b<w.heap.size:=fun b u=>h.x5.qM b (by simp[u])
def TW.xo(h:TW dbk pb FD D j w Y F M):∀b∈Zo FD Y F,b<w.heap.size:=fun b u=>(zD.1 u).elim (h.x5.qM b) (h.x5.lt b)
def TW.yf(h:TW dbk pb FD D j w Y F M):∀b∈Y,b∉F:=fun b u=>h.x5.sep b (by simp[u])
def TW.cN(h:TW dbk pb FD D j w Y F M)(f:Fr Y w w')(J:∀b∈Y',b<w'.heap.size)(G:∀b∈Y',b∈Y\/w.heap.size<=b):TW dbk pb FD D j w' Y' F M where
 cO:=h.cO.q8 f fun b u E=>(h.sep b E).1 u
 lim:=h.lim
 x5:=h.x5.yv (f.mono fun b u _=>by simp[u]) (fun b u=>by
  rcases zD.1 u with u|u;exact yD (h.cO.lt b u) f.size;rcases zG.1 u with rfl|u;exact yD h.hv.lt f.size;exact J b u) fun b u=>by
  rcases zD.1 u with u|u;exact .inl (zH _ u);rcases zG.1 u with rfl|u;exact .inl oL;rcases G b u with C|C;exact .inl (by simp[C]);exact .inr C
 hv:=h.hv.q8 f fun E=>(h.sep _ E).2 rfl
 wf:=h.wf
 sep:=fun b u=>by rcases G b u with C|C;exact h.sep b C;exact⟨fun I=>by have:=h.cO.lt b I;omega,fun I=>by have:=h.hv.lt;omega⟩
def TW.x8(h:TW dbk pb FD D j w Y F M)(C:∀b∈Y',b∈Y):TW dbk pb FD D j w Y' F M:=h.cN (.refl _ _) (fun b u=>h.sG b (C b u)) fun b u=>.inl (C b u)
def TW.CI{B:List Nat}{w0:World}(h:TW dbk pb FD D j w0 Y F M)(f:Fr Y w0 w)(C:∀b∈B,w0.heap.size<=b/\b<w.heap.size):TW dbk pb FD D j w (B++Y) F M:=
 h.cN f (fun b u=>(zD.1 u).elim (fun u=>(C b u).2) fun u=>yD (h.sG b u) f.size) fun b u=>(zD.1 u).elim (fun u=>.inr (C b u).1) .inl
def qxd(M:eQ)(kd:Int)(b:List Int):(gJ M kd b).2.Q0=M.Q0:=by unfold gJ;split;rfl;split;rfl;split<;>rfl
def qy2(M:eQ)(n kd:Int)(b:List Int):(jJ M n kd b).2.Q0=M.Q0:=by unfold jJ;split;rfl;split;rfl;split<;>rfl
def qwD(M:eQ)(n:Int):(fL M n).2.Q0=M.Q0:=by unfold fL;split;rfl;split;rfl;split<;>rfl
def qxG(M:eQ)(t a b c:Int):(fv M t a b c).2.Q0=M.Q0:=by unfold fv;split;rfl;split<;>rfl
def qwz{M M':eQ}(h:M'.Q0=M.Q0):sD dbk M'=sD dbk M:=by unfold sD;rw[h]
def TW.next{M':eQ}(h:TW dbk pb FD D j w Y F M)(u:M'.Q0=M.Q0)(C:M'.Wf)(E:fP w' (FD++HG::Y) pb (sD dbk M) F' M')(f:Fr F w w'):TW dbk pb FD D j w' Y F' M' where
 cO:=h.cO.q8 f fun b G=>h.x5.sep b (zH _ G)
 lim:=h.lim
 x5:=by rw[qwz u];exact E
 hv:=h.hv.q8 f (h.x5.sep HG oL)
 wf:=C
 sep:=h.sep
def TW.make{kind:Int}{s:Sl}{K:Int×Int->WP}(h:TW dbk pb FD D j w Y F M)(C:eF (Zo FD Y F) w s body)(E:body.length<=100000)(G:0<=kind/\kind<256)(I:eS body)(J:∀F' w',TW dbk pb FD D j w' Y F' (gJ M kind body).2->Fr F w w'->(∀b∈F',b∈F\/w.heap.size<=b)->K (gJ M kind body).1 w'): cW 185 [dH pb,.b kind,s.v] dm w K:=
 qx6 h.x5 C E (by have:=h.wf.all;omega) fun F' w' O f Q=>J F' w' (h.next (qxd M kind body) (quw h.wf G I).1 O f) f Q
def TW.put{n kind:Int}{s:Sl}(h:TW dbk pb FD D j w Y F M)(C:eF (Zo FD Y F) w s body)(E:body.length<=100000)(G:0<=kind/\kind<256)(I:eS body)(J:∀w',TW dbk pb FD D j w' Y F (jJ M n kind body).2->Fr F w w'->K (jJ M n kind body).1 w'): cW 184 [dH pb,.u n,.b kind,s.v] de w K:=
 qzF h.x5 C E fun w' O f=>J w' (h.next (qy2 M n kind body) (qxt h.wf G I).1 O f) f
def TW.drop{n:Int}(h:TW dbk pb FD D j w Y F M)(C:∀F' w',TW dbk pb FD D j w' Y F' (fL M n).2->Fr F w w'->(∀b∈F',b∈F\/w.heap.size<=b)->K (fL M n).1 w'): cW 186 [dH pb,.u n] de w K:=
 qx4 h.x5 (by have:=h.wf.all;omega) (by have:=h.wf.all;omega) (by have:=h.wf.all;omega) fun F' w' E f G=>C F' w' (h.next (qwD M n) (quc h.wf) E f) f G
def TW.read{n:Int}{K:Int×Sl×Int->WP}(h:TW dbk pb FD D j w Y F M)(C:iy n)(E:∀s w',(∀G:List Nat,(∀b∈G,b<w.heap.size)->eF G w' s (dJ D M n).2.1)->Fr [] w w'->K ((dJ D M n).1,s,(dJ D M n).2.2) w'): cW 127 [dH pb,.u n] dj w K:=
 qwg h.cO h.lim h.x5 h.hv C (by have:=h.wf.all;omega) (fun e I=>zL (h.wf.body e I).2.1 oM) E
def TW.J2{t:Int}{K:Int×Int×Int->WP}(h:TW dbk pb FD D j w Y F M)(C:∀w',Fr [] w w'->K (eE M t) w'): cW 85 [dH pb,.i t] [.agg [.u,.u,.u]] w K:=qx8 h.x5 C
def qvZ{t a b c:Int}(u:M.Wf)(C:iy a)(E:iy b)(G:iy c):(fv M t a b c).2.Wf:=by unfold fv;split;exact u;split;exact u;refine qs7 u fun x h=>?_;simp only[zD,zG,xX,or_false] at h;rcases h with (h|rfl|rfl|rfl)|h;exact u.J9 x (yV h);exact C;exact E;exact G;exact u.J9 x (yU h)
def TW.rG{t a b c:Int}(h:TW dbk pb FD D j w Y F M)(C:iy a)(E:iy b)(G:iy c)(I:∀w',TW dbk pb FD D j w' Y F (fv M t a b c).2->Fr F w w'->K (fv M t a b c).1 w'): cW 155 [dH pb,.i t,.agg #[.u a,.u b,.u c]] de w K:=
 qtd h.x5 fun w' J f=>I w' (h.next (qxG M t a b c) (qvZ h.wf C E G) J f) f
def TW.room(h:TW dbk pb FD D j w Y F M)(u:K M.J8.length w):cW 151 [dH pb] de w K:=qx7 h.x5 u
def TW.vZ(h:∀b∈F',b∈F\/w.heap.size<=b):∀b∈Zo FD Y F',b∈Zo FD Y F\/w.heap.size<=b:=AJ h
def D3(h:M.Wf)(t:Int):iy (eE M t).1/\iy (eE M t).2.1/\iy (eE M t).2.2:=by
 have key:∀n,iy (M.J9.getD n 0):=fun n=>by
  rw[yR];cases e:M.J9[n]? with
  | none=>exact⟨oM,oM⟩
  | some x=>exact h.J9 x (yF e)
 unfold eE;split;exact⟨⟨oM,oM⟩,⟨oM,oM⟩,⟨oM,oM⟩⟩;exact⟨key _,key _,key _⟩
end
end
section
open Go Go.Pt List
open Go.IntKind (wrap)
open Classical
attribute [local irreducible] ld dK ic nK jx eT st new idx jK jF fV jI jl mp gK nn call dW inv run fl jf join loop held ext kW eU m8 nQ nT IntKind.wrap
variable {K:Sl->WP} {S T Z:List Nat} {b:List Int} {hi p:Int} {i k v:Nat} {l:Key} {n:dN} {ps:qy} {s src:Sl} {w:World} {x:kV}
abbrev GM:=Int×Int×Int×Int×Option Addr×Int
def kA (k v pb:Nat) (t:Int):GM:=((k:Int),(v:Int),((dY k v).1:Int),((dY k v).2:Int),pW pb,t)
def oY (x:GM):Array Value:=#[.i x.1,.i x.2.1,.i x.2.2.1,.i x.2.2.2.1,.pointer x.2.2.2.2.1,.i x.2.2.2.2.2]
abbrev WK:TypeId:=167
def C5 (k v:Nat):Int×Int×Int×Int:=((k:Int),(v:Int),((dY k v).1:Int),((dY k v).2:Int))
def GT (k v:Nat):Array Value:=#[.i k,.i v,.i (dY k v).1,.i (dY k v).2]
section
variable {S:List Nat} {w:World} {x:kV} {n:dN} {k v:Nat}
structure pE (x:kV) (n:dN):Prop where
 Q1:x.1=n.Q1
 J3:x.2.1.len=n.J3.length
 J7:x.2.2.1.len=n.J7.length
 J6:x.2.2.2.len=n.J6.length
def eO.lens(h:eO S w x n):pE x n:=by obtain⟨u,_,⟨pk,C,E⟩,⟨pv,G,I⟩,J⟩:=h;exact⟨u,by rw[C.len,<- E,zK],by rw[G.len,<- I,zK],J.1⟩
def GF{K:Int×Int->WP}(h:pE x n)(C:∀w',Fr [] w w'->K (((fe n k v).1:Int),((fe n k v).2:Int)) w'): cW 218 [.agg (GT k v),.agg (eV x)] dl w K:=by refine qlo<|oB (oE [] w) fun r1 w1 e1 I G=>oB G fun r3 w2 J O G=>oA G 0 rfl x.1 rfl ?_;unfold fe at C;have u:=G.drew;apply eH<;>intro E;rw[h.Q1] at E;rw[if_pos E] at C;refine oA u 0 rfl x.2.1 rfl<|oA u 1 rfl ((dY k v).1:Int) rfl ?_;rw[h.J3];exact C _ u.fr;rw[h.Q1] at E;rw[if_neg (by rw[E];decide)] at C;refine oA u 0 rfl x.2.2.2 rfl<|oA u 1 rfl ((dY k v).2:Int) rfl ?_;rw[h.J6];exact C _ u.fr
def qqe{n:dN}:wrap .i64 (Int.tdiv ((fe n k v).2:Int) 2)=(((fe n k v).2 / 2:Nat):Int):=by have h:=Ch (k:=k) (v:=v);have u:(fe n k v).2<=498:=(by unfold fe;split<;>omega);rw[Int.tdiv_eq_ediv_of_nonneg oJ,gd _ oJ];rfl
def qAY{K:Bool->WP}(h:pE x n)(C:∀w',Fr [] w w'->K (decide (pS n k v)) w'): cW 223 [.agg (GT k v),.agg (eV x)] df w K:=by refine qme<|oB (oE [] w) fun r1 w1 e1 I u=>oB u fun r3 w2 J O u=>oC u 1 rfl (C5 k v) rfl<|oC u 0 rfl x rfl<|GF (k:=k) (v:=v) h fun E G=>?_;dsimp only;rw[qqe];have e:decide (((fe n k v).1:Int)<(((fe n k v).2 / 2:Nat):Int))=decide (pS n k v):=decide_eq_decide.2 (by unfold pS;omega);rw[e];exact C E (u.fr.trans G)
def qzf{K:Bool->WP}(h:pE x n)(C:∀w',Fr [] w w'->K (decide (jp n k v)) w'): cW 242 [.agg (GT k v),.agg (eV x)] df w K:=by refine qj6<|oB (oE [] w) fun r1 w1 e1 I u=>oB u fun r3 w2 J O u=>oC u 1 rfl (C5 k v) rfl<|oC u 0 rfl x rfl<|GF (k:=k) (v:=v) h fun E G=>?_;dsimp only;rw[qqe];have e:decide (((fe n k v).1:Int)>(((fe n k v).2 / 2:Nat):Int))=decide (jp n k v):=decide_eq_decide.2 (by unfold jp;omega);rw[e];exact C E (u.fr.trans G)
end
def G4{t:Int}{ks:Sl}{pb:Nat}{K:GM×Int->WP}(G:ue t=((k:Int),(v:Int)))(I:k=0->∀x w',Fr [] w w'->K (x,4) w')(J:k≠0->ks.len≠k->∀x w',Fr [] w w'->K (x,1) w')(O:k≠0->ks.len=k->∀w',Fr [] w w'->K (kA k v pb t,0) w'): cW 84 [dH pb,.i t,ks.v] [.agg je,.one .i] w K:=by
 refine qrl<|oB (oE [] w) fun r1 w1 e1 Q h=>qrE ?_;rw[G];apply eH<;>intro C;have C:((k:Nat):Int)=0:=yP.1 C;exact oD h 0 rfl (oY (0,0,0,0,none,0)) fun w2 h E=>oC h 0 rfl (0,0,0,0,none,0) rfl<|I oJ _ _ h.fr;have C:¬((k:Nat):Int)=0:=zR.1 C;apply eH<;>intro u;have u:¬((ks.len:Int)=(k:Int)):=zR.1 (oP u);exact oD h 0 rfl (oY (0,0,0,0,none,0)) fun w2 h E=>oC h 0 rfl (0,0,0,0,none,0) rfl<|J oJ oJ _ _ h.fr;have u:(ks.len:Int)=(k:Int):=by rw[yE] at u;exact yP.1 u
 refine G1 fun w2 E=>?_;have h:=h.q7 E;exact oD h 0 rfl (oY (kA k v pb t)) fun R h U=>oC h 0 rfl (kA k v pb t) rfl<|O oJ oJ _ h.fr
section
variable {dbk pb j:Nat} {FD Y F:List Nat} {D:dM} {w:World} {M:eQ} {k v:Nat} {t:Int}
def Cj{K:kV×Int->WP}(h:TW dbk pb FD D j w Y F M)(hp:iy p)(O:∀x B w',TW dbk pb FD D j w' (B++Y) F M->fI (Zo FD (B++Y) F) w' x (dL D M k v p).1 B->Fr [] w w'->(∀c∈B,w.heap.size<=c)->K (x,(dL D M k v p).2) w'): cW 86 [.agg (oY (kA k v pb t)),.u p] [.agg ed,.one .i] w K:=by
 refine qmh<|oB (oE [] w) fun r1 w1 e1 f1 E=>oB E fun r3 w2 e2 f2 E=>oA E 1 rfl (pW pb) rfl ?_;have h2:=h.q7 E.fr;refine TW.read h2 hp fun s w7 hs f7=>?_;have E:=E.q7 f7;have ac:=hs [] (fun _ h=>nomatch h);have hB:eS (dJ D M p).2.1:=qic h.lim.ok (fun e he=>(h.wf.body e he).2.2) p;unfold dL at O;apply eH<;>intro C;have ae:(dJ D M p).2.2≠0:=fun e=>by dsimp only at C;rw[e] at C;exact absurd C oM
 rw[if_pos ae] at O;exact oD E 0 rfl (eV fU) fun w8 E f8=>oC E 0 rfl fU rfl<|O fU [] w8 (h.q7 E.fr) (.zero _ _) E.fr (fun _ h=>nomatch h);have he:¬(dJ D M p).2.2≠0:=fun e=>by dsimp only at C;rw[yE,yP] at C;exact e C
 rw[if_neg he] at O;refine oA E 1 rfl (k:Int) rfl<|oA E 1 rfl (v:Int) rfl<|HO (k:=k) (v:=v) ac hB fun x B ao hN af J=>?_;have Q:=E.q7 af;have R:=fJ (E.at (i:=0) rfl);dsimp only at R;have hr:∀c∈B,c∉[r3]:=fun c C hm=>by have:=J c C;rw[zE.1 hm] at this;omega
 refine oD Q 0 rfl (eV x) fun U G ag=>oC G 0 rfl x rfl ?_;have I:=hN.q8 ag hr (fun c C=>.inl (by rw[zE.1 C];simp[R])) (fun c C=>.inl C);have au:=h.q7 G.fr;have V:=E.fr.size;have aa:TW dbk pb FD D j U (B++Y) F M:=h.CI (G.fr.mono fun _ h=>nomatch h) fun b hb=>⟨zL V (J b hb),I.lt b hb⟩;refine O x B U aa (I.j4 fun c C=>.inl ?_) G.fr (fun c C=>zL V (J c C));have zl:=h.xo;rcases zD.1 C with C|C;rcases zD.1 C with C|C
 have:=zl c (by simp[C]);simp;omega
 rcases zG.1 C with C|C
 have:=zl c (by simp[C]);simp;omega
 rcases zD.1 C with C|C;simp[C]
 have:=zl c (by simp[C]);simp;omega
 have:=zl c (by simp[C]);simp;omega
def qvO{kd:Int}{n:Int}(h:(jJ M n kd b).1=10):(jJ M n kd b).2=M:=by unfold jJ at h⊢;split;rfl;rename_i u;rw[if_neg u] at h;split;rfl;rename_i q C;rw[C] at h;dsimp only at h;split;rfl;rename_i E;rw[if_neg E] at h;cases h
def vN{K:Int×Int->WP}(h:TW dbk pb FD D j w Y F M)(hx:eO (Zo FD Y F) w x n)(h1:n.J3.length<=1000000)(h2:n.J7.length<=1000000)(h3:n.J6.length<=1000000)(U:∀F' w',TW dbk pb FD D j w' Y F' (dS k v M p n).2->Fr F w w'->(∀b∈F',b∈F\/w.heap.size<=b)->K (dS k v M p n).1 w'): cW 154 [.agg (oY (kA k v pb t)),.u p,.agg (eV x)] dm w K:=by
 refine qlq<|oB (oE [] w) fun r1 w1 e1 f1 I=>oB I fun r3 w2 e2 f2 I=>oC I 0 rfl x rfl<|oA I 1 rfl (k:Int) rfl<|oA I 1 rfl (v:Int) rfl<|qye (x:=x) (k:=k) (v:=v) (hx.q7 I.fr) h1 h2 h3 fun s w9 hs f9=>?_;have I:=I.q7 f9;have h9:=h.q7 I.fr;have am:eS (eX n k v).2.1:=by unfold eX;split;exact qpW hx.2.1.1 hx.2.1.2.1;exact fun _ h=>nomatch h
 have an:0<=(eX n k v).1/\(eX n k v).1<256:=(by unfold eX jh;split;dsimp only;split<;>exact⟨oM,oM⟩;exact⟨oM,oM⟩);have ao:(eX n k v).2.1.length<=100000:=(by unfold eX;split;rename_i hr;have:=(DN hr).2;dsimp only;omega;exact yX _);unfold dS at U;apply eH<;>intro C;have aB:(eX n k v).2.2≠0:=fun e=>by dsimp only at C;rw[e] at C;exact absurd C oM
 rw[if_pos aB] at U;exact U F w9 h9 (I.fr.mono fun _ h=>nomatch h) fun b Q=>.inl Q;have he:¬(eX n k v).2.2≠0:=fun e=>by dsimp only at C;rw[yE,yP] at C;exact e C
 rw[if_neg he] at U;have aC:=fJ (I.at (i:=1) rfl);dsimp only at aC;have ac:=h.xo;have ae:r1∉F:=fun hm=>by have:=ac r1 (by simp[hm]);omega
 have ap:w.heap.size<=r1:=oJ;have aM:=I.fr.size;have ag:∀G:List Nat,(∀b∈G,b<w.heap.size)->eF G w9 s (eX n k v).2.1:=fun G hG=>hs G fun b Q=>yD (hG b Q) (zL f1.size f2.size);have ah:dR F w w9 [(r1,.cells (oY (kA k v pb t)) WK (0,0))]:=⟨fun q hq=>by rw[zE.1 hq];exact I.at (i:=1) rfl,oL,I.fr.mono (fun _ h=>nomatch h),fun q hq=>by rw[zE.1 hq];exact .inr ap⟩;generalize a0:(eX n k v).1=R at *
 generalize a1:(eX n k v).2.1=J at *
 refine iQ (fun _ w'=>(p=0\/(jJ M p R J).1=10)/\TW dbk pb FD D j w' Y F M/\dR F w w' [(r1,.cells (oY (kA k v pb t)) WK (0,0))]/\eF (Zo FD Y F) w' s J) ?_ ?_;apply eH<;>intro V;have V:p≠0:=by rw[zT] at V;exact zR.1 V
 refine oA ah 0 rfl (pW pb) rfl<|TW.put h9 (ag _ ac) ao an am fun aD aj aq=>?_;have af:=ah.q8 aq (fun i hi=>.inl hi) (fun q hq=>by rw[zE.1 hq];exact ae);apply eH<;>intro E;have E:(jJ M p R J).1≠10:=by rw[zT] at E;exact zR.1 E
 rw[if_pos ⟨V,E⟩] at U;exact U F aD aj af.fr fun b Q=>.inl Q;have E:(jJ M p R J).1=10:=by rw[yE] at E;exact yP.1 E
 rw[qvO E] at aj;exact⟨.inr E,aj,af,(ag _ ac).q8 (aq.mono fun b Q _=>by simp[Q]) fun b Q=>.inl Q⟩;have V:p=0:=by rw[yE] at V;exact yP.1 V
 exact⟨.inl V,h9,ah,ag _ ac⟩;rintro _ a2 ⟨V,aF,aa,ar⟩;rw[if_neg (fun hh=>V.elim hh.1 hh.2)] at U;refine oA aa 0 rfl (pW pb) rfl<|TW.make aF ar ao an am fun F' aG au aH aI=>?_;have O:=aa.q8 aH (fun i hi=>.inl hi) (fun q hq=>by rw[zE.1 hq];exact ae);have ak:=aa.fr.size;have ab:∀b∈F',b∈F\/w.heap.size<=b:=fun b Q=>(aI b Q).imp id fun h=>zL ak h;refine iQ (fun e w'=>∃F2,e=(if (gJ M R J).1.2=0/\p≠0 then (fL (gJ M R J).2 p).1 else (gJ M R J).1.2)/\TW dbk pb FD D j w' Y F2 (if (gJ M R J).1.2=0/\p≠0 then (fL (gJ M R J).2 p).2 else (gJ M R J).2)/\Fr F w w'/\∀b∈F2,b∈F\/w.heap.size<=b) ?_ ?_;refine iQ (fun d w'=>d=decide ((gJ M R J).1.2=0/\p≠0)/\w'=aG) ?_ ?_;refine eH (fun C=>⟨?_,rfl⟩) (fun C=>⟨?_,rfl⟩);have C:(gJ M R J).1.2=0:=yP.1 C;rw[Bool.eq_iff_iff,yN,zT,zR];exact⟨fun h=>⟨C,h⟩,fun h=>h.2⟩;have C:¬(gJ M R J).1.2=0:=zR.1 C;rw[zU (fun h=>C h.1)];rintro d a3 ⟨rfl,rfl⟩;apply eH<;>intro C;have C:=zC C;rw[if_pos C,if_pos C];refine oA O 0 rfl (pW pb) rfl<|TW.drop au fun F2 a4 aJ aK aL=>?_;have al:=O.fr.size;refine⟨F2,rfl,aJ,O.fr.j6 aK ab,fun b Q=>?_⟩;rcases aL b Q with h|h;exact ab b h;exact .inr (zL al h);have C:=zB C;rw[if_neg C,if_neg C];exact⟨F',rfl,au,O.fr,ab⟩;rintro e av ⟨F2,rfl,ad,aw,ax⟩;by_cases C:(gJ M R J).1.2=0/\p≠0;rw[if_pos C] at U ad⊢;exact U F2 av ad aw ax;rw[if_neg C] at U ad⊢;exact U F2 av ad aw ax
end
section
section
variable {S:List Nat} {w:World} {s:Sl} {ps:qy}
def jO.sh(h:jO S w s ps)(b:Nat){K:Sl->Prop}(C:hi=b)(G:b<=ps.length)(I:∀u,jO S w u (ps.take b)->K u):fV s none (some hi) (some hi) 1 K:=
 dX.xw h.1 b C (by rw[zK];exact G) fun u E=>I u ⟨by rw[<- xP] at E;exact E,fun p J=>h.2 p (yV J)⟩
def jO.from(h:jO S w s ps){lo:Int}(a:Nat){K:Sl->Prop}(C:lo=a)(G:a<=ps.length)(I:∀u,jO S w u (ps.drop a)->K u):fV s (some lo) none none 1 K:=
 dX.part h.1 a ps.length C (by rw[xW,h.len]) G (by rw[zK];exact zM _) fun u _ E _=>I u ⟨by have e:(i3 ps).take ps.length=i3 ps:=zS (by rw[zK];exact zM _);rw[e,<- xQ] at E;exact E,fun p J=>h.2 p (yU J)⟩
def jO.upto(h:jO S w s ps)(b:Nat){K:Sl->Prop}(C:hi=b)(G:b<=ps.length)(I:∀u,jO S w u (ps.take b)->K u):fV s none (some hi) none 1 K:=
 dX.part h.1 0 b rfl C (yX _) (by rw[zK];exact G) fun u _ E _=>I u ⟨by rw[xF,<- xP] at E;exact E,fun p J=>h.2 p (yV J)⟩
def As(ps:qy)(b:Nat):gM (ps.take b)=(gM ps).take b:=xP
def Af(ps:qy)(b:Nat):gM (ps.drop b)=(gM ps).drop b:=xQ
def zp{ps:qy}(hi:i<ps.length):(gM ps).getD i []=ps[i].2:=by rw[yR,zQ,zA hi];rfl
def dX.xh{α:Type}{enc:α->List Value}{l:List α}(h:dX enc 1 S w s l){lo:Int}(a:Nat){K:Sl->Prop}(C:lo=a)(G:a<=l.length)(I:∀u,dX enc 1 S w u (l.drop a)->K u):fV s (some lo) none none 1 K:=
 dX.part h a l.length C (by rw[xW,h.1]) G (zM _) fun u _ E _=>I u (by rw[xZ] at E;exact E)
def dX.CB{α:Type}{enc:α->List Value}{l:List α}(h:dX enc 1 S w s l)(b:Nat){K:Sl->Prop}(C:hi=b)(G:b<=l.length)(I:∀u,dX enc 1 S w u (l.take b)->K u):fV s none (some hi) none 1 K:=
 dX.part h 0 b rfl C (yX _) G fun u _ E _=>I u (by rw[xF] at E;exact E)
end
section
variable {S:List Nat} {w:World} {x:kV} {n:dN} {k v:Nat}
def pM (n:dN) (mid:Nat):Prop:=if n.Q1 then mid<n.J3.length/\mid<=n.J7.length else 1<=mid/\mid<=n.J3.length/\mid<=n.J6.length
def qwR{mid:Nat}{K:kV×kV×Sl->WP}(hx:eO S w x n)(hm:pM n mid)(hl:mid<=1000000)(kk:∀xl xr ks w',eO S w' xl (ef n mid).1->eO S w' xr (ef n mid).2.1->eF S w' ks (ef n mid).2.2->Fr [] w w'->K (xl,xr,ks) w'): cW 219 [.agg (eV x),.i mid] [.agg ed,.agg ed,.one .slice] w K:=by
 have aF:=hx;obtain⟨h0,C,⟨pk,E,u⟩,⟨pv,aa,G⟩,O⟩:=hx;have l1:pk.length=n.J3.length:=(by rw[<- u,zK]);have l2:pv.length=n.J7.length:=(by rw[<- G,zK]);refine qpQ ?_;have h:=oE [] w;refine oB h fun r1 w2 _ f h=>oB h fun r3 w4 _ f h=>oB h fun r5 w6 _ f h=>?_;have h:=oF h;refine⟨?a,?b⟩;case' a=>
  refine oC h 2 rfl x rfl<|oC h 2 rfl x rfl<|oB h fun r9 av _ f h=>ka (h.cells 3 rfl rfl) (h.cells 3 rfl rfl)<|oB h fun aw ax _ f h=>ka (h.cells 4 rfl rfl) (h.cells 4 rfl rfl)<|oD h 1 rfl (eV x) fun ay h f=>iM (h.cells 4 rfl rfl)<|oD h 0 rfl (eV x) fun az h f=>?_
 case' b=>
  refine oC h 2 rfl x rfl<|oC h 2 rfl x rfl<|oB h fun aw av _ f h=>ka (h.cells 3 rfl rfl) (h.cells 3 rfl rfl)<|oB h fun r9 ax _ f h=>ka (h.cells 4 rfl rfl) (h.cells 4 rfl rfl)<|oD h 0 rfl (eV x) fun ay h f=>iM (h.cells 4 rfl rfl)<|oD h 1 rfl (eV x) fun az h f=>?_;have h:=Eo h (List.Perm.swap _ _ _)
 all_goals
  refine oA h 4 rfl x.1 rfl ?_;apply eH<;>intro hc;rw[h0] at hc;unfold pM at hm;rw[if_pos hc] at hm;have hH:ef n mid=({ n with J3:=n.J3.take mid,J7:=n.J7.take mid },{ n with J3:=n.J3.drop mid,J7:=n.J7.drop mid },n.J3.getD mid []):=(by unfold ef;rw[if_pos hc]);rw[hH] at kk;have h:=oF h;refine oA h 4 rfl x.2.1 rfl<|jO.sh E mid rfl oJ fun Q ah=>oA h 4 rfl x.2.2.1 rfl<|jO.sh aa mid rfl oJ fun ab ai=>oD h 1 rfl (eV (x.1,Q,x.2.2.1,x.2.2.2)) fun aG h f=>iM (h.cell 4 rfl rfl)<|oD h 1 rfl (eV (x.1,Q,ab,x.2.2.2)) fun aH h f=>?_;have h:=oF h;refine oA h 4 rfl x.2.1 rfl<|jO.from E mid rfl oJ fun R aj=>oA h 4 rfl x.2.2.1 rfl<|jO.from aa mid rfl oJ fun ac ak=>oD h 0 rfl (eV (x.1,R,x.2.2.1,x.2.2.2)) fun aI h f=>iM (h.cell 4 rfl rfl)<|oD h 0 rfl (eV (x.1,R,ac,x.2.2.2)) fun aJ h f=>?_;have h:=oF h;refine oC h 1 rfl (x.1,Q,ab,x.2.2.2) rfl<|oC h 0 rfl (x.1,R,ac,x.2.2.2) rfl<|oA h 4 rfl x.2.1 rfl ?_;have I:mid<pk.length:=oJ;refine jO.get' (E.q7 h.fr) mid rfl I fun aK J hh=>oD h 3 rfl (eV (x.1,Q,ab,x.2.2.2)) fun aL h f=>mX (hh _ (E.q7 h.fr)) (h.cell 4 rfl rfl) (h.cells 0 rfl rfl)<|oD h 2 rfl (eV (x.1,R,ac,x.2.2.2)) fun aB h f=>ka (hh _ (E.q7 h.fr)) (h.cell 4 rfl rfl)<|oC h 3 rfl (x.1,Q,ab,x.2.2.2) rfl<|oC h 2 rfl (x.1,R,ac,x.2.2.2) rfl<|kk _ _ _ aB ⟨h0,⟨fun a J=>C.1 a (yV J),fun a J=>C.2.1 a (yV J),C.2.2⟩,⟨pk.take mid,ah.q7 h.fr,by rw[As,u]⟩,⟨pv.take mid,ai.q7 h.fr,by rw[As,G]⟩,O.q7 h.fr⟩
   ⟨h0,⟨fun a J=>C.1 a (yU J),fun a J=>C.2.1 a (yU J),C.2.2⟩,⟨pk.drop mid,aj.q7 h.fr,by rw[Af,u]⟩,⟨pv.drop mid,ak.q7 h.fr,by rw[Af,G]⟩,O.q7 h.fr⟩ ?_ h.fr
  rw[<- u,zp I];exact (E.2 _ (zX I)).q7 h.fr;rw[h0] at hc;have am:¬n.Q1=true:=(by rw[hc];decide);unfold pM at hm;rw[if_neg am] at hm;have hH:ef n mid=({ n with J6:=n.J6.take mid,J3:=n.J3.take (mid-1) },{ n with J6:=n.J6.drop mid,J3:=n.J3.drop mid },n.J3.getD (mid-1) []):=(by unfold ef;rw[if_neg am]);rw[hH] at kk;have em:wrap .i64 ((mid:Int)-1)=((mid-1:Nat):Int):=(by rw[gd _ oJ];omega);have h:=oF h;refine oA h 4 rfl x.2.2.2 rfl<|dX.xw O mid rfl oJ fun U an=>oA h 4 rfl x.2.1 rfl<|jO.sh E (mid-1) em oJ fun ad ao=>oD h 1 rfl (eV (x.1,x.2.1,x.2.2.1,U)) fun aM h f=>iM (h.cell 4 rfl rfl)<|oD h 1 rfl (eV (x.1,ad,x.2.2.1,U)) fun aN h f=>?_;have h:=oF h;refine oA h 4 rfl x.2.2.2 rfl<|dX.xh O mid rfl oJ fun V ap=>oA h 4 rfl x.2.1 rfl<|jO.from E mid rfl oJ fun ae aq=>oD h 0 rfl (eV (x.1,x.2.1,x.2.2.1,V)) fun aO h f=>iM (h.cell 4 rfl rfl)<|oD h 0 rfl (eV (x.1,ae,x.2.2.1,V)) fun aP h f=>?_;have h:=oF h;refine oC h 1 rfl (x.1,ad,x.2.2.1,U) rfl<|oC h 0 rfl (x.1,ae,x.2.2.1,V) rfl<|oA h 4 rfl x.2.1 rfl ?_;have I:mid-1<pk.length:=oJ;refine jO.get' (E.q7 h.fr) (mid-1) em I fun aQ J hh=>oD h 3 rfl (eV (x.1,ad,x.2.2.1,U)) fun aR h f=>mX (hh _ (E.q7 h.fr)) (h.cell 4 rfl rfl) (h.cells 0 rfl rfl)<|oD h 2 rfl (eV (x.1,ae,x.2.2.1,V)) fun aC h f=>ka (hh _ (E.q7 h.fr)) (h.cell 4 rfl rfl)<|oC h 3 rfl (x.1,ad,x.2.2.1,U) rfl<|oC h 2 rfl (x.1,ae,x.2.2.1,V) rfl<|kk _ _ _ aC ⟨h0,⟨fun a J=>C.1 a (yV J),C.2.1,fun a J=>C.2.2 a (yV J)⟩,⟨pk.take (mid-1),ao.q7 h.fr,by rw[As,u]⟩,⟨pv,aa.q7 h.fr,G⟩,an.q7 h.fr⟩
   ⟨h0,⟨fun a J=>C.1 a (yU J),C.2.1,fun a J=>C.2.2 a (yU J)⟩,⟨pk.drop mid,aq.q7 h.fr,by rw[Af,u]⟩,⟨pv,aa.q7 h.fr,G⟩,ap.q7 h.fr⟩ ?_ h.fr
  rw[<- u,zp I];exact (E.2 _ (zX I)).q7 h.fr
end
end
section
structure Sg (S0:List Nat) (w0 wa:World) (F T:List Nat):Prop where
 rg:Fr S0 w0 wa
 new:∀ b∈F,b∈S0\/w0.heap.size<=b
 own:∀ b∈T,b∈S0\/w0.heap.size<=b
abbrev fN (L:List (Nat×Obj)):List Nat:=L.map (·.1)
section
variable {dbk pb j:Nat} {FD S0 Y Y0 F0 F F' T:List Nat} {D:dM} {w0 wa w w':World} {M M':eQ} {L:List (Nat×Obj)}
def Sg.start(F:List Nat)(w:World):Sg F w w F []:=⟨.refl _ _,fun b u=>.inl u,fun _ h=>nomatch h⟩
def Sg.fr(g:Sg S0 w0 wa F T)(h:dR T wa w L):Fr S0 w0 w:=g.rg.j6 h.fr g.own
def Sg.fN(g:Sg S0 w0 wa F T)(h:dR T wa w L):∀b∈fN L,b∈S0\/w0.heap.size<=b:=fun b C=>by obtain⟨q,E,rfl⟩:=mem_map.1 C;rcases h.own q E with u|u;exact g.own _ u;exact .inr (zL g.rg.size u)
def zm(h:dR T wa w L):∀b∈fN L,b<w.heap.size:=fun b u=>by obtain⟨q,C,rfl⟩:=mem_map.1 u;exact fJ (h.i9 q C)
def TW.j8(C:TW dbk pb FD D j wa (T++Y) F M)(h:dR T wa w L):TW dbk pb FD D j w (fN L++Y) F M:=
 C.cN (h.fr.mono fun b u _=>by simp[u]) (fun b u=>(zD.1 u).elim (zm h b) fun u=>yD (C.sG b (by simp[u])) h.fr.size) fun b u=>(zD.1 u).elim (fun u=>by obtain⟨q,E,rfl⟩:=mem_map.1 u;exact (h.own q E).imp (fun h=>zH _ h) id) fun u=>.inl (zI _ u)
def TW.cD(u:TW dbk pb FD D j wa Y F M)(h:dR [] wa w L):TW dbk pb FD D j w (fN L++Y) F M:=TW.j8 (T:=[]) u h
def rU(h:dR T wa w L)(f:Fr S w w')(C:∀b∈fN L,b∉S):dR (fN L) w' w' L:=
 ⟨fun q u=>by rw[f.block q.1 (fJ (h.i9 q u)) (C _ (zZ u))];exact h.i9 q u,h.nodup,.refl _ _,fun q u=>.inl (zZ u)⟩
def TW.own(u:TW dbk pb FD D j w (fN L++Y) F M)(h:dR T wa w L)(f:Fr F w w'):dR (fN L) w' w' L:=rU h f fun b C=>u.yf b (by simp[C])
def Sg.next(g:Sg S0 w0 wa F T)(h:dR T wa w L)(f:Fr F w w')(n:∀b∈F',b∈F\/w.heap.size<=b):Sg S0 w0 w' F' (Go.Proofs.YtfneoijhmknlnaaGreatDoor.fN L):=
 ⟨(g.fr h).j6 f g.new,fun b u=>(n b u).elim (g.new b) fun C=>.inr (zL (g.fr h).size C),g.fN h⟩
def Sg.cC(g:Sg S0 w0 wa F T)(h:dR T wa w L)(f:Fr [] w w'):Sg S0 w0 w' F (Go.Proofs.YtfneoijhmknlnaaGreatDoor.fN L):=
 ⟨(g.fr h).j6 f fun _ h=>(nomatch h),g.new,g.fN h⟩
def Dr(h:dR T wa w L):∀b∈Zo FD (Go.Proofs.YtfneoijhmknlnaaGreatDoor.fN L++Y) F,b∈Zo FD (T++Y) F\/wa.heap.size<=b:=fun b u=>by rcases zD.1 u with u|u;rcases zD.1 u with u|u;exact .inl (by simp[u]);rcases zG.1 u with u|u;exact .inl (by simp[u]);rcases zD.1 u with u|u;obtain⟨q,C,rfl⟩:=mem_map.1 u;exact (h.own q C).imp (fun h=>by simp[h]) id;exact .inl (by simp[u]);exact .inl (by simp[u])
def AG:∀b∈Zo FD Y F,b∈Zo FD (S++Y) F:=fun b h=>by simp only[Zo,zD,zG] at h⊢;rcases h with (h|h|h)|h<;>simp[h]
def ws{b:Nat}(h:b∈F):b∈Zo FD Y F:=zI _ h
def eO.j8(u:eO (Zo FD (T++Y) F) wa x n)(h:dR T wa w L):eO (Zo FD (fN L++Y) F) w x n:=u.q8 (h.fr.mono fun b C _=>by simp[C]) (Dr h)
def eO.cD(u:eO (Zo FD Y F) wa x n)(h:dR [] wa w L):eO (Zo FD (fN L++Y) F) w x n:=eO.j8 (T:=[]) u h
def eO.next(h:eO (Zo FD Y F) w x n)(f:Fr F w w')(u:∀b∈F',b∈F\/w.heap.size<=b):eO (Zo FD Y F') w' x n:=h.q8 (f.mono fun b C _=>ws C) (TW.vZ u)
def qT(u:eF (Zo FD (T++Y) F) wa s l)(h:dR T wa w L):eF (Zo FD (fN L++Y) F) w s l:=u.q8 (h.fr.mono fun b C _=>by simp[C]) (Dr h)
def vS(u:eF (Zo FD Y F) wa s l)(h:dR [] wa w L):eF (Zo FD (fN L++Y) F) w s l:=qT (T:=[]) u h
def qsG(h:eF (Zo FD Y F) w s l)(f:Fr F w w')(u:∀b∈F',b∈F\/w.heap.size<=b):eF (Zo FD Y F') w' s l:=h.q8 (f.mono fun b C _=>ws C) (TW.vZ u)
def H8(h:eF (Zo FD (S++Y) F) w s l):eF (Zo FD Y F) w s l:=h.q8 (.refl _ _) fun b u=>.inl (AG b u)
def TW.j5(h:TW dbk pb FD D j w (T++Y) F M):TW dbk pb FD D j w Y F M:=h.x8 fun b u=>zI _ u
abbrev En:=Int×Bool×Sl×Int
def uy (g:Grown) (ks:Sl):En:=(g.Q8,g.J5,ks,g.Q7)
abbrev GR:TypeId:=280
def qK (x:En):Array Value:=#[.u x.1,.bool x.2.1,x.2.2.1.v,.u x.2.2.2]
def vz:iy 0:=⟨oM,oM⟩
def qsk{k:Int}(h:M.Wf):iy (gJ M k b).1.1:=by
 unfold gJ;split;exact vz;split;exact vz;split;exact vz;rename_i n r u
 have:=h.range n (by rw[u];simp)
 have:=h.n4
 exact⟨by dsimp only;omega,by dsimp only;omega⟩
def wt(h:M.Wf)(u:iy p):iy (dS k v M p n).1.1:=by unfold dS;split;exact vz;split;exact u;split;exact qsk h;exact qsk h
structure HV (g:Grown):Prop where
 Q8:iy g.Q8
 Q7:iy g.Q7
 key:eS g.key
def eS.nil:eS []:=fun _ h=>nomatch h
def Gx:HV pI:=⟨⟨oM,oM⟩,⟨oM,oM⟩,.nil⟩
def uw{l:List Key}(h:∀a∈l,eS a)(i:Nat):eS (l.getD i []):=by
 rw[yR];cases e:l[i]? with
 | none=>exact .nil
 | some a=>exact h a (yF e)
def qqQ{t:Int}{J5:Bool}{K:En×Int->WP}(hT:TW dbk pb FD D j w0 Y F M)(hx:eO (Zo FD Y F) w0 x n)(h1:n.J3.length<=100000)(h2:n.J7.length<=100000)(h3:n.J6.length<=100000)(hm:(fe n k v).1>(fe n k v).2->pM n ((fe n k v).1 / 2))(hp:iy p)(kk:∀ks F' w',HV (gH k v M p n J5).1.1->TW dbk pb FD D j w' Y F' (gH k v M p n J5).2->eF (Zo FD Y F') w' ks (gH k v M p n J5).1.1.key->Fr F w0 w'->(∀b∈F',b∈F\/w0.heap.size<=b)->K (uy (gH k v M p n J5).1.1 ks,(gH k v M p n J5).1.2) w'): cW 188 [.agg (oY (kA k v pb t)),.u p,.agg (eV x),.bool J5] [.agg qV,.one .i] w0 K:=by
 refine qlp ?_;have h:=oE [] w0;have g:=Sg.start F w0;have hl:=hx.lens;have aE:(fe n k v).1<=100000:=(by unfold fe;split<;>assumption);refine oB h fun r1 w2 _ f h=>oB h fun r3 w4 _ f h=>oB h fun r5 w6 _ f h=>oB h fun r7 w8 _ f h=>oD h 0 rfl (qK (0,J5,dI,0)) fun w9 h f=>oC h 3 rfl (C5 k v) rfl<|oC h 2 rfl x rfl<|GF (k:=k) (v:=v) hl fun aH al=>?_;have h:=h.q7 al;refine iQ (fun _ w'=>∃(x':kV) (n':dN) (ks:Sl) (key:Key) (o:Int) (F' T:List Nat) (wa:World) (M':eQ),Sg F w0 wa F' T/\TW dbk pb FD D j wa (T++Y) F' M'/\dR T wa w' [(r7,.cells (qK (0,J5,ks,o)) GR (0,0)),(r5,.cells (qK (0,false,dI,0)) GR (0,0)),(r3,.cells (eV x') ND (0,0)),(r1,.cells (oY (kA k v pb t)) WK (0,0))]/\
   eO (Zo FD (T++Y) F') wa x' n'/\eF (Zo FD (T++Y) F') wa ks key/\n'.J3.length<=100000/\n'.J7.length<=100000/\n'.J6.length<=100000/\iy o/\eS key/\gH k v M p n J5=((⟨(dS k v M' p n').1.1,J5,key,o⟩,(dS k v M' p n').1.2),(dS k v M' p n').2)) ?_ ?_
 apply eH<;>intro I;have I:(fe n k v).1>(fe n k v).2:=(by have:=zC I;dsimp only at this;omega);have af:=hm I;have O:wrap .i64 (Int.tdiv ((fe n k v).1:Int) 2)=(((fe n k v).1 / 2:Nat):Int):=(by rw[Int.tdiv_eq_ediv_of_nonneg oJ,gd _ oJ];rfl);generalize ag:(fe n k v).1 / 2=C at af O;refine oC h 2 rfl x rfl ?_;dsimp only;rw[O];have E:=hT.cD h;refine qwR (hx.cD h) af oJ fun xl xr ks aI am an U V=>?_;have Q:=E.q7 V;have g:=g.cC h V;have h:=rU h V fun _ _ h=>nomatch h;refine oB h fun aJ aK _ f h=>oB h fun aL aM _ f h=>oD h 1 rfl (eV xl) fun aN h f=>oD h 0 rfl (eV xr) fun aO h f=>oC h 5 rfl (kA k v pb t) rfl<|oC h 0 rfl xr rfl ?_;have hH:(ef n C).1.J3.length<=100000/\(ef n C).1.J7.length<=100000/\(ef n C).1.J6.length<=100000/\(ef n C).2.1.J3.length<=100000/\(ef n C).2.1.J7.length<=100000/\(ef n C).2.1.J6.length<=100000:=by unfold ef;split<;>simp only[yL,yC]<;>omega
 refine vN (Q.j8 h) (an.j8 h) oJ oJ oJ fun F1 aq R J aa=>?_;have ab:=(am.j8 h).next J aa
 have ac:=qsG (qT U h) J aa;have g:=g.next h J aa
 have h:=(Q.j8 h).own h J;apply eH<;>intro G;have ar:(dS k v M 0 (ef n C).2.1).1.2≠0:=by rw[zT] at G;exact zR.1 G
 have e:gH k v M p n J5=((pI,(dS k v M 0 (ef n C).2.1).1.2),(dS k v M 0 (ef n C).2.1).2):=(by unfold gH;rw[if_pos I,ag,if_pos ar]);rw[e] at kk;exact oD h 3 rfl (qK (0,false,dI,0)) fun au h f=>oC h 3 rfl (0,false,dI,0) rfl<|kk dI F1 au Gx (R.j8 h).j5 (.nil _ _ _ _) (g.fr h) g.new;have he:¬(dS k v M 0 (ef n C).2.1).1.2≠0:=fun e=>by rw[yE,yP] at G;exact e G
 refine oC h 1 rfl xl rfl<|oD h 4 rfl (eV xl) fun aQ h f=>oG h 2 rfl (qK (0,J5,dI,(dS k v M 0 (ef n C).2.1).1.1)) rfl rfl (zO rfl) fun aR h f=>oG h 2 rfl (qK (0,J5,ks,(dS k v M 0 (ef n C).2.1).1.1)) rfl rfl (zO rfl) fun aT h f=>⟨xl,(ef n C).1,ks,(ef n C).2.2,_,F1,_,aq,_,g,R,h.sub (.cons _ (.cons _ (.refl _))),ab,ac,hH.1,hH.2.1,hH.2.2.1,wt hT.wf ⟨oM,oM⟩,?_,?_⟩;unfold ef;split;exact uw hx.2.1.1 _;exact uw hx.2.1.1 _;unfold gH;rw[if_pos I,ag,if_neg he];have I:¬(fe n k v).1>(fe n k v).2:=(by have:=zB I;dsimp only at this;omega);refine⟨x,n,dI,[],0,F,[],w0,M,g,hT,h,hx,.nil _ _ _ _,h1,h2,h3,⟨oM,oM⟩,.nil,?_⟩;unfold gH;rw[if_neg I];rintro aU aV ⟨x',n',ks,key,o,F1,T,wa,M',g,E,h,av,aw,l1,l2,l3,uo,bk,e⟩;rw[e] at kk;refine oC h 3 rfl (kA k v pb t) rfl<|oC h 2 rfl x' rfl<|vN (E.j8 h) (av.j8 h) oJ oJ oJ fun F2 aY ah ad ai=>?_;have U:=qsG (qT aw h) ad ai;have g:=g.next h ad ai
 have h:=(E.j8 h).own h ad;exact oD h 0 rfl (qK ((dS k v M' p n').1.1,J5,ks,o)) fun aZ h f=>oC h 0 rfl ((dS k v M' p n').1.1,J5,ks,o) rfl<|oD h 1 rfl (qK ((dS k v M' p n').1.1,J5,ks,o)) fun ax h f=>oC h 1 rfl ((dS k v M' p n').1.1,J5,ks,o) rfl<|kk ks F2 ax ⟨wt E.wf hp,uo,bk⟩ (ah.j8 h).j5 (H8 (qT U h)) (g.fr h) g.new
end
end
section
section
variable {Z:List Nat} {w w':World} {s:Sl} {l:List Key} {B:List Nat}
def qqg{α β:Type}(f:α->β)(l:List α)(i:Nat)(x:α):(ga l i x).map f=ga (l.map f) i (f x):=by unfold ga;rw[xN,xN,xP,xQ];rfl
def qp2{α β:Type}(f:α->β)(l:List α)(i:Nat):(iw l i).map f=iw (l.map f) i:=by unfold iw;rw[xN,xP,xQ]
def DV{α:Type}{l:List α}{y:α}(h:y∈iw l i):y∈l:=by unfold iw at h;exact (zD.1 h).elim yV yU
abbrev m7 (Z:List Nat) (w:World) (Z':List Nat):Prop:=∀b∈Z',b∈Z\/w.heap.size<=b
def BN{pk pk':qy}{Z':List Nat}{E:Sl}{B':List Nat}{l':List Key}(G:∀p∈pk,eF Z w p.1 p.2)(u:eZ gT 1 w' E (i3 pk') B')(e:gM pk'=l')(f:Fr B w w')(C:∀b∈B,b∈Z)(I:m7 Z w Z')(J:∀p∈pk',p∈pk\/eF Z w p.1 p.2):jw Z' w' E l' B':=
 ⟨pk',u,e,fun p h=>((J p h).elim (G p) id).q8 (f.mono fun b u _=>C b u) I⟩
def jw.ins{ii:Int}{ks:Sl}{key:Key}{vb:Nat}{T':TypeId}(h:jw Z w s l B)(C:∀b∈B,b∈Z)(hi:i<=l.length)(J:ii=i)(I:l.length<=100000)(O:w.heap[vb]?=some (.cells #[gA ks] T' (0,0)))(E:vb∉B)(Q:eF Z w ks key)(R:∀u B' w',(∀Z',m7 Z w Z'->jw Z' w' u (ga l i key) B')->Fr B w w'->(∀b∈B',b∈B\/w.heap.size<=b)->K u w'): cW 187 [s.v,.i ii,.slice (pW vb) 1 1] dd w K:=by obtain⟨pk,U,rfl,G⟩:=h;rw[zK] at hi I;refine quS U (by rw[zK];exact hi) J (by rw[zK];exact I) O E fun u B' w' b' f n=>R u B' w' (fun Z' V=>BN (pk':=ga pk i (ks,key)) G (by rw[show i3 (ga pk i (ks,key))=ga (i3 pk) i ks from qqg _ _ _ _];exact b') (qqg _ _ _ _) f C V fun p G=>?_) f n;rcases E5 G with rfl|h;exact .inr Q;exact .inl h
def jw.del{ii jj:Int}(h:jw Z w s l B)(C:∀b∈B,b∈Z)(hi:i<l.length)(I:ii=i)(J:jj=((i+1:Nat):Int))(G:l.length<=100000)(O:∀u w',(∀Z',m7 Z w Z'->jw Z' w' u (iw l i) B)->Fr B w w'->K u w'): cW 222 [s.v,.i ii,.i jj] dd w K:=by obtain⟨pk,Q,rfl,E⟩:=h;rw[zK] at hi G;exact quP Q (by rw[zK];exact hi) I J (by rw[zK];exact G) fun u w' b' f=>O u w' (fun Z' R=>BN (pk':=iw pk i) E (by rw[show i3 (iw pk i)=iw (i3 pk) i from qp2 _ _ _];exact b') (qp2 _ _ _) f C R fun p E=>.inl (DV E)) f
def jw.set{i:Nat}{ii:Int}{ks:Sl}{key:Key}{K:WP}(h:jw Z w s l B)(u:∀b∈B,b∈Z)(hi:i<l.length)(G:ii=i)(I:eF Z w ks key)(J:∀w',(∀Z',m7 Z w Z'->jw Z' w' s (l.set i key) B)->Fr B w w'->K w'):idx s ii 1 fun a=>st a [ks.v] w K:=by obtain⟨pk,E,rfl,C⟩:=h;rw[zK] at hi;refine eZ.wO E G (by rw[zK];exact hi) fun b O=>?_;subst O;refine eZ.CO (e:=gA) (x:=ks) (fun _=>rfl) E (by rw[zK];exact hi) rfl rfl fun w' b' f=>J w' (fun Z' Q=>BN (pk':=pk.set i (ks,key)) C (by rw[show i3 (pk.set i (ks,key))=(i3 pk).set i ks from map_set];exact b') (map_set) f u Q fun p C=>?_) f;rcases mem_or_eq_of_mem_set C with h|rfl;exact .inl h;exact .inr I
def jw.Dc{ks:Sl}{key:Key}{vb:Nat}{T':TypeId}(h:jw Z w s l B)(C:∀b∈B,b∈Z)(G:l.length<=100000)(I:w.heap[vb]?=some (.cells #[gA ks] T' (0,0)))(J:eF Z w ks key)(O:∀u B' w',(∀Z',m7 Z w Z'->jw Z' w' u (l++[key]) B')->Fr B w w'->(∀b∈B',b∈B\/w.heap.size<=b)->K u w'): Pt.run dd ((Builtin.append_ #[173,173] 173 #[s.v,.slice (pW vb) 1 1]).run prog w) K:=by obtain⟨pk,Q,rfl,E⟩:=h;rw[zK] at G;refine qF Q (by rw[zK];exact G) I fun u B' w' b' f n=>O u B' w' (fun Z' R=>BN (pk':=pk++[(ks,key)]) E (by rw[show i3 (pk++[(ks,key)])=i3 pk++[ks] by simp];exact b') oL f C R fun p E=>?_) f n;rcases zD.1 E with h|h;exact .inl h;rw[zE.1 h];exact .inr J
def jw.ve(h:jw Z w s l B)(E:∀b∈B,b∈Z)(R:l.length+ps.length<=100000)(u:dX gT 1 S w src (i3 ps))(G:∀p∈ps,eF Z w p.1 p.2)(U:∀C B' w',(∀Z',m7 Z w Z'->jw Z' w' C (l++gM ps) B')->Fr B w w'->(∀b∈B',b∈B\/w.heap.size<=b)->K C w'): Pt.run dd ((Builtin.append_ #[173,173] 173 #[s.v,src.v]).run prog w) K:=by obtain⟨pk,V,rfl,I⟩:=h;rw[zK] at R;obtain⟨aa,J,hz,O,Q⟩:=EU;refine eZ.j0 (ys:=i3 ps) (e:=96) V xa oK J hz O rfl (vo (e':=96) u xa qwJ oK) u.1 (by rw[Q,zK,u.1,zK];omega) (by rw[zK,u.1,zK];omega) fun C B' w' b' f n _=>U C B' w' (fun Z' hZ=>BN (pk':=pk++ps) I (by rw[show i3 (pk++ps)=i3 pk++i3 ps by simp];exact b') oL f E hZ fun p I=>?_) f n;rcases zD.1 I with h|h;exact .inl h;exact .inr (G p h)
def qzN{l ys:List Int}(h:eZ jc 1 w s l B)(V:l.length+ys.length<=100000)(C:dX jc 1 S w src ys)(O:∀E B' w',eZ jc 1 w' E (l++ys) B'->Fr B w w'->(∀b∈B',b∈B\/w.heap.size<=b)->K E w'): Pt.run dd ((Builtin.append_ #[174,174] 174 #[s.v,src.v]).run prog w) K:=by obtain⟨Q,G,R,I,J⟩:=Ac;exact eZ.j0 (ys:=ys) (e:=44) h ug oK G R I rfl (vo (e':=44) C ug (fun x u U=>by rw[zE.1 U];rfl) oK) C.1 (by rw[J,C.1];omega) (by rw[C.1];omega) fun E B' w' b' f n _=>O E B' w' b' f n
def qBN{l:List Int}{ii x:Int}{K:WP}(h:eZ jc 1 w s l B)(hi:i<l.length)(C:ii=i)(E:∀w',eZ jc 1 w' s (l.set i x) B->Fr B w w'->K w'):idx s ii 1 fun a=>st a [.u x] w K:=by refine eZ.wO h C hi fun b G=>?_;subst G;exact eZ.CO (e:=od) (x:=x) (fun _=>rfl) h hi rfl rfl E
end
section
variable {Z:List Nat} {w:World} {x:kV} {n:dN} {B:List Nat}
def fI.sJ(h:fI Z w x n B):∃Bk,jw Z w x.2.1 n.J3 Bk/\(∀b∈Bk,b∈B)/\∀G E Bk' w',Fr Bk w w'->(∀b∈Bk,b∈Z)->(∀b∈Bk',b∈Bk\/w.heap.size<=b)->(∀a∈E,eS a)-> ∃B',(∀b∈B',b∈B\/w.heap.size<=b)/\∀Z',m7 Z w Z'->jw Z' w' G E Bk'->fI Z' w' (x.1,G,x.2.2) { n with J3:=E } B':=by
 obtain⟨h0,I,Bk,U,V,rfl,J,hk,hv,hi⟩:=h;obtain⟨n1,n2,O⟩:=yM.1 J;refine⟨Bk,hk,fun b u=>by simp[u],fun G E Bk' w' f hz nk hl=>⟨Bk'++(U++V),fun b u=>?_,fun Z' hZ C=>⟨h0,⟨hl,I.2⟩,Bk',U,V,rfl,?_,C,hv.q8 f (fun b u Q=>O b Q b (by simp[u]) rfl) (fun b u=>.inl (hz b u)) hZ,hi.q8 f fun b u Q=>O b Q b (by simp[u]) rfl⟩⟩⟩;rcases zD.1 u with u|u;exact (nk b u).imp (fun h=>by simp[h]) id;exact .inl (zI _ u);have R:Bk'.Nodup:=(by obtain⟨_,u,_⟩:=C;exact At u);refine yM.2 ⟨R,n2,fun a ha b u e=>?_⟩;subst e;rcases nk a ha with h1|h1;exact O a h1 a u rfl;rcases zD.1 u with u|u
 have:=hv.lt a u;omega
 have:=hi.lt a u;omega
def fI.sw(h:fI Z w x n B):∃E,jw Z w x.2.2.1 n.J7 E/\(∀b∈E,b∈B)/\∀R Q C w',Fr E w w'->(∀b∈E,b∈Z)->(∀b∈C,b∈E\/w.heap.size<=b)->(∀a∈Q,eS a)-> ∃B',(∀b∈B',b∈B\/w.heap.size<=b)/\∀Z',m7 Z w Z'->jw Z' w' R Q C->fI Z' w' (x.1,x.2.1,R,x.2.2.2) { n with J7:=Q } B':=by
 obtain⟨h0,G,Bk,E,Bi,rfl,U,hk,hv,hi⟩:=h;obtain⟨n1,n2,V⟩:=yM.1 U;obtain⟨m1,m2,m3⟩:=yM.1 n2;refine⟨E,hv,fun b u=>by simp[u],fun R Q C w' f hz nv hl=>⟨Bk++(C++Bi),fun b u=>?_,fun Z' hZ I=>⟨h0,⟨G.1,hl,G.2.2⟩,Bk,C,Bi,rfl,?_,hk.q8 f (fun b u hm=>V b u b (by simp[hm]) rfl) (fun b u=>.inl (hz b u)) hZ,I,hi.q8 f fun b u hm=>m3 b hm b u rfl⟩⟩⟩;simp only[zD] at u⊢;rcases u with u|u|u;exact .inl (.inl u);exact (nv b u).imp (fun h=>.inr (.inl h)) id;exact .inl (.inr (.inr u));have ac:C.Nodup:=(by obtain⟨_,u,_⟩:=I;exact At u);refine yM.2 ⟨n1,yM.2 ⟨ac,m2,fun a J b u e=>?_⟩,fun a J b u e=>?_⟩;subst e;rcases nv a J with O|O;exact m3 a O a u rfl
 have:=hi.lt a u;omega
 subst e;rcases zD.1 u with u|u;rcases nv a u with O|O;exact V a J a (by simp[O]) rfl
 have:=hk.lt a J;omega
 exact V a J a (by simp[u]) rfl
def fI.sA(h:fI Z w x n B):∃E,eZ jc 1 w x.2.2.2 n.J6 E/\(∀b∈E,b∈B)/\∀R Q C w',Fr E w w'->(∀b∈E,b∈Z)->(∀b∈C,b∈E\/w.heap.size<=b)->(∀a∈Q,iy a)-> ∃B',(∀b∈B',b∈B\/w.heap.size<=b)/\∀Z',m7 Z w Z'->eZ jc 1 w' R Q C->fI Z' w' (x.1,x.2.1,x.2.2.1,R) { n with J6:=Q } B':=by
 obtain⟨h0,I,Bk,Bv,E,rfl,U,hk,hv,hi⟩:=h;obtain⟨n1,n2,V⟩:=yM.1 U;obtain⟨m1,m2,m3⟩:=yM.1 n2;refine⟨E,hi,fun b u=>by simp[u],fun R Q C w' f hz ni hl=>⟨Bk++(Bv++C),fun b u=>?_,fun Z' hZ J=>⟨h0,⟨I.1,I.2.1,hl⟩,Bk,Bv,C,rfl,?_,hk.q8 f (fun b u hm=>V b u b (by simp[hm]) rfl) (fun b u=>.inl (hz b u)) hZ,hv.q8 f (fun b u hm=>m3 b u b hm rfl) (fun b u=>.inl (hz b u)) hZ,J⟩⟩⟩;simp only[zD] at u⊢;rcases u with u|u|u;exact .inl (.inl u);exact .inl (.inr (.inl u));exact (ni b u).imp (fun h=>.inr (.inr h)) id;refine yM.2 ⟨n1,yM.2 ⟨m1,At J,fun a G b u e=>?_⟩,fun a G b u e=>?_⟩;subst e;rcases ni a u with O|O;exact m3 a G a O rfl
 have:=hv.lt a G;omega
 subst e;rcases zD.1 u with u|u;exact V a G a (by simp[u]) rfl;rcases ni a u with O|O;exact V a G a (by simp[O]) rfl
 have:=hk.lt a G;omega
end
structure Ed (dbk pb:Nat) (FD:List Nat) (D:dM) (j:Nat) (S0 N0:List Nat) (w0 wa:World) (T Y F:List Nat) (M:eQ) (x:kV) (n:dN) (B:List Nat):Prop where
 sg:Sg S0 w0 wa F T
 tw:TW dbk pb FD D j wa (T++(B++Y)) F M
 node:fI (Zo FD (T++(B++Y)) F) wa x n B
 sep:∀ b∈T,b∉B
 cI:∀ b∈B,b∈N0\/w0.heap.size<=b
 cS:∀ b∈N0,b∈S0
 cL:∀ b∈B,b∉Y
section
variable {dbk pb j:Nat} {FD S0 N0 Y F F' T B B':List Nat} {D:dM} {w0 wa w w':World} {M M':eQ} {L:List (Nat×Obj)} {x x':kV} {n n':dN}
def Ed.j8(e:Ed dbk pb FD D j S0 N0 w0 wa T Y F M x n B)(h:dR T wa w L):Ed dbk pb FD D j S0 N0 w0 w (fN L) Y F M x n B where
 sg:=⟨e.sg.fr h,e.sg.new,e.sg.fN h⟩
 tw:=e.tw.j8 h
 node:=e.node.q8 h.fr (fun b u C=>e.sep b C u) (fun b u=>.inl (by simp[u])) (Dr h)
 sep:=fun b u C=>by
  obtain⟨q,G,rfl⟩:=mem_map.1 u;rcases h.own q G with E|E;exact e.sep _ E C
  have:=e.node.lt _ C;omega
 cI:=e.cI
 cS:=e.cS
 cL:=e.cL
def Ed.rd(e:Ed dbk pb FD D j S0 N0 w0 wa T Y F M x n B):∀b∈B,b∈Zo FD (T++(B++Y)) F:=fun b h=>by simp[h]
def Ed.nV{Bk:List Nat}(e:Ed dbk pb FD D j S0 N0 w0 w (fN L) Y F M x n B)(h:dR T wa w L)(G:∀b∈Bk,b∈B)(f:Fr Bk w w')(J:fI (Zo FD (fN L++(B'++Y)) F) w' x' n' B')(E:∀b∈B',b∈B\/w.heap.size<=b):Ed dbk pb FD D j S0 N0 w0 w' (fN L) Y F M x' n' B'/\dR (fN L) w' w' L:=by
 refine⟨⟨⟨e.sg.rg.j6 f fun b u=>(e.cI b (G b u)).imp (e.cS b) id,e.sg.new,e.sg.own⟩,e.tw.cN (f.mono fun b u _=>by simp[G b u]) (fun b u=>?_) (fun b u=>?_),J,fun b u I=>?_,fun b u=>(E b u).elim (e.cI b) fun C=>.inr (zL e.sg.rg.size C),e.cS,fun b u O=>?_⟩,rU h f fun b u I=>e.sep b u (G b I)⟩;rcases zD.1 u with u|u;exact yD (e.tw.sG b (by simp[u])) f.size;rcases zD.1 u with u|u;exact J.lt b u;exact yD (e.tw.sG b (by simp[u])) f.size;rcases zD.1 u with u|u;exact .inl (by simp[u]);rcases zD.1 u with u|u;exact (E b u).imp (fun h=>by simp[h]) id;exact .inl (by simp[u]);rcases E b I with C|C;exact e.sep b u C
 have:=e.tw.sG b (by simp[u]);omega
 rcases E b u with C|C;exact e.cL b C O
 have:=e.tw.sG b (by simp[O]);omega
def Ed.eT(e:Ed dbk pb FD D j S0 N0 w0 w T Y F M x n B)(C:∀b∈B',b∈B\/w.heap.size<=b):m7 (Zo FD (T++(B++Y)) F) w (Zo FD (T++(B'++Y)) F):=fun b u=>by simp only[Zo,zD,zG] at u⊢;rcases u with (u|u|u|u|u)|u;simp[u];simp[u];simp[u];exact (C b u).imp (fun h=>by simp[h]) id;simp[u];simp[u]
def Ed.next(e:Ed dbk pb FD D j S0 N0 w0 w (fN L) Y F M x n B)(h:dR T wa w L)(E:TW dbk pb FD D j w' (fN L++(B++Y)) F' M')(f:Fr F w w')(C:∀b∈F',b∈F\/w.heap.size<=b):Ed dbk pb FD D j S0 N0 w0 w' (fN L) Y F' M' x n B/\dR (fN L) w' w' L:=by have G:∀b∈fN L,b∉F:=fun b u=>e.tw.yf b (by simp[u]);refine⟨⟨⟨e.sg.rg.j6 f e.sg.new,fun b u=>(C b u).elim (e.sg.new b) fun I=>.inr (zL e.sg.rg.size I),e.sg.own⟩,E,e.node.q8 f (fun b u=>e.tw.yf b (by simp[u])) (fun b u=>.inl (ws u)) (TW.vZ C),e.sep,e.cI,e.cS,e.cL⟩,rU h f G⟩
def Ed.cC(e:Ed dbk pb FD D j S0 N0 w0 w (fN L) Y F M x n B)(h:dR T wa w L)(f:Fr [] w w'):Ed dbk pb FD D j S0 N0 w0 w' (fN L) Y F M x n B/\dR (fN L) w' w' L:=
 e.next h (e.tw.q7 f) (f.mono fun _ h=>nomatch h) fun b u=>.inl u
def Ed.cA(e:Ed dbk pb FD D j S0 N0 w0 w T Y F M x n B):eO (Zo FD (T++Y) F) w x n:=
 e.node.rd (fun b h u=>by
  simp only[Zo,zD,zG] at u;have C:=e.tw.sep b (by simp[h]);rcases u with (u|u|u|u)|u;exact C.1 u;exact C.2 u;exact e.sep b u h;exact e.cL b h u;exact e.tw.yf b (by simp[h]) u) fun b h=>.inl (by
  simp only[Zo,zD,zG] at h⊢;rcases h with (h|h|h|h)|h<;>simp[h])
def Ed.rY(e:Ed dbk pb FD D j S0 N0 w0 w T Y F M x n B):TW dbk pb FD D j w (T++Y) F M:=e.tw.x8 fun b u=>(zD.1 u).elim (fun h=>by simp[h]) fun h=>by simp[h]
end
end
section
section
variable {dbk pb j:Nat} {FD S0 N0 Y F F' F0 T T1 B B' Bk Bk':List Nat} {D:dM} {w0 wa w w':World} {M M':eQ} {L:List (Nat×Obj)} {x x':kV} {n n':dN} {i q:Nat} {ii jj:Int} {ks:Sl} {key:Key} {vb:Nat} {T':TypeId}
structure na (FD Y F B B':List Nat) (T:List Nat) (w w':World):Prop where
 cU:∀ s l,eF (Zo FD (T++(B++Y)) F) w s l->eF (Zo FD (T++(B'++Y)) F) w' s l
 node:∀ x n,eO (Zo FD (T++(B++Y)) F) w x n->eO (Zo FD (T++(B'++Y)) F) w' x n
def Ed.kK(e:Ed dbk pb FD D j S0 N0 w0 w T Y F M x n B)(C:∀b∈Bk,b∈B)(f:Fr Bk w w')(E:∀b∈B',b∈B\/w.heap.size<=b):na FD Y F B B' T w w':=⟨fun s l h=>h.q8 (f.mono fun b u _=>by simp[C b u]) (e.eT E),fun x n h=>h.q8 (f.mono fun b u _=>by simp[C b u]) (e.eT E)⟩
def Ed.cU(e:Ed dbk pb FD D j F0 N0 w0 w T Y F M x n B)(C:eF (Zo FD Y F0) w0 s l):eF (Zo FD (T++(B++Y)) F) w s l:=
 C.q8 (e.sg.rg.mono fun b u _=>ws u) fun b u=>by rcases zD.1 u with u|u;rcases zD.1 u with u|u;exact .inl (by simp[u]);rcases zG.1 u with u|u;exact .inl (by simp[u]);rcases zD.1 u with u|u;exact (e.sg.own b u).imp (fun h=>ws h) id;rcases zD.1 u with u|u;exact (e.cI b u).imp (fun h=>ws (e.cS b h)) id;exact .inl (by simp[u]);exact (e.sg.new b u).imp (fun h=>ws h) id
def Ed.sub(e:Ed dbk pb FD D j S0 N0 w0 w T Y F M x n B)(C:∀b∈T1,b∈T):Ed dbk pb FD D j S0 N0 w0 w T1 Y F M x n B where
 sg:=⟨e.sg.rg,e.sg.new,fun b u=>e.sg.own b (C b u)⟩
 tw:=e.tw.x8 fun b u=>(zD.1 u).elim (fun h=>zH _ (C b h)) fun h=>zI _ h
 node:=e.node.j4 fun b u=>.inl (by simp only[Zo,zD,zG] at u⊢;rcases u with (u|u|u|u)|u;simp[u];simp[u];simp[C b u];simp[u];simp[u])
 sep:=fun b u=>e.sep b (C b u)
 cI:=e.cI
 cS:=e.cS
 cL:=e.cL
def FY{L:List (Nat×Obj)}{q vb:Nat}{o:Obj}(h:L[q]?=some (vb,o)):vb∈fN L:=mem_map.2 ⟨_,yF h,rfl⟩
def Ed.cP(e:Ed dbk pb FD D j S0 N0 w0 w (fN L) Y F M x n B)(h:dR T wa w L)(hi:i<=n.J3.length)(O:ii=i)(Q:n.J3.length<=100000)(q:Nat)(J:L[q]?=some (vb,.cells #[gA ks] T' (0,0)))(R:eF (Zo FD (fN L++(B++Y)) F) w ks key)(U:eS key)(V:∀C B' w',Ed dbk pb FD D j S0 N0 w0 w' (fN L) Y F M (x.1,C,x.2.2) { n with J3:=ga n.J3 i key } B'->dR (fN L) w' w' L->na FD Y F B B' (fN L) w w'->K C w'): cW 187 [x.2.1.v,.i ii,.slice (pW vb) 1 1] dd w K:=by obtain⟨Bk,E,u,I⟩:=e.node.sJ;refine E.ins (fun b E=>e.rd b (u b E)) hi O Q (h.at J) (fun hm=>e.sep vb (FY J) (u vb hm)) R fun C Bk' w' hz f nk=>?_;obtain⟨B',G,hN⟩:=I C _ Bk' w' f (fun b E=>e.rd b (u b E)) nk fun a ha=>(E5 ha).elim (fun h=>by rw[h];exact U) (e.node.2.1.1 a);obtain⟨e',h'⟩:=e.nV h u f (hN _ (e.eT G) (hz _ (e.eT G))) G;exact V C B' w' e' h' (e.kK u f G)
def Ed.t7(e:Ed dbk pb FD D j S0 N0 w0 w (fN L) Y F M x n B)(h:dR T wa w L)(hi:i<=n.J7.length)(O:ii=i)(Q:n.J7.length<=100000)(q:Nat)(J:L[q]?=some (vb,.cells #[gA ks] T' (0,0)))(R:eF (Zo FD (fN L++(B++Y)) F) w ks key)(U:eS key)(V:∀C B' w',Ed dbk pb FD D j S0 N0 w0 w' (fN L) Y F M (x.1,x.2.1,C,x.2.2.2) { n with J7:=ga n.J7 i key } B'->dR (fN L) w' w' L->na FD Y F B B' (fN L) w w'->K C w'): cW 187 [x.2.2.1.v,.i ii,.slice (pW vb) 1 1] dd w K:=by obtain⟨Bk,E,u,I⟩:=e.node.sw;refine E.ins (fun b E=>e.rd b (u b E)) hi O Q (h.at J) (fun hm=>e.sep vb (FY J) (u vb hm)) R fun C Bk' w' hz f nk=>?_;obtain⟨B',G,hN⟩:=I C _ Bk' w' f (fun b E=>e.rd b (u b E)) nk fun a ha=>(E5 ha).elim (fun h=>by rw[h];exact U) (e.node.2.1.2.1 a);obtain⟨e',h'⟩:=e.nV h u f (hN _ (e.eT G) (hz _ (e.eT G))) G;exact V C B' w' e' h' (e.kK u f G)
def Ed.tU{G:Int}(e:Ed dbk pb FD D j S0 N0 w0 w (fN L) Y F M x n B)(h:dR T wa w L)(hi:i<=n.J6.length)(R:ii=i)(U:n.J6.length<=100000)(q:Nat)(Q:L[q]?=some (vb,.cells #[.u G] T' (0,0)))(V:iy G)(kk:∀E B' w',Ed dbk pb FD D j S0 N0 w0 w' (fN L) Y F M (x.1,x.2.1,x.2.2.1,E) { n with J6:=ga n.J6 i G } B'->dR (fN L) w' w' L->na FD Y F B B' (fN L) w w'->K E w'): cW 189 [x.2.2.2.v,.i ii,.slice (pW vb) 1 1] dd w K:=by obtain⟨Bk,I,C,J⟩:=e.node.sA;refine quT I hi R U (h.at Q) (fun hm=>e.sep vb (FY Q) (C vb hm)) fun E Bk' w' hz f nk=>?_;obtain⟨B',O,hN⟩:=J E _ Bk' w' f (fun b I=>e.rd b (C b I)) nk fun a ha=>(E5 ha).elim (fun h=>by rw[h];exact V) (e.node.2.1.2.2 a);obtain⟨e',h'⟩:=e.nV h C f (hN _ (e.eT O) hz) O;exact kk E B' w' e' h' (e.kK C f O)
def Ed.CD(e:Ed dbk pb FD D j S0 N0 w0 w (fN L) Y F M x n B)(h:dR T wa w L)(hi:i<n.J3.length)(J:ii=i)(O:jj=((i+1:Nat):Int))(Q:n.J3.length<=100000)(R:∀E B' w',Ed dbk pb FD D j S0 N0 w0 w' (fN L) Y F M (x.1,E,x.2.2) { n with J3:=iw n.J3 i } B'->dR (fN L) w' w' L->na FD Y F B B' (fN L) w w'->K E w'): cW 222 [x.2.1.v,.i ii,.i jj] dd w K:=by obtain⟨Bk,C,u,I⟩:=e.node.sJ;refine C.del (fun b C=>e.rd b (u b C)) hi J O Q fun E w' U f=>?_;obtain⟨B',G,V⟩:=I E _ Bk w' f (fun b C=>e.rd b (u b C)) (fun b C=>.inl C) fun a ha=>e.node.2.1.1 a (DV ha);obtain⟨e',h'⟩:=e.nV h u f (V _ (e.eT G) (U _ (e.eT G))) G;exact R E B' w' e' h' (e.kK u f G)
def Ed.FG(e:Ed dbk pb FD D j S0 N0 w0 w (fN L) Y F M x n B)(h:dR T wa w L)(hi:i<n.J7.length)(J:ii=i)(O:jj=((i+1:Nat):Int))(Q:n.J7.length<=100000)(R:∀E B' w',Ed dbk pb FD D j S0 N0 w0 w' (fN L) Y F M (x.1,x.2.1,E,x.2.2.2) { n with J7:=iw n.J7 i } B'->dR (fN L) w' w' L->na FD Y F B B' (fN L) w w'->K E w'): cW 222 [x.2.2.1.v,.i ii,.i jj] dd w K:=by obtain⟨Bk,C,u,I⟩:=e.node.sw;refine C.del (fun b C=>e.rd b (u b C)) hi J O Q fun E w' U f=>?_;obtain⟨B',G,V⟩:=I E _ Bk w' f (fun b C=>e.rd b (u b C)) (fun b C=>.inl C) fun a ha=>e.node.2.1.2.1 a (DV ha);obtain⟨e',h'⟩:=e.nV h u f (V _ (e.eT G) (U _ (e.eT G))) G;exact R E B' w' e' h' (e.kK u f G)
def Ed.HJ(e:Ed dbk pb FD D j S0 N0 w0 w (fN L) Y F M x n B)(h:dR T wa w L)(hi:i<n.J6.length)(J:ii=i)(O:jj=((i+1:Nat):Int))(Q:n.J6.length<=100000)(R:∀C B' w',Ed dbk pb FD D j S0 N0 w0 w' (fN L) Y F M (x.1,x.2.1,x.2.2.1,C) { n with J6:=iw n.J6 i } B'->dR (fN L) w' w' L->na FD Y F B B' (fN L) w w'->K C w'): cW 257 [x.2.2.2.v,.i ii,.i jj] dd w K:=by obtain⟨Bk,E,u,G⟩:=e.node.sA;refine quQ E hi J O Q fun C w' U f=>?_;obtain⟨B',I,V⟩:=G C _ Bk w' f (fun b E=>e.rd b (u b E)) (fun b E=>.inl E) fun a ha=>e.node.2.1.2.2 a (DV ha);obtain⟨e',h'⟩:=e.nV h u f (V _ (e.eT I) U) I;exact R C B' w' e' h' (e.kK u f I)
def Ed.BR{K:WP}(e:Ed dbk pb FD D j S0 N0 w0 w (fN L) Y F M x n B)(h:dR T wa w L)(hi:i<n.J3.length)(I:ii=i)(J:eF (Zo FD (fN L++(B++Y)) F) w ks key)(O:eS key)(Q:∀B' w',Ed dbk pb FD D j S0 N0 w0 w' (fN L) Y F M (x.1,x.2.1,x.2.2) { n with J3:=n.J3.set i key } B'->dR (fN L) w' w' L->na FD Y F B B' (fN L) w w'->K w'): idx x.2.1 ii 1 fun a=>st a [ks.v] w K:=by
 obtain⟨Bk,C,u,G⟩:=e.node.sJ;refine C.set (fun b C=>e.rd b (u b C)) hi I J fun w' R f=>?_;obtain⟨B',E,U⟩:=G x.2.1 _ Bk w' f (fun b C=>e.rd b (u b C)) (fun b C=>.inl C) fun a V=>(mem_or_eq_of_mem_set V).elim (e.node.2.1.1 a) fun h=>by rw[h];exact O
 obtain⟨e',h'⟩:=e.nV h u f (U _ (e.eT E) (R _ (e.eT E))) E;exact Q B' w' e' h' (e.kK u f E)
def Ed.Gw{K:WP}(e:Ed dbk pb FD D j S0 N0 w0 w (fN L) Y F M x n B)(h:dR T wa w L)(hi:i<n.J7.length)(I:ii=i)(J:eF (Zo FD (fN L++(B++Y)) F) w ks key)(O:eS key)(Q:∀B' w',Ed dbk pb FD D j S0 N0 w0 w' (fN L) Y F M (x.1,x.2.1,x.2.2.1,x.2.2.2) { n with J7:=n.J7.set i key } B'->dR (fN L) w' w' L->na FD Y F B B' (fN L) w w'->K w'): idx x.2.2.1 ii 1 fun a=>st a [ks.v] w K:=by
 obtain⟨Bk,C,u,G⟩:=e.node.sw;refine C.set (fun b C=>e.rd b (u b C)) hi I J fun w' R f=>?_;obtain⟨B',E,U⟩:=G x.2.2.1 _ Bk w' f (fun b C=>e.rd b (u b C)) (fun b C=>.inl C) fun a V=>(mem_or_eq_of_mem_set V).elim (e.node.2.1.2.1 a) fun h=>by rw[h];exact O
 obtain⟨e',h'⟩:=e.nV h u f (U _ (e.eT E) (R _ (e.eT E))) E;exact Q B' w' e' h' (e.kK u f E)
def Ed.oU{G:Int}{K:WP}(e:Ed dbk pb FD D j S0 N0 w0 w (fN L) Y F M x n B)(h:dR T wa w L)(hi:i<n.J6.length)(O:ii=i)(Q:iy G)(R:∀B' w',Ed dbk pb FD D j S0 N0 w0 w' (fN L) Y F M (x.1,x.2.1,x.2.2.1,x.2.2.2) { n with J6:=n.J6.set i G } B'->dR (fN L) w' w' L->na FD Y F B B' (fN L) w w'->K w'): idx x.2.2.2 ii 1 fun a=>st a [.u G] w K:=by
 obtain⟨Bk,E,C,I⟩:=e.node.sA;refine qBN E hi O fun w' U f=>?_;obtain⟨B',J,V⟩:=I x.2.2.2 _ Bk w' f (fun b E=>e.rd b (C b E)) (fun b E=>.inl E) fun a ha=>(mem_or_eq_of_mem_set ha).elim (e.node.2.1.2.2 a) fun h=>by rw[h];exact Q
 obtain⟨e',h'⟩:=e.nV h C f (V _ (e.eT J) U) J;exact R B' w' e' h' (e.kK C f J)
def Ed.qF(e:Ed dbk pb FD D j S0 N0 w0 w (fN L) Y F M x n B)(h:dR T wa w L)(J:n.J3.length<=100000)(q:Nat)(O:L[q]?=some (vb,.cells #[gA ks] T' (0,0)))(Q:eF (Zo FD (fN L++(B++Y)) F) w ks key)(R:eS key)(U:∀C B' w',Ed dbk pb FD D j S0 N0 w0 w' (fN L) Y F M (x.1,C,x.2.2) { n with J3:=n.J3++[key] } B'->dR (fN L) w' w' L->na FD Y F B B' (fN L) w w'->K C w'): Pt.run dd ((Builtin.append_ #[173,173] 173 #[x.2.1.v,.slice (pW vb) 1 1]).run prog w) K:=by
 obtain⟨Bk,E,u,I⟩:=e.node.sJ;refine E.Dc (fun b E=>e.rd b (u b E)) J (h.at O) Q fun C Bk' w' V f nk=>?_;obtain⟨B',G,hN⟩:=I C _ Bk' w' f (fun b E=>e.rd b (u b E)) nk fun a ha=>(zD.1 ha).elim (e.node.2.1.1 a) fun h=>by rw[zE.1 h];exact R
 obtain⟨e',h'⟩:=e.nV h u f (hN _ (e.eT G) (V _ (e.eT G))) G;exact U C B' w' e' h' (e.kK u f G)
def Ed.zd(e:Ed dbk pb FD D j S0 N0 w0 w (fN L) Y F M x n B)(h:dR T wa w L)(J:n.J7.length<=100000)(q:Nat)(O:L[q]?=some (vb,.cells #[gA ks] T' (0,0)))(Q:eF (Zo FD (fN L++(B++Y)) F) w ks key)(R:eS key)(U:∀C B' w',Ed dbk pb FD D j S0 N0 w0 w' (fN L) Y F M (x.1,x.2.1,C,x.2.2.2) { n with J7:=n.J7++[key] } B'->dR (fN L) w' w' L->na FD Y F B B' (fN L) w w'->K C w'): Pt.run dd ((Builtin.append_ #[173,173] 173 #[x.2.2.1.v,.slice (pW vb) 1 1]).run prog w) K:=by
 obtain⟨Bk,E,u,I⟩:=e.node.sw;refine E.Dc (fun b E=>e.rd b (u b E)) J (h.at O) Q fun C Bk' w' V f nk=>?_;obtain⟨B',G,hN⟩:=I C _ Bk' w' f (fun b E=>e.rd b (u b E)) nk fun a ha=>(zD.1 ha).elim (e.node.2.1.2.1 a) fun h=>by rw[zE.1 h];exact R
 obtain⟨e',h'⟩:=e.nV h u f (hN _ (e.eT G) (V _ (e.eT G))) G;exact U C B' w' e' h' (e.kK u f G)
def Ed.ym{G:Int}(e:Ed dbk pb FD D j S0 N0 w0 w (fN L) Y F M x n B)(h:dR T wa w L)(Q:n.J6.length<=100000)(q:Nat)(R:L[q]?=some (vb,.cells #[.u G] T' (0,0)))(U:iy G)(V:∀E B' w',Ed dbk pb FD D j S0 N0 w0 w' (fN L) Y F M (x.1,x.2.1,x.2.2.1,E) { n with J6:=n.J6++[G] } B'->dR (fN L) w' w' L->na FD Y F B B' (fN L) w w'->K E w'): Pt.run dd ((Builtin.append_ #[174,174] 174 #[x.2.2.2.v,.slice (pW vb) 1 1]).run prog w) K:=by
 obtain⟨Bk,I,C,J⟩:=e.node.sA;refine qt3 I Q (h.at R) fun E Bk' w' hz f nk=>?_;obtain⟨B',O,hN⟩:=J E _ Bk' w' f (fun b I=>e.rd b (C b I)) nk fun a ha=>(zD.1 ha).elim (e.node.2.1.2.2 a) fun h=>by rw[zE.1 h];exact U
 obtain⟨e',h'⟩:=e.nV h C f (hN _ (e.eT O) hz) O;exact V E B' w' e' h' (e.kK C f O)
def Ed.wJ(e:Ed dbk pb FD D j S0 N0 w0 w (fN L) Y F M x n B)(h:dR T wa w L)(O:n.J3.length+ps.length<=100000)(Q:dX gT 1 S w src (i3 ps))(I:∀p∈ps,eF (Zo FD (fN L++(B++Y)) F) w p.1 p.2)(R:∀a∈gM ps,eS a)(U:∀C B' w',Ed dbk pb FD D j S0 N0 w0 w' (fN L) Y F M (x.1,C,x.2.2) { n with J3:=n.J3++gM ps } B'->dR (fN L) w' w' L->na FD Y F B B' (fN L) w w'->K C w'): Pt.run dd ((Builtin.append_ #[173,173] 173 #[x.2.1.v,src.v]).run prog w) K:=by obtain⟨Bk,E,u,J⟩:=e.node.sJ;refine E.ve (fun b E=>e.rd b (u b E)) O Q I fun C Bk' w' V f nk=>?_;obtain⟨B',G,hN⟩:=J C _ Bk' w' f (fun b E=>e.rd b (u b E)) nk fun a ha=>(zD.1 ha).elim (e.node.2.1.1 a) (R a);obtain⟨e',h'⟩:=e.nV h u f (hN _ (e.eT G) (V _ (e.eT G))) G;exact U C B' w' e' h' (e.kK u f G)
def Ed.vW(e:Ed dbk pb FD D j S0 N0 w0 w (fN L) Y F M x n B)(h:dR T wa w L)(O:n.J7.length+ps.length<=100000)(Q:dX gT 1 S w src (i3 ps))(I:∀p∈ps,eF (Zo FD (fN L++(B++Y)) F) w p.1 p.2)(R:∀a∈gM ps,eS a)(U:∀C B' w',Ed dbk pb FD D j S0 N0 w0 w' (fN L) Y F M (x.1,x.2.1,C,x.2.2.2) { n with J7:=n.J7++gM ps } B'->dR (fN L) w' w' L->na FD Y F B B' (fN L) w w'->K C w'): Pt.run dd ((Builtin.append_ #[173,173] 173 #[x.2.2.1.v,src.v]).run prog w) K:=by obtain⟨Bk,E,u,J⟩:=e.node.sw;refine E.ve (fun b E=>e.rd b (u b E)) O Q I fun C Bk' w' V f nk=>?_;obtain⟨B',G,hN⟩:=J C _ Bk' w' f (fun b E=>e.rd b (u b E)) nk fun a ha=>(zD.1 ha).elim (e.node.2.1.2.1 a) (R a);obtain⟨e',h'⟩:=e.nV h u f (hN _ (e.eT G) (V _ (e.eT G))) G;exact U C B' w' e' h' (e.kK u f G)
def Ed.v9{ys:List Int}(e:Ed dbk pb FD D j S0 N0 w0 w (fN L) Y F M x n B)(h:dR T wa w L)(J:n.J6.length+ys.length<=100000)(O:dX jc 1 S w src ys)(Q:∀y∈ys,iy y)(R:∀C B' w',Ed dbk pb FD D j S0 N0 w0 w' (fN L) Y F M (x.1,x.2.1,x.2.2.1,C) { n with J6:=n.J6++ys } B'->dR (fN L) w' w' L->na FD Y F B B' (fN L) w w'->K C w'): Pt.run dd ((Builtin.append_ #[174,174] 174 #[x.2.2.2.v,src.v]).run prog w) K:=by obtain⟨Bk,E,u,G⟩:=e.node.sA;refine qzN E J O fun C Bk' w' U f V=>?_;obtain⟨B',I,hN⟩:=G C _ Bk' w' f (fun b E=>e.rd b (u b E)) V fun a ha=>(zD.1 ha).elim (e.node.2.1.2.2 a) (Q a);obtain⟨e',h'⟩:=e.nV h u f (hN _ (e.eT I) U) I;exact R C B' w' e' h' (e.kK u f I)
end
end
section
def Cp{D:dM}{M:eQ}(h:dL D M k v p=(n,0)):fZ n k v:=by
 unfold dL at h;split at h;rename_i u;exact absurd (congrArg (·.2) h) u
 have:=qsH (kind:=(dJ D M p).1) (b:=(dJ D M p).2.1) (k:=k) (v:=v) (by rw[h])
 rw[h] at this;exact this
def wo(h:fZ n k v):n.J3.length<=498/\n.J7.length<=498/\n.J6.length<=498/\(n.Q1=true->n.J7.length=n.J3.length/\n.J3.length<=(dY k v).1)/\(n.Q1=false->n.J3.length+1=n.J6.length/\n.J6.length<=(dY k v).2/\2<=n.J6.length):=by
 have O:=Ch (k:=k) (v:=v);obtain⟨_,_,_,u⟩:=h;cases I:n.Q1 with
 | true=>
  rw[I,if_pos rfl] at u;obtain⟨C,J,E,G⟩:=u;rw[C];exact⟨oJ,oJ,oL,fun _=>⟨G,E⟩,fun h=>nomatch h⟩
 | false=>
  rw[I,if_neg oM] at u;obtain⟨_,C,J,E,G⟩:=u;rw[C];exact⟨oJ,oL,oJ,fun h=>(nomatch h),fun _=>⟨G,E,J⟩⟩
section
variable {D:dM} {M M1:eQ} {k v f:Nat} {key val:Key} {p e0 e1:Int} {n:dN} {g:Grown}
def qy0(h:dL D M k v p=(n,e0))(u:e0≠0):iF D k v key val (f+1) M p=((pI,e0),M):=by unfold iF;rw[h,if_pos u]
def qy1(h:dL D M k v p=(n,0))(u:n.Q1=true)(C:n.J3[dP n.J3 key]?=some key):iF D k v key val (f+1) M p=gH k v M p { n with J7:=n.J7.set (dP n.J3 key) val } false:=by unfold iF;rw[h,if_neg (fun h=>h rfl),if_pos u,if_pos C]
def qxp(h:dL D M k v p=(n,0))(u:n.Q1=true)(C:¬n.J3[dP n.J3 key]?=some key):iF D k v key val (f+1) M p=gH k v M p { n with J3:=ga n.J3 (dP n.J3 key) key,J7:=ga n.J7 (dP n.J3 key) val } true:=by unfold iF;rw[h,if_neg (fun h=>h rfl),if_pos u,if_neg C]
def qqH(h:dL D M k v p=(n,0))(u:¬n.Q1=true)(C:iF D k v key val f M (n.J6.getD (eA n.J3 key) 0)=((g,e1),M1))(E:e1≠0):iF D k v key val (f+1) M p=((pI,e1),M1):=by unfold iF;rw[h,if_neg (fun h=>h rfl),if_neg u];dsimp only;rw[C,if_pos E]
def qxq(h:dL D M k v p=(n,0))(u:¬n.Q1=true)(C:iF D k v key val f M (n.J6.getD (eA n.J3 key) 0)=((g,0),M1))(E:g.Q8=n.J6.getD (eA n.J3 key) 0/\g.Q7=0):iF D k v key val (f+1) M p=((⟨p,g.J5,[],0⟩,0),M1):=by unfold iF;rw[h,if_neg (fun h=>h rfl),if_neg u];dsimp only;rw[C,if_neg (fun h=>h rfl),if_pos E]
def qAr(h:dL D M k v p=(n,0))(u:¬n.Q1=true)(C:iF D k v key val f M (n.J6.getD (eA n.J3 key) 0)=((g,0),M1))(E:¬(g.Q8=n.J6.getD (eA n.J3 key) 0/\g.Q7=0)):iF D k v key val (f+1) M p=gH k v M1 p (gX n (eA n.J3 key) g) g.J5:=by unfold iF;rw[h,if_neg (fun h=>h rfl),if_neg u];dsimp only;rw[C,if_neg (fun h=>h rfl),if_neg E]
end
def qyO(u:n.Q1=true)(C:n.J7.length=n.J3.length):(fe n k v).1>(fe n k v).2->pM n ((fe n k v).1 / 2):=fun h=>by unfold pM;have e:(fe n k v).1=n.J3.length:=(by unfold fe;rw[if_pos u]);rw[if_pos u,C];rw[e] at h⊢;omega
def qxf(u:¬n.Q1=true)(C:n.J3.length+1=n.J6.length)(E:2<=n.J6.length):(fe n k v).1>(fe n k v).2->pM n ((fe n k v).1 / 2):=fun h=>by unfold pM;have e:(fe n k v).1=n.J6.length:=(by unfold fe;rw[if_neg u]);rw[if_neg u];rw[e] at h⊢;omega
def Dg{α:Type}{l:List α}{x:α}(h:i<=l.length):(ga l i x).length=l.length+1:=by unfold ga;simp;omega
def dX.cQ{l:List Int}{i:Int}{K:Addr->Int->Prop}(h:dX jc 1 S w s l)(n:Nat)(hi:i=n)(O:n<l.length)(Q:∀a,(∀S' w',dX jc 1 S' w' s l->w'.cell? a=some (.u l[n]))->K a l[n]):idx s i 1 fun a=>ld .u a w fun y=>K a y:=by
 subst hi;have I:l[n]?=some l[n]:=zA O;obtain⟨hl,b,o,J,_,cs,T,fr,hb,hc⟩:=h.at n I;refine rM J ⟨oJ,oJ⟩ ?_;rw[zJ];have key:∀S' w',dX jc 1 S' w' s l->w'.cell? ⟨b,o+n*1,none⟩=some (.u l[n]):=fun S' w' R=>by
  obtain⟨_,b',o',C,_,U,T',V,E,G⟩:=R.at n I;rw[J] at C;cases C;rw[kj E]
  have:=congrArg (·[0]?) G
  simpa[jc] using this
 exact qI l[n] (key S w h) (Q _ key)
section
variable {dbk pb j:Nat} {FD S0 N0 Y F F' F0 T B:List Nat} {D:dM} {w0 wa w w':World} {M M':eQ} {L:List (Nat×Obj)} {x:kV} {n:dN} {k v:Nat} {t:Int}
def Ed.load{w7:World}(C:∀b∈N0,b∈S0)(g:Sg S0 w0 wa F T)(h:dR T wa w L)(G:TW dbk pb FD D j w7 (B++(fN L++Y)) F M)(I:fI (Zo FD (B++(fN L++Y)) F) w7 x n B)(f:Fr [] w w7)(E:∀c∈B,w.heap.size<=c)(J:∀b∈Y,b<w.heap.size): Ed dbk pb FD D j S0 N0 w0 w7 (fN L) Y F M x n B/\dR (fN L) w7 w7 L:=by
 refine⟨⟨g.cC h f,G.x8 fun b u=>?_,I.j4 fun b u=>.inl ?_,fun b u O=>?_,fun b u=>.inr (zL (g.fr h).size (E b u)),C,fun b u Q=>?_⟩,rU h f fun _ _ h=>nomatch h⟩;simp only[zD] at u⊢;rcases u with u|u|u<;>simp[u];simp only[Zo,zD,zG] at u⊢;rcases u with (u|u|u|u|u)|u<;>simp[u]
 have:=zm h b u;have:=E b O;omega
 have:=J b Q;have:=E b u;omega
def Ed.y7(e:Ed dbk pb FD D j S0 N0 w0 w T Y F M x n B):dX jc 1 (Zo FD (T++Y) F) w x.2.2.2 n.J6:=e.cA.2.2.2.2
def Ed.fr(e:Ed dbk pb FD D j S0 N0 w0 w T Y F M x n B):Fr S0 w0 w:=e.sg.rg
def mq{L':List (Nat×Obj)}(h:dR T wa w L)(u:L'.Sublist L):dR (fN L') w w L':=(h.sub u).lX
def Ic{ks vs:Sl}{key val:Key}(ad:eS key)(ag:eS val):∀(f:Nat) {Y F:List Nat} {w0:World} {M:eQ} {p:Int} {K:En×Int->WP} (hT:TW dbk pb FD D j w0 Y F M) (hp:iy p) (hk:eF (Zo FD Y F) w0 ks key) (hv:eF (Zo FD Y F) w0 vs val) (ak:(iF D k v key val f M p).1.2≠-1) (kk:∀gs F' w',HV (iF D k v key val f M p).1.1->TW dbk pb FD D j w' Y F' (iF D k v key val f M p).2->eF (Zo FD Y F') w' gs (iF D k v key val f M p).1.1.key->Fr F w0 w'->(∀b∈F',b∈F\/w0.heap.size<=b)->K (uy (iF D k v key val f M p).1.1 gs,(iF D k v key val f M p).1.2) w'), cW 156 [.agg (oY (kA k v pb t)),.u p,ks.v,vs.v] [.agg qV,.one .i] w0 K
 | 0,_,_,_,_,_,_,_,_,_,_,ak,_=>absurd rfl ak
 | f+1,Y,F,w0,M,p,K,hT,hp,hk,hv,ak,kk=>by
  refine qnB ?_;unfold EY Hz DR;have h:=oE [] w0;have g:=Sg.start F w0;refine oB h fun r1 w2 _ _ h=>oB h fun r3 w4 _ _ h=>oC h 1 rfl (kA k v pb t) rfl ?_;rcases O:dL D M k v p with ⟨n,e0⟩;refine Cj (k:=k) (v:=v) (hT.cD h) hp fun x B w7 bb aH f7 bc=>?_;rw[O] at aH⊢;dsimp only at aH;obtain⟨e,h⟩:=Ed.load (N0:=[]) (fun _ h=>nomatch h) g h bb aH f7 bc fun b hb=>yD (hT.sG b hb) h.fr.size;refine oB h fun r8 w9 _ _ h=>oD h 0 rfl (eV x) fun bP h _=>eH (fun U=>?_) (fun U=>?_);have aR:e0≠0:=by rw[zT] at U;exact zR.1 U
  rw[qy0 O aR] at kk;exact oD h 1 rfl (qK (0,false,dI,0)) fun bd h _=>oC h 1 rfl (0,false,dI,0) rfl<|kk dI F bd Gx (e.j8 h).rY.j5 (.nil _ _ _ _) (e.j8 h).fr (e.j8 h).sg.new;have bf:e0=0:=by rw[yE] at U;exact yP.1 U
  subst bf;have hr:=Cp O;obtain⟨l1,l2,l3,l4,l5⟩:=wo hr;have e:=e.j8 h;have h:=mq h (.refl _);have aT:x.1=n.Q1:=e.node.1;refine oA h 0 rfl x.1 rfl<|eH (fun U=>?_) (fun U=>?_);rw[aT] at U;obtain⟨l6,l7⟩:=l4 U;refine oC h 0 rfl x rfl<|Ej e.cA (e.cU hk) ad hr.2.2.1 oJ fun bT bi=>?_;obtain⟨e,h⟩:=e.cC h bi;have am:=H7 n.J3 key;refine iQ (fun _ w'=>∃x' n' B',dR [r8,r3,r1] w' w' [(r8,.cells (eV x') ND (0,0)),(r3,.cells (qK (0,false,dI,0)) GR (0,0)),(r1,.cells (oY (kA k v pb t)) WK (0,0))]/\Ed dbk pb FD D j F [] w0 w' [r8,r3,r1] Y F M x' n' B'/\
   iF D k v key val (f+1) M p=gH k v M p n' (!decide (n.J3[dP n.J3 key]?=some key))/\n'.Q1=true/\n'.J7.length=n'.J3.length/\n'.J3.length<=1000/\n'.J6.length<=1000) ?_ ?_
  refine eH (fun Q=>?_) (fun Q=>?_);have aJ:=zC Q;have bU:=(zP.1 aJ).1;refine oA h 0 rfl x.2.2.1 rfl<|e.Gw h (i:=dP n.J3 key) oJ rfl (e.cU hv) ag fun B' bV e h _=>⟨x,_,B',h,e,?_,U,by dsimp only;rw[xG];exact l6,by dsimp only;omega,by dsimp only;omega⟩;rw[qy1 O U aJ,yA aJ];rfl;have ay:=zB Q;have I:iF D k v key val (f+1) M p=gH k v M p { n with J3:=ga n.J3 (dP n.J3 key) key,J7:=ga n.J7 (dP n.J3 key) val } (!decide (n.J3[dP n.J3 key]?=some key)):=by rw[qxp O U ay,zU ay];rfl
  have an:(ga n.J7 (dP n.J3 key) val).length=(ga n.J3 (dP n.J3 key) key).length:=(by rw[Dg oJ,Dg am,l6]);have ao:(ga n.J3 (dP n.J3 key) key).length<=1000:=(by rw[Dg am];omega);refine⟨?_,?_,?_⟩;have h:=oF h;refine oA h 0 rfl x.2.1 rfl<|oA h 0 rfl x.2.2.1 rfl<|oB h fun bW bX _ _ h=>ka (h.cell 1 rfl rfl) (h.cell 1 rfl rfl) ?_;have e:=e.j8 h;refine e.cP h (i:=dP n.J3 key) am rfl oJ 0 rfl (e.cU hk) ad fun V B1 aU e h _=>iM (h.cell 1 rfl rfl)<|oB h fun bY bZ _ _ h=>ka (h.cell 2 rfl rfl) (h.cell 2 rfl rfl) ?_;have e:=e.j8 h;exact e.t7 h (i:=dP n.J3 key) oN rfl oN 0 rfl (e.cU hv) ag fun ap B2 aV e h _=>oD h 2 rfl (eV (x.1,V,x.2.2.1,x.2.2.2)) fun aW h _=>oD h 2 rfl (eV (x.1,V,ap,x.2.2.2)) fun aX h _=>⟨_,_,B2,mq h (.cons _ (.cons _ (.refl _))),(e.j8 h).sub oL,I,U,an,ao,by dsimp only;omega⟩;have h:=oF h;refine oA h 0 rfl x.2.1 rfl<|oA h 0 rfl x.2.2.1 rfl<|oB h fun b0 b1 _ _ h=>ka (h.cell 1 rfl rfl) (h.cell 1 rfl rfl)<|oB h fun b2 b3 _ _ h=>ka (h.cell 2 rfl rfl) (h.cell 2 rfl rfl) ?_;have e:=e.j8 h;exact e.cP h (i:=dP n.J3 key) am rfl oJ 1 rfl (e.cU hk) ad fun V B1 aU e h _=>iM (h.cell 2 rfl rfl)<|e.t7 h (i:=dP n.J3 key) oN rfl oN 0 rfl (e.cU hv) ag fun ap B2 aV e h _=>oD h 2 rfl (eV (x.1,V,x.2.2.1,x.2.2.2)) fun aW h _=>oD h 2 rfl (eV (x.1,V,ap,x.2.2.2)) fun aX h _=>⟨_,_,B2,mq h (.cons _ (.cons _ (.refl _))),(e.j8 h).sub oL,I,U,an,ao,by dsimp only;omega⟩;have h:=oF h;refine oA h 0 rfl x.2.1 rfl<|oA h 0 rfl x.2.2.1 rfl<|oB h fun b4 b5 _ _ h=>ka (h.cell 1 rfl rfl) (h.cell 1 rfl rfl)<|oB h fun b6 b7 _ _ h=>ka (h.cell 2 rfl rfl) (h.cell 2 rfl rfl) ?_;have e:=e.j8 h;exact e.cP h (i:=dP n.J3 key) am rfl oJ 0 rfl (e.cU hk) ad fun V B1 aU e h _=>iM (h.cell 2 rfl rfl)<|e.t7 h (i:=dP n.J3 key) oN rfl oN 1 rfl (e.cU hv) ag fun ap B2 aV e h _=>oD h 2 rfl (eV (x.1,V,x.2.2.1,x.2.2.2)) fun aW h _=>oD h 2 rfl (eV (x.1,V,ap,x.2.2.2)) fun aX h _=>⟨_,_,B2,mq h (.cons _ (.cons _ (.refl _))),(e.j8 h).sub oL,I,U,an,ao,by dsimp only;omega⟩;rintro _ b8 ⟨x',n',B',h,e,I,m0,m1,m2,m3⟩;rw[I] at kk;refine oC h 2 rfl (kA k v pb t) rfl<|oC h 0 rfl x' rfl<|qqQ (Y:=[r8,r3,r1]++Y) e.rY e.cA oJ oJ oJ (qyO m0 m1) hp fun gs F' cc hG aY C aZ bj=>?_;have g:=e.sg.next h aZ bj
  have h:=rU h aZ fun b hb=>e.rY.yf b (by simp at hb⊢;rcases hb with h|h|h<;>simp[h]);exact oG h 1 rfl (qK (uy (gH k v M p n' (!decide (n.J3[dP n.J3 key]?=some key))).1.1 gs)) rfl rfl (zO rfl) fun bk h _=>oC h 1 rfl (uy (gH k v M p n' (!decide (n.J3[dP n.J3 key]?=some key))).1.1 gs) rfl<|kk gs F' bk hG (aY.j8 h).j5 (H8 (qT C h)) (g.fr h) g.new
  ·rw[aT] at U;have ah:¬n.Q1=true:=(by rw[U];decide);obtain⟨l6,l7,l8⟩:=l5 U;refine oC h 0 rfl x rfl<|Cb e.cA (e.cU hk) ad hr.2.2.1 oJ fun cd bl=>?_;obtain⟨e,h⟩:=e.cC h bl;have aq:=AC n.J3 key;generalize av:eA n.J3 key=c at aq⊢;have ai:c<n.J6.length:=oJ;have aK:n.J6.getD c 0=n.J6[c]:=(by rw[yR,zA ai];rfl);have hu:iy n.J6[c]:=e.node.2.1.2.2 _ (zX ai);rcases ar:iF D k v key val f M n.J6[c] with ⟨⟨E,e1⟩,M1⟩;have aa:iF D k v key val f M (n.J6.getD (eA n.J3 key) 0)=((E,e1),M1):=(by rw[av,aK];exact ar);have aA:e1≠-1:=fun h1=>by rw[h1] at aa;rw[qqH O ah aa oM] at ak;exact ak rfl
   refine⟨?a,?b⟩;case' a=>
    have h:=oF h;have e:=e.j8 h;refine oC h 2 rfl (kA k v pb t) rfl<|oA h 0 rfl x.2.2.2 rfl<|dX.cQ e.y7 c rfl ai fun bm hh=>Ic ad ag f e.tw hu (e.cU hk) (e.cU hv) (by rw[ar];exact aA) fun gs F1 bn hG ab C aL aM=>?_;rw[ar] at hG ab C⊢;obtain⟨e,h⟩:=e.next h ab aL aM
    refine oB h fun au bo _ _ h=>mX (hh _ _ (e.j8 h).y7) (h.cell 1 rfl rfl) (h.cells 3 rfl rfl)<|oD h 0 rfl (qK (uy E gs)) fun a1 h _=>?_;have C:=qT C h;have e:=e.j8 h;have h:=mq h (.refl _)
   case' b=>
    have h:=oF h;have e:=e.j8 h;have h:=mq h (.refl _);refine oC h 2 rfl (kA k v pb t) rfl<|oA h 0 rfl x.2.2.2 rfl<|dX.cQ e.y7 c rfl ai fun bm hh=>oB h fun au bo _ _ h=>?_;have e:=e.j8 h;refine mX (hh _ _ e.y7) (h.cell 1 rfl rfl) (h.cells 3 rfl rfl)<|Ic ad ag f e.tw hu (e.cU hk) (e.cU hv) (by rw[ar];exact aA) fun gs F1 bn hG ab C aL aM=>?_;rw[ar] at hG ab C⊢;obtain⟨e,h⟩:=e.next h ab aL aM
    refine oD h 0 rfl (qK (uy E gs)) fun a1 h _=>?_;have C:=qT C h;have e:=e.j8 h;have h:=mq h (.refl _)
   all_goals
    refine eH (fun Q=>?_) (fun Q=>?_);have a2:e1≠0:=by rw[zT] at Q;exact zR.1 Q
    rw[qqH O ah aa a2] at kk;exact oD h 2 rfl (qK (0,false,dI,0)) fun bp h _=>oC h 2 rfl (0,false,dI,0) rfl<|kk dI F1 bp Gx (e.j8 h).rY.j5 (.nil _ _ _ _) (e.j8 h).fr (e.j8 h).sg.new;have bq:e1=0:=by rw[yE] at Q;exact yP.1 Q
    subst bq;refine iQ (fun b w'=>b=decide (E.Q8=n.J6[c]/\E.Q7=0)/\w'=a1.drew) ?_ ?_;have h:=oF h;refine oA h 0 rfl E.Q8 rfl<|oA h 1 rfl x.2.2.2 rfl<|dX.get (e.j8 h).y7 c rfl (zA ai) (y:=n.J6[c]) rfl<|eH (fun G=>?_) (fun G=>?_);have G:E.Q8=n.J6[c]:=yP.1 G;refine oA h 0 rfl E.Q7 rfl ⟨?_,rfl⟩;rw[Bool.eq_iff_iff,yP,yN];exact⟨fun h=>⟨G,h⟩,fun h=>h.2⟩;have G:E.Q8≠n.J6[c]:=zR.1 G;exact⟨(zU fun h=>G h.1).symm,rfl⟩;rintro bv bx ⟨rfl,rfl⟩;have h:=oF h;have C:=qT C h;have e:=e.j8 h;have h:=mq h (.refl _);refine eH (fun G=>?_) (fun G=>?_);have G:=zC G;rw[<- aK,<- av] at G;rw[qxq O ah aa G] at kk;exact oA h 0 rfl E.J5 rfl<|oD h 2 rfl (qK (p,E.J5,dI,0)) fun a3 h _=>oC h 2 rfl (p,E.J5,dI,0) rfl<|kk dI F1 a3 ⟨hp,vz,.nil⟩ (e.j8 h).rY.j5 (.nil _ _ _ _) (e.j8 h).fr (e.j8 h).sg.new;have G:=zB G;rw[<- aK,<- av] at G;have I:=qAr O ah aa G;rw[av] at I;rw[I] at kk;refine oA h 1 rfl x.2.2.2 rfl<|oA h 0 rfl E.Q8 rfl<|e.oU h (i:=c) ai rfl hG.Q8 fun B1 bz e h kp=>?_;have C:=kp.cU _ _ C;refine iQ (fun _ w'=>∃x' B',dR [au,r8,r3,r1] w' w' [(au,.cells (qK (uy E gs)) GR (0,0)),(r8,.cells (eV x') ND (0,0)),(r3,.cells (qK (0,false,dI,0)) GR (0,0)),(r1,.cells (oY (kA k v pb t)) WK (0,0))]/\Ed dbk pb FD D j F [] w0 w' [au,r8,r3,r1] Y F1 M1 x' (gX n c E) B'/\
     ¬(gX n c E).Q1=true/\(gX n c E).J3.length+1=(gX n c E).J6.length/\2<=(gX n c E).J6.length/\(gX n c E).J6.length<=1000/\(gX n c E).J7.length<=1000) ?_ ?_
    refine oA h 0 rfl E.Q7 rfl<|eH (fun R=>?_) (fun R=>?_);have R:E.Q7≠0:=by rw[zT] at R;exact zR.1 R
    have eg:gX n c E={ n with J6:=ga (n.J6.set c E.Q8) (c+1) E.Q7,J3:=ga n.J3 c E.key }:=(by unfold gX;rw[if_pos R]);have af:¬(gX n c E).Q1=true/\(gX n c E).J3.length+1=(gX n c E).J6.length/\2<=(gX n c E).J6.length/\(gX n c E).J6.length<=1000/\(gX n c E).J7.length<=1000:=(by rw[eg];dsimp only;rw[Dg aq,Dg (l:=n.J6.set c E.Q8) (by rw[xG];omega),xG];exact⟨ah,oJ,oJ,oJ,oJ⟩);rw[eg] at af⊢;have ew:wrap .i64 ((c:Int)+1)=((c+1:Nat):Int):=sS oJ;rw[ew];refine⟨?_,?_,?_⟩;have h:=oF h;refine oA h 1 rfl x.2.2.2 rfl<|oA h 0 rfl E.Q7 rfl<|oA h 1 rfl x.2.1 rfl<|oA h 0 rfl gs rfl<|oB h fun bA bB _ _ h=>mX (h.cell 1 rfl rfl) (h.cell 2 rfl rfl) (h.cell 2 rfl rfl) ?_;have C:=qT C h;have e:=e.j8 h;refine e.tU h (i:=c+1) (by dsimp only;rw[xG];omega) rfl (by dsimp only;rw[xG];omega) 0 rfl hG.Q7 fun J B2 aB e h kp=>?_;have C:=kp.cU _ _ C;refine ka (h.cell 1 rfl rfl) (h.cell 2 rfl rfl)<|oB h fun bC bD _ _ h=>mX (h.cell 3 rfl rfl) (h.cell 2 rfl rfl) (h.cell 3 rfl rfl) ?_;have C:=qT C h;have e:=e.j8 h;exact e.cP h (i:=c) aq rfl oN 0 rfl C hG.key fun ac B3 aC e h _=>oD h 3 rfl (eV (x.1,x.2.1,x.2.2.1,J)) fun aD h _=>oD h 3 rfl (eV (x.1,ac,x.2.2.1,J)) fun aE h _=>⟨_,B3,mq h (.cons _ (.cons _ (.refl _))),(e.j8 h).sub oL,af⟩;have h:=oF h;refine oA h 1 rfl x.2.2.2 rfl<|oA h 0 rfl E.Q7 rfl<|oA h 1 rfl x.2.1 rfl<|oA h 0 rfl gs rfl<|oB h fun bE bF _ _ h=>mX (h.cell 1 rfl rfl) (h.cell 2 rfl rfl) (h.cell 2 rfl rfl)<|oB h fun bG bH _ _ h=>mX (h.cell 3 rfl rfl) (h.cell 2 rfl rfl) (h.cell 3 rfl rfl) ?_;have C:=qT C h;have e:=e.j8 h;refine e.tU h (i:=c+1) (by dsimp only;rw[xG];omega) rfl (by dsimp only;rw[xG];omega) 1 rfl hG.Q7 fun J B2 aB e h kp=>?_;have C:=kp.cU _ _ C;exact ka (h.cell 2 rfl rfl) (h.cell 3 rfl rfl)<|e.cP h (i:=c) aq rfl oN 0 rfl C hG.key fun ac B3 aC e h _=>oD h 3 rfl (eV (x.1,x.2.1,x.2.2.1,J)) fun aD h _=>oD h 3 rfl (eV (x.1,ac,x.2.2.1,J)) fun aE h _=>⟨_,B3,mq h (.cons _ (.cons _ (.refl _))),(e.j8 h).sub oL,af⟩;have h:=oF h;refine oA h 1 rfl x.2.2.2 rfl<|oA h 0 rfl E.Q7 rfl<|oA h 1 rfl x.2.1 rfl<|oA h 0 rfl gs rfl<|oB h fun bI bJ _ _ h=>mX (h.cell 2 rfl rfl) (h.cell 1 rfl rfl) (h.cell 2 rfl rfl)<|oB h fun bK bL _ _ h=>mX (h.cell 2 rfl rfl) (h.cell 3 rfl rfl) (h.cell 3 rfl rfl) ?_;have C:=qT C h;have e:=e.j8 h;refine e.tU h (i:=c+1) (by dsimp only;rw[xG];omega) rfl (by dsimp only;rw[xG];omega) 0 rfl hG.Q7 fun J B2 aB e h kp=>?_;have C:=kp.cU _ _ C;exact ka (h.cell 2 rfl rfl) (h.cell 3 rfl rfl)<|e.cP h (i:=c) aq rfl oN 1 rfl C hG.key fun ac B3 aC e h _=>oD h 3 rfl (eV (x.1,x.2.1,x.2.2.1,J)) fun aD h _=>oD h 3 rfl (eV (x.1,ac,x.2.2.1,J)) fun aE h _=>⟨_,B3,mq h (.cons _ (.cons _ (.refl _))),(e.j8 h).sub oL,af⟩;have R:¬E.Q7≠0:=(by rw[yE] at R;exact fun hh=>hh (yP.1 R));have eg:gX n c E={ n with J6:=n.J6.set c E.Q8 }:=(by unfold gX;rw[if_neg R]);rw[eg];exact⟨x,B1,h,e,ah,by dsimp only;rw[xG];omega,by dsimp only;rw[xG];omega,by dsimp only;rw[xG];omega,by dsimp only;omega⟩;rintro _ bM ⟨x',B',h,e,q1,q2,q3,q4,q5⟩;refine oC h 3 rfl (kA k v pb t) rfl<|oC h 1 rfl x' rfl<|oA h 0 rfl E.J5 rfl<|qqQ (Y:=[au,r8,r3,r1]++Y) e.rY e.cA oJ oJ oJ (qxf q1 q2 q3) hp fun aO F2 bN bt aP a5 aF a6=>?_;have g:=e.sg.next h aF a6
    have h:=rU h aF fun b hb=>e.rY.yf b (by simp at hb⊢;rcases hb with h|h|h|h<;>simp[h]);exact oG h 2 rfl (qK (uy (gH k v M1 p (gX n c E) E.J5).1.1 aO)) rfl rfl (zO rfl) fun a7 h _=>oC h 2 rfl (uy (gH k v M1 p (gX n c E) E.J5).1.1 aO) rfl<|kk aO F2 a7 bt (aP.j8 h).j5 (H8 (qT a5 h)) (g.fr h) g.new
end
end
section
def rX{H u C E:WP}{K:Prop}(h:H w)(G:u w)(I:C w)(J:E w)(k:K):held [H,u,C,E] w K:=by unfold held;exact⟨⟨h,G,I,J⟩,k⟩
structure qO (S0 Z:List Nat) (w:World) (x:kV) (n:dN) (pk pv:qy):Prop where
 lens:pE x n
 nb:NB n
 J3:gM pk=n.J3
 J7:gM pv=n.J7
 rk:dX gT 1 S0 w x.2.1 (i3 pk)
 rv:dX gT 1 S0 w x.2.2.1 (i3 pv)
 ri:dX jc 1 S0 w x.2.2.2 n.J6
 ek:∀ p∈pk,eF Z w p.1 p.2
 ev:∀ p∈pv,eF Z w p.1 p.2
section
variable {S S0 S0' Z Z' B:List Nat} {w w':World} {x:kV} {n:dN} {pk pv:qy}
def fI.CF(h:fI Z w x n B)(C:∀b∈B,b∉S0):∃pk pv,qO S0 Z w x n pk pv:=by have G:eO [] w x n:=h.rd (fun _ _ h=>(nomatch h)) fun _ h=>nomatch h;have I:=G.lens;obtain⟨h0,E,Bk,Bv,Bi,rfl,J,⟨pk,O,Q,R⟩,⟨pv,U,V,v3⟩,hi⟩:=h;exact⟨pk,pv,I,E,Q,V,O.kF xa fun b u=>C b (by simp[u]),U.kF xa fun b u=>C b (by simp[u]),hi.kF ug fun b u=>C b (by simp[u]),R,v3⟩
def qO.q8(h:qO S0 Z w x n pk pv)(f:Fr S w w')(G:∀b∈S,b∈S0)(E:∀b∈S,b∈Z)(C:m7 S0 w S0')(J:m7 Z w Z'):qO S0' Z' w' x n pk pv where
 lens:=h.lens
 nb:=h.nb
 J3:=h.J3
 J7:=h.J7
 rk:=h.rk.q8 (f.mono fun b u _=>G b u) C
 rv:=h.rv.q8 (f.mono fun b u _=>G b u) C
 ri:=h.ri.q8 (f.mono fun b u _=>G b u) C
 ek:=fun p I=>(h.ek p I).q8 (f.mono fun b u _=>E b u) J
 ev:=fun p I=>(h.ev p I).q8 (f.mono fun b u _=>E b u) J
def qO.uI(h:qO S0 Z w x n pk pv):pk.length=n.J3.length:=by rw[<- h.J3,zK]
def qO.ze(h:qO S0 Z w x n pk pv):pv.length=n.J7.length:=by rw[<- h.J7,zK]
def qO.rdK(h:qO S0 Z w x n pk pv)(u:∀b∈S0,b∈Z):jO S0 w x.2.1 pk:=⟨h.rk,fun p C=>(h.ek p C).q8 (.refl _ _) fun b E=>.inl (u b E)⟩
def qO.rdV(h:qO S0 Z w x n pk pv)(u:∀b∈S0,b∈Z):jO S0 w x.2.2.1 pv:=⟨h.rv,fun p C=>(h.ev p C).q8 (.refl _ _) fun b E=>.inl (u b E)⟩
def dX.cJ{i:Int}{K:Addr->Sl->Prop}(h:dX gT 1 S w s (i3 ps))(n:Nat)(hi:i=n)(J:n<ps.length)(O:∀a,(∀S' w',dX gT 1 S' w' s (i3 ps)->w'.cell? a=some (.slice ps[n].1.a ps[n].1.len ps[n].1.cap))->K a ps[n].1):idx s i 1 fun a=>ld .slice a w fun y=>K a y:=by
 subst hi;have G:(i3 ps)[n]?=some ps[n].1:=(by rw[zQ,zA J];rfl);obtain⟨V,b,o,I,_,cs,T,fr,hb,hc⟩:=h.at n G;refine rM I ⟨oJ,oJ⟩ ?_;rw[zJ];have key:∀S' w',dX gT 1 S' w' s (i3 ps)->w'.cell? ⟨b,o+n*1,none⟩=some (.slice ps[n].1.a ps[n].1.len ps[n].1.cap):=fun S' w' Q=>by
  obtain⟨_,b',o',u,_,R,T',U,C,E⟩:=Q.at n G;rw[I] at u;cases u;rw[kj C]
  have:=congrArg (·[0]?) E
  simpa[gT] using this
 exact qI ps[n].1 (key S w h) (O _ key)
def qO.nA(h:qO S0 Z w x n pk pv)(hi:i<pk.length):n.J3.getD i []=pk[i].2:=by rw[<- h.J3,zp hi]
def qO.tu(h:qO S0 Z w x n pk pv)(hi:i<pv.length):n.J7.getD i []=pv[i].2:=by rw[<- h.J7,zp hi]
def vh{n:dN}(hi:i<n.J6.length):n.J6.getD i 0=n.J6[i]:=by rw[yR,zA hi];rfl
end
structure ia (n:dN):Prop where
 Q1:n.Q1=true->n.J7.length=n.J3.length
 inner:n.Q1=false->n.J6.length=n.J3.length+1
 J3:n.J3.length<=2000
 J7:n.J7.length<=2000
 J6:n.J6.length<=2000
section
variable {dbk pb j:Nat} {FD Y F Bl Br:List Nat} {D:dM} {w0:World} {M:eQ} {xl xr:kV} {nl nr:dN} {ks:Sl} {key:Key}
def zoT{b:Nat}(h:b∈T):b∈Zo FD (T++Y) F:=by simp[h]
def C4:∀b∈Zo FD Y F,b∈Zo FD (T++(Bl++Y)) F:=fun b h=>by simp only[Zo,zD,zG] at h⊢;rcases h with (h|h|h)|h<;>simp[h]
def AB{α:Type}(l:List α)(x:α):ga l 0 x=x::l:=by unfold ga;simp
def qyG{K:kV×kV×Sl->WP}(hT:TW dbk pb FD D j w0 (Br++(Bl++Y)) F M)(hl:fI (Zo FD (Br++(Bl++Y)) F) w0 xl nl Bl)(hr:fI (Zo FD (Br++(Bl++Y)) F) w0 xr nr Br)(d1:∀b∈Br,b∉Bl)(d2:∀b∈Br,b∉Y)(d3:∀b∈Bl,b∉Y)(hk:eF (Zo FD (Br++(Bl++Y)) F) w0 ks key)(au:eS key)(bd:nl.Q1=nr.Q1)(h1:1<=nl.J3.length)(sl:ia nl)(sr:ia nr)(kk:∀yl yr aA w',TW dbk pb FD D j w' Y F M->eO (Zo FD Y F) w' yl (jr nl nr key).1->eO (Zo FD Y F) w' yr (jr nl nr key).2.1->eF (Zo FD Y F) w' aA (jr nl nr key).2.2->Fr (Br++F) w0 w'->K (yl,yr,aA) w'): cW 244 [.agg (eV xl),.agg (eV xr),ks.v] [.agg ed,.agg ed,.one .slice] w0 K:=by
 refine qs2 ?_;unfold Dv E9;obtain⟨pk,pv,o⟩:=hl.CF (S0:=Br++Zo FD Y F) fun b u V=>by rcases zD.1 V with V|V;exact d1 b V u;have h0:=hT.sep b (by simp[u]);simp only[Zo,zD,zG] at V;rcases V with (V|V|V)|V;exact h0.1 V;exact h0.2 V;exact d3 b u V;exact hT.yf b (by simp[u]) V
 have e0:Ed dbk pb FD D j (Br++F) Br w0 w0 [] (Bl++Y) F M xr nr Br:=⟨⟨.refl _ _,fun b u=>.inl (by simp[u]),fun _ h=>nomatch h⟩,hT,hr,fun _ h=>(nomatch h),fun b u=>.inl u,fun b u=>by simp[u],fun b u V=>(zD.1 V).elim (d1 b u) (d2 b u)⟩;have ab:∀b∈Br++Zo FD Y F,b∈Zo FD (Br++(Bl++Y)) F:=fun b u=>by simp only[Zo,zD,zG] at u⊢;rcases u with u|(u|u|u)|u<;>simp[u]
 have ac:∀b∈Br++F,b∈Br++Zo FD Y F:=fun b u=>by simp only[Zo,zD,zG] at u⊢;rcases u with u|u<;>simp[u]
 have nZ:∀ {w' T x' n' B'},Ed dbk pb FD D j (Br++F) Br w0 w' T (Bl++Y) F M x' n' B'->m7 (Zo FD (Br++(Bl++Y)) F) w0 (Zo FD (T++(B'++(Bl++Y))) F):=fun e b u=>by simp only[Zo,zD,zG] at u;rcases u with (u|u|u|u|u|u)|u;exact .inl (by simp[u]);exact .inl (by simp[u]);exact (e.sg.own b u).imp (fun h=>ab b (ac b h)) id;exact (e.cI b u).imp (fun h=>ab b (ac b (e.cS b h))) id;exact .inl (by simp[u]);exact .inl (by simp[u]);exact .inl (by simp[u])
 have O:∀ {w' T x' n' B'},Ed dbk pb FD D j (Br++F) Br w0 w' T (Bl++Y) F M x' n' B'->qO (Br++Zo FD Y F) (Zo FD (T++(B'++(Bl++Y))) F) w' xl nl pk pv:=fun e=>o.q8 e.fr ac (fun b u=>ab b (ac b u)) (fun b u=>.inl u) (nZ e);have aB:=o.rdK ab;have aC:=o.rdV ab;have ad:∀ {w' T x' n' B'},Ed dbk pb FD D j (Br++F) Br w0 w' T (Bl++Y) F M x' n' B'->Fr (Br++Zo FD Y F) w0 w':=fun e=>e.fr.mono fun b u _=>ac b u;have ae:∀b∈Zo FD Y F,b∈Br++Zo FD Y F\/w0.heap.size<=b:=fun b u=>.inl (zI _ u);have Q:=o.lens;have kl:=o.uI;have vl:=o.ze;have sk:=sl.J3;have bf:=sr.J3;have bg:=sr.J7;have bh:=sr.J6;have aM:wrap .i64 ((xl.2.1.len:Int)-1)=((nl.J3.length-1:Nat):Int):=(by rw[Q.J3,gd _ oJ];omega);have h:=oE [] w0;refine oB h fun r1 w2 _ _ h=>oB h fun r3 w4 _ _ h=>oB h fun r5 w6 _ _ h=>oB h fun r7 w8 _ _ h=>oA h 3 rfl xl.2.1 rfl<|oA h 3 rfl xl.1 rfl ?_;rw[aM];apply eH<;>intro hc
 ·rw[Q.Q1] at hc;have bi:=sl.Q1 hc;have hG:jr nl nr key=({ nl with J3:=nl.J3.take (nl.J3.length-1),J7:=nl.J7.take (nl.J3.length-1) },{ nr with J3:=nl.J3.getD (nl.J3.length-1) []::nr.J3,J7:=nl.J7.getD (nl.J3.length-1) []::nr.J7 },nl.J3.getD (nl.J3.length-1) []):=(by unfold jr;rw[if_pos hc]);have hi:nl.J3.length-1<pk.length:=oJ;have R:nl.J3.length-1<pv.length:=oJ;rw[hG,o.nA hi,o.tu R] at kk;have aa:eS pk[nl.J3.length-1].2:=(by rw[<- o.nA hi];exact uw o.nb.1 _);have aw:eS pv[nl.J3.length-1].2:=(by rw[<- o.tu R];exact uw o.nb.2.1 _);refine⟨?a1,?a2,?a3⟩;case' a1=>
   have h:=oF h;refine oA h 2 rfl xr.2.1 rfl<|oA h 3 rfl xl.2.1 rfl<|dX.cJ ((o.rk).q7 h.fr) (nl.J3.length-1) rfl hi fun ag G=>oA h 2 rfl xr.2.2.1 rfl<|oA h 3 rfl xl.2.2.1 rfl<|dX.cJ ((o.rv).q7 h.fr) (nl.J3.length-1) rfl R fun aD U=>oB h fun ah ai _ _ h=>?_;have e:=e0.j8 h;refine rX (U _ _ (O e).rv) (h.cell 4 rfl rfl) (h.cell 3 rfl rfl) (h.cell 3 rfl rfl)<|e.cP h (i:=0) (yX _) rfl oJ 0 rfl ((O e).ek _ (zX hi)) aa fun C B1 aj e h _=>mX (U _ _ (O e).rv) (h.cell 4 rfl rfl) (h.cell 3 rfl rfl)<|oB h fun ak al _ _ h=>?_;have e:=e.j8 h;refine rX (h.cell 4 rfl rfl) (G _ _ (O e).rk) (h.cell 5 rfl rfl) (h.cell 4 rfl rfl)<|e.t7 h (i:=0) (yX _) rfl oN 0 rfl ((O e).ev _ (zX R)) aw fun E B2 am e h _=>?_
  case' a2=>
   have h:=oF h;refine oA h 2 rfl xr.2.1 rfl<|oA h 3 rfl xl.2.1 rfl<|dX.cJ ((o.rk).q7 h.fr) (nl.J3.length-1) rfl hi fun ag G=>oA h 2 rfl xr.2.2.1 rfl<|oA h 3 rfl xl.2.2.1 rfl<|dX.cJ ((o.rv).q7 h.fr) (nl.J3.length-1) rfl R fun aD U=>oB h fun ah ai _ _ h=>rX (U _ _ (O (e0.j8 h)).rv) (h.cell 4 rfl rfl) (h.cell 3 rfl rfl) (h.cell 3 rfl rfl)<|oB h fun ak al _ _ h=>?_;have e:=e0.j8 h;refine rX (h.cell 4 rfl rfl) (G _ _ (O e).rk) (h.cell 5 rfl rfl) (h.cell 4 rfl rfl)<|e.cP h (i:=0) (yX _) rfl oJ 1 rfl ((O e).ek _ (zX hi)) aa fun C B1 aj e h _=>mX (U _ _ (O e).rv) (h.cell 5 rfl rfl) (h.cell 4 rfl rfl)<|e.t7 h (i:=0) (yX _) rfl oN 0 rfl ((O e).ev _ (zX R)) aw fun E B2 am e h _=>?_
  case' a3=>
   have h:=oF h;refine oA h 2 rfl xr.2.1 rfl<|oA h 3 rfl xl.2.1 rfl<|dX.cJ ((o.rk).q7 h.fr) (nl.J3.length-1) rfl hi fun ag G=>oA h 2 rfl xr.2.2.1 rfl<|oA h 3 rfl xl.2.2.1 rfl<|dX.cJ ((o.rv).q7 h.fr) (nl.J3.length-1) rfl R fun aD U=>oB h fun ah ai _ _ h=>rX (h.cell 3 rfl rfl) (G _ _ (O (e0.j8 h)).rk) (h.cell 4 rfl rfl) (h.cell 3 rfl rfl)<|oB h fun ak al _ _ h=>?_;have e:=e0.j8 h;refine rX (U _ _ (O e).rv) (h.cell 5 rfl rfl) (h.cell 4 rfl rfl) (h.cell 4 rfl rfl)<|e.cP h (i:=0) (yX _) rfl oJ 0 rfl ((O e).ek _ (zX hi)) aa fun C B1 aj e h _=>mX (U _ _ (O e).rv) (h.cell 5 rfl rfl) (h.cell 4 rfl rfl)<|e.t7 h (i:=0) (yX _) rfl oN 1 rfl ((O e).ev _ (zX R)) aw fun E B2 am e h _=>?_
  all_goals
   refine oD h 4 rfl (eV (xr.1,C,xr.2.2.1,xr.2.2.2)) fun aO h _=>oD h 4 rfl (eV (xr.1,C,E,xr.2.2.2)) fun aP h _=>?_;have h:=oF h;refine oA h 5 rfl xl.2.1 rfl<|jO.upto aB (nl.J3.length-1) rfl oJ fun I an=>oA h 5 rfl xl.2.2.1 rfl<|jO.upto aC (nl.J3.length-1) rfl oJ fun J ao=>oD h 5 rfl (eV (xl.1,I,xl.2.2.1,xl.2.2.2)) fun aQ h _=>oD h 5 rfl (eV (xl.1,I,J,xl.2.2.2)) fun aR h _=>?_;have h:=oF h;refine oC h 5 rfl (xl.1,I,J,xl.2.2.2) rfl<|oC h 4 rfl (xr.1,C,E,xr.2.2.2) rfl<|oA h 4 rfl C rfl ?_;have e:=e.j8 h;have h:=mq h (.refl _);obtain⟨q0,qN,⟨qk,aq,aG⟩,q4,q5⟩:=e.cA;have ax:0<qk.length:=by
    have:=congrArg List.length aG
    dsimp only at this;rw[AB,zK,yI] at this;omega
   have aT:qk[0].2=pk[nl.J3.length-1].2:=(by rw[<- zp ax,aG];dsimp only;rw[AB];rfl);refine dX.cJ aq.1 0 rfl ax fun bj aH=>oD h 3 rfl (eV (xl.1,I,J,xl.2.2.2)) fun aU h _=>mX (aH [] _ (aq.1.q8 (h.fr.mono fun b u _=>zoT u) fun _ h=>nomatch h)) (h.cell 4 rfl rfl) (h.cells 4 rfl rfl)<|oD h 2 rfl (eV (xr.1,C,E,xr.2.2.2)) fun ay h _=>ka (aH [] _ (aq.1.q8 (h.fr.mono fun b u _=>zoT u) fun _ h=>nomatch h)) (h.cell 4 rfl rfl)<|oC h 3 rfl (xl.1,I,J,xl.2.2.2) rfl<|oC h 2 rfl (xr.1,C,E,xr.2.2.2) rfl ?_;have ar:=qT (aq.2 _ (zX ax)) h;rw[aT] at ar;have e:=e.j8 h;have hR:=e.cA.j4 (S':=Zo FD Y F) fun b u=>.inl (C4 b u);rw[AB,AB] at hR;exact kk (xl.1,I,J,xl.2.2.2) (xr.1,C,E,xr.2.2.2) _ ay (e.rY.x8 fun b u=>by simp[u]) ⟨Q.Q1,⟨fun a ha=>o.nb.1 a (yV ha),fun a ha=>o.nb.2.1 a (yV ha),o.nb.2.2⟩,⟨_,an.q8 (ad e) ae,by rw[As,o.J3]⟩,⟨_,ao.q8 (ad e) ae,by rw[As,o.J7]⟩,o.ri.q8 (ad e) ae⟩
    hR (ar.q8 (.refl _ _) fun b u=>.inl (C4 b u)) e.fr
 ·rw[Q.Q1] at hc;have aV:¬nl.Q1=true:=(by rw[hc];decide);have il:=sl.inner hc;have hG:jr nl nr key=({ nl with J3:=nl.J3.take (nl.J3.length-1),J6:=nl.J6.take (nl.J3.length-1+1) },{ nr with J3:=key::nr.J3,J6:=nl.J6.getD (nl.J3.length-1+1) 0::nr.J6 },nl.J3.getD (nl.J3.length-1) []):=(by unfold jr;rw[if_neg aV]);have hi:nl.J3.length-1<pk.length:=oJ;have ap:nl.J3.length-1+1<nl.J6.length:=oJ;rw[hG,o.nA hi,vh ap] at kk;have aa:iy nl.J6[nl.J3.length-1+1]:=o.nb.2.2 _ (zX ap);have aW:wrap .i64 (((nl.J3.length-1:Nat):Int)+1)=((nl.J3.length-1+1:Nat):Int):=sS oJ;rw[aW];have kw:∀ {w' T x' n' B'},Ed dbk pb FD D j (Br++F) Br w0 w' T (Bl++Y) F M x' n' B'->eF (Zo FD (T++(B'++(Bl++Y))) F) w' ks key:=fun e=>hk.q8 (e.fr.mono fun b u _=>ab b (ac b u)) (nZ e);refine oA h 3 rfl xl.2.1 rfl<|dX.cJ ((o.rk).q7 h.fr) (nl.J3.length-1) rfl hi fun a7 a8=>⟨?b1,?b2,?b3⟩;case' b1=>
   have h:=oF h;refine oA h 2 rfl xr.2.1 rfl<|oA h 2 rfl xr.2.2.2 rfl<|oA h 3 rfl xl.2.2.2 rfl<|dX.cQ ((o.ri).q7 h.fr) (nl.J3.length-1+1) rfl ap fun ag G=>oB h fun ah ai _ _ h=>?_;have e:=e0.j8 h;refine rX (G _ _ (O e).ri) (h.cell 4 rfl rfl) (h.cell 3 rfl rfl) (h.cell 3 rfl rfl)<|e.cP h (i:=0) (yX _) rfl oJ 0 rfl (kw e) au fun C B1 aj e h _=>mX (G _ _ (O e).ri) (h.cell 4 rfl rfl) (h.cell 3 rfl rfl)<|oB h fun ak al _ _ h=>?_;have e:=e.j8 h;refine ka (h.cell 4 rfl rfl) (h.cell 4 rfl rfl)<|e.tU h (i:=0) (yX _) rfl oN 0 rfl aa fun E B2 am e h _=>?_
  case' b2=>
   have h:=oF h;refine oA h 2 rfl xr.2.1 rfl<|oA h 2 rfl xr.2.2.2 rfl<|oA h 3 rfl xl.2.2.2 rfl<|dX.cQ ((o.ri).q7 h.fr) (nl.J3.length-1+1) rfl ap fun ag G=>oB h fun ah ai _ _ h=>rX (G _ _ (O (e0.j8 h)).ri) (h.cell 4 rfl rfl) (h.cell 3 rfl rfl) (h.cell 3 rfl rfl)<|oB h fun ak al _ _ h=>?_;have e:=e0.j8 h;refine ka (h.cell 4 rfl rfl) (h.cell 4 rfl rfl)<|e.cP h (i:=0) (yX _) rfl oJ 1 rfl (kw e) au fun C B1 aj e h _=>mX (G _ _ (O e).ri) (h.cell 5 rfl rfl) (h.cell 4 rfl rfl)<|e.tU h (i:=0) (yX _) rfl oN 0 rfl aa fun E B2 am e h _=>?_
  case' b3=>
   have h:=oF h;refine oA h 2 rfl xr.2.1 rfl<|oA h 2 rfl xr.2.2.2 rfl<|oA h 3 rfl xl.2.2.2 rfl<|dX.cQ ((o.ri).q7 h.fr) (nl.J3.length-1+1) rfl ap fun ag G=>oB h fun ah ai _ _ h=>ka (h.cell 3 rfl rfl) (h.cell 3 rfl rfl)<|oB h fun ak al _ _ h=>?_;have e:=e0.j8 h;refine rX (G _ _ (O e).ri) (h.cell 5 rfl rfl) (h.cell 4 rfl rfl) (h.cell 4 rfl rfl)<|e.cP h (i:=0) (yX _) rfl oJ 0 rfl (kw e) au fun C B1 aj e h _=>mX (G _ _ (O e).ri) (h.cell 5 rfl rfl) (h.cell 4 rfl rfl)<|e.tU h (i:=0) (yX _) rfl oN 1 rfl aa fun E B2 am e h _=>?_
  all_goals
   refine oD h 4 rfl (eV (xr.1,C,xr.2.2.1,xr.2.2.2)) fun aO h _=>oD h 4 rfl (eV (xr.1,C,xr.2.2.1,E)) fun aP h _=>?_;have h:=oF h;refine oA h 5 rfl xl.2.1 rfl<|jO.upto aB (nl.J3.length-1) rfl oJ fun I an=>oA h 5 rfl xl.2.2.2 rfl<|dX.CB o.ri (nl.J3.length-1+1) rfl oJ fun J ao=>oD h 5 rfl (eV (xl.1,I,xl.2.2.1,xl.2.2.2)) fun aQ h _=>oD h 5 rfl (eV (xl.1,I,xl.2.2.1,J)) fun aR h _=>?_;have h:=oF h;refine oC h 5 rfl (xl.1,I,xl.2.2.1,J) rfl<|oC h 4 rfl (xr.1,C,xr.2.2.1,E) rfl<|oD h 3 rfl (eV (xl.1,I,xl.2.2.1,J)) fun aU h _=>iM (h.cells 4 rfl rfl)<|oD h 2 rfl (eV (xr.1,C,xr.2.2.1,E)) fun ay h _=>oC h 3 rfl (xl.1,I,xl.2.2.1,J) rfl<|oC h 2 rfl (xr.1,C,xr.2.2.1,E) rfl ?_;have e:=e.j8 h;have hR:=e.cA.j4 (S':=Zo FD Y F) fun b u=>.inl (C4 b u);rw[AB,AB] at hR;exact kk (xl.1,I,xl.2.2.1,J) (xr.1,C,xr.2.2.1,E) _ ay (e.rY.x8 fun b u=>by simp[u]) ⟨Q.Q1,⟨fun a ha=>o.nb.1 a (yV ha),o.nb.2.1,fun a ha=>o.nb.2.2 a (yV ha)⟩,⟨_,an.q8 (ad e) ae,by rw[As,o.J3]⟩,⟨_,aC.q8 (ad e) ae,o.J7⟩,ao.q8 (ad e) ae⟩
    hR (((O e).ek _ (zX hi)).q8 (.refl _ _) fun b u=>.inl (by simp only[Zo,zD,zG] at u⊢;rcases u with (u|u|u)|u<;>simp[u])) e.fr
end
end
section
section
variable {dbk pb j:Nat} {FD Y F Bl Br:List Nat} {D:dM} {w0:World} {M:eQ} {xl xr:kV} {nl nr:dN} {ks:Sl} {key:Key}
def qzh{K:kV×kV×Sl->WP}(hT:TW dbk pb FD D j w0 (Bl++(Br++Y)) F M)(hl:fI (Zo FD (Bl++(Br++Y)) F) w0 xl nl Bl)(hr:fI (Zo FD (Bl++(Br++Y)) F) w0 xr nr Br)(d1:∀b∈Bl,b∉Br)(d2:∀b∈Bl,b∉Y)(d3:∀b∈Br,b∉Y)(hk:eF (Zo FD (Bl++(Br++Y)) F) w0 ks key)(aq:eS key)(ay:nl.Q1=nr.Q1)(h1:1<=nr.J3.length)(h2:nr.Q1=true->2<=nr.J3.length)(sl:ia nl)(sr:ia nr)(kk:∀yl yr az w',TW dbk pb FD D j w' Y F M->eO (Zo FD Y F) w' yl (takeN nl nr key).1->eO (Zo FD Y F) w' yr (takeN nl nr key).2.1->eF (Zo FD Y F) w' az (takeN nl nr key).2.2->Fr (Bl++F) w0 w'->K (yl,yr,az) w'): cW 245 [.agg (eV xl),.agg (eV xr),ks.v] [.agg ed,.agg ed,.one .slice] w0 K:=by
 refine qs3 ?_;unfold DM EO;obtain⟨pk,pv,o⟩:=hr.CF (S0:=Bl++Zo FD Y F) fun b u hm=>by rcases zD.1 hm with hm|hm;exact d1 b hm u;have h0:=hT.sep b (by simp[u]);simp only[Zo,zD,zG] at hm;rcases hm with (hm|hm|hm)|hm;exact h0.1 hm;exact h0.2 hm;exact d3 b u hm;exact hT.yf b (by simp[u]) hm
 have e0:Ed dbk pb FD D j (Bl++F) Bl w0 w0 [] (Br++Y) F M xl nl Bl:=⟨⟨.refl _ _,fun b u=>.inl (by simp[u]),fun _ h=>nomatch h⟩,hT,hl,fun _ h=>(nomatch h),fun b u=>.inl u,fun b u=>by simp[u],fun b u hm=>(zD.1 hm).elim (d1 b u) (d2 b u)⟩;have ac:∀b∈Bl++Zo FD Y F,b∈Zo FD (Bl++(Br++Y)) F:=fun b u=>by simp only[Zo,zD,zG] at u⊢;rcases u with u|(u|u|u)|u<;>simp[u]
 have ad:∀b∈Bl++F,b∈Bl++Zo FD Y F:=fun b u=>by simp only[Zo,zD,zG] at u⊢;rcases u with u|u<;>simp[u]
 have nZ:∀ {w' T x' n' B'},Ed dbk pb FD D j (Bl++F) Bl w0 w' T (Br++Y) F M x' n' B'->m7 (Zo FD (Bl++(Br++Y)) F) w0 (Zo FD (T++(B'++(Br++Y))) F):=fun e b u=>by simp only[Zo,zD,zG] at u;rcases u with (u|u|u|u|u|u)|u;exact .inl (by simp[u]);exact .inl (by simp[u]);exact (e.sg.own b u).imp (fun h=>ac b (ad b h)) id;exact (e.cI b u).imp (fun h=>ac b (ad b (e.cS b h))) id;exact .inl (by simp[u]);exact .inl (by simp[u]);exact .inl (by simp[u])
 have J:∀ {w' T x' n' B'},Ed dbk pb FD D j (Bl++F) Bl w0 w' T (Br++Y) F M x' n' B'->qO (Bl++Zo FD Y F) (Zo FD (T++(B'++(Br++Y))) F) w' xr nr pk pv:=fun e=>o.q8 e.fr ad (fun b u=>ac b (ad b u)) (fun b u=>.inl u) (nZ e);have aA:=o.rdK ac;have aB:=o.rdV ac;have Q:∀ {w' T x' n' B'},Ed dbk pb FD D j (Bl++F) Bl w0 w' T (Br++Y) F M x' n' B'->Fr (Bl++Zo FD Y F) w0 w':=fun e=>e.fr.mono fun b u _=>ad b u;have ae:∀b∈Zo FD Y F,b∈Bl++Zo FD Y F\/w0.heap.size<=b:=fun b u=>.inl (zI _ u);have al:=o.lens;have kl:=o.uI;have vl:=o.ze;have sk:=sr.J3;have bj:=sl.J3;have bk:=sl.J7;have bl:=sl.J6;have h:=oE [] w0;refine oB h fun r1 w2 _ _ h=>oB h fun r3 w4 _ _ h=>oB h fun r5 w6 _ _ h=>oB h fun r7 w8 _ _ h=>oA h 3 rfl xl.1 rfl ?_;apply eH<;>intro hc
 ·rw[hl.1] at hc;have aC:nr.Q1=true:=(by rw[<- ay];exact hc);have h2:=h2 aC;have bm:=sr.Q1 aC;have hG:takeN nl nr key=({ nl with J3:=nl.J3++[nr.J3.getD 0 []],J7:=nl.J7++[nr.J7.getD 0 []] },{ nr with J3:=nr.J3.drop 1,J7:=nr.J7.drop 1 },(nr.J3.drop 1).getD 0 []):=(by unfold takeN;rw[if_pos hc]);have hi:0<pk.length:=oJ;have R:0<pv.length:=oJ;have au:0<(pk.drop 1).length:=(by rw[yC];omega);have aW:(nr.J3.drop 1).getD 0 []=(pk.drop 1)[0].2:=(by rw[<- o.J3,<- Af,zp au]);rw[hG,o.nA hi,o.tu R,aW] at kk;have ab:eS pk[0].2:=(by rw[<- o.nA hi];exact uw o.nb.1 _);have av:eS pv[0].2:=(by rw[<- o.tu R];exact uw o.nb.2.1 _);refine⟨?a1,?a2,?a3⟩;case' a1=>
   have h:=oF h;refine oA h 3 rfl xl.2.1 rfl<|oA h 2 rfl xr.2.1 rfl<|dX.cJ ((o.rk).q7 h.fr) 0 rfl hi fun aD ag=>oA h 3 rfl xl.2.2.1 rfl<|oA h 2 rfl xr.2.2.1 rfl<|dX.cJ ((o.rv).q7 h.fr) 0 rfl R fun aE U=>oB h fun aF aG _ _ h=>?_;have e:=e0.j8 h;refine rX (U _ _ (J e).rv) (h.cell 3 rfl rfl) (h.cell 4 rfl rfl) (h.cell 4 rfl rfl)<|e.qF h oJ 0 rfl ((J e).ek _ (zX hi)) ab fun C B1 aI e h _=>mX (U _ _ (J e).rv) (h.cell 3 rfl rfl) (h.cell 4 rfl rfl)<|oB h fun aJ aK _ _ h=>?_;have e:=e.j8 h;refine rX (h.cell 5 rfl rfl) (ag _ _ (J e).rk) (h.cell 4 rfl rfl) (h.cell 5 rfl rfl)<|e.zd h oN 0 rfl ((J e).ev _ (zX R)) av fun E B2 aM e h _=>?_
  case' a2=>
   have h:=oF h;refine oA h 3 rfl xl.2.1 rfl<|oA h 2 rfl xr.2.1 rfl<|dX.cJ ((o.rk).q7 h.fr) 0 rfl hi fun aD ag=>oA h 3 rfl xl.2.2.1 rfl<|oA h 2 rfl xr.2.2.1 rfl<|dX.cJ ((o.rv).q7 h.fr) 0 rfl R fun aE U=>oB h fun aF aG _ _ h=>rX (U _ _ (J (e0.j8 h)).rv) (h.cell 3 rfl rfl) (h.cell 4 rfl rfl) (h.cell 4 rfl rfl)<|oB h fun aJ aK _ _ h=>?_;have e:=e0.j8 h;refine rX (h.cell 5 rfl rfl) (ag _ _ (J e).rk) (h.cell 4 rfl rfl) (h.cell 5 rfl rfl)<|e.qF h oJ 1 rfl ((J e).ek _ (zX hi)) ab fun C B1 aI e h _=>mX (U _ _ (J e).rv) (h.cell 4 rfl rfl) (h.cell 5 rfl rfl)<|e.zd h oN 0 rfl ((J e).ev _ (zX R)) av fun E B2 aM e h _=>?_
  case' a3=>
   have h:=oF h;refine oA h 3 rfl xl.2.1 rfl<|oA h 2 rfl xr.2.1 rfl<|dX.cJ ((o.rk).q7 h.fr) 0 rfl hi fun aD ag=>oA h 3 rfl xl.2.2.1 rfl<|oA h 2 rfl xr.2.2.1 rfl<|dX.cJ ((o.rv).q7 h.fr) 0 rfl R fun aE U=>oB h fun aF aG _ _ h=>rX (h.cell 4 rfl rfl) (ag _ _ (J (e0.j8 h)).rk) (h.cell 3 rfl rfl) (h.cell 4 rfl rfl)<|oB h fun aJ aK _ _ h=>?_;have e:=e0.j8 h;refine rX (U _ _ (J e).rv) (h.cell 4 rfl rfl) (h.cell 5 rfl rfl) (h.cell 5 rfl rfl)<|e.qF h oJ 0 rfl ((J e).ek _ (zX hi)) ab fun C B1 aI e h _=>mX (U _ _ (J e).rv) (h.cell 4 rfl rfl) (h.cell 5 rfl rfl)<|e.zd h oN 1 rfl ((J e).ev _ (zX R)) av fun E B2 aM e h _=>?_
  all_goals
   refine oD h 5 rfl (eV (xl.1,C,xl.2.2.1,xl.2.2.2)) fun ak h _=>oD h 5 rfl (eV (xl.1,C,E,xl.2.2.2)) fun aX h _=>?_;have h:=oF h;refine oA h 4 rfl xr.2.1 rfl<|jO.from aA 1 rfl oJ fun G O=>oA h 4 rfl xr.2.2.1 rfl<|jO.from aB 1 rfl oJ fun I ah=>oD h 4 rfl (eV (xr.1,G,xr.2.2.1,xr.2.2.2)) fun aY h _=>oD h 4 rfl (eV (xr.1,G,I,xr.2.2.2)) fun aZ h _=>?_;have h:=oF h;refine oC h 5 rfl (xl.1,C,E,xl.2.2.2) rfl<|oC h 4 rfl (xr.1,G,I,xr.2.2.2) rfl<|oA h 4 rfl G rfl<|dX.cJ (O.q8 (Q (e.j8 h)) fun b u=>.inl u).1 0 rfl au fun bn aN=>oD h 3 rfl (eV (xl.1,C,E,xl.2.2.2)) fun a0 h _=>mX (aN _ _ (O.q8 (Q (e.j8 h)) fun b u=>.inl u).1) (h.cell 4 rfl rfl) (h.cells 4 rfl rfl)<|oD h 2 rfl (eV (xr.1,G,I,xr.2.2.2)) fun aw h _=>ka (aN _ _ (O.q8 (Q (e.j8 h)) fun b u=>.inl u).1) (h.cell 4 rfl rfl)<|oC h 3 rfl (xl.1,C,E,xl.2.2.2) rfl<|oC h 2 rfl (xr.1,G,I,xr.2.2.2) rfl ?_;have e:=e.j8 h;have hR:=e.cA.j4 (S':=Zo FD Y F) fun b u=>.inl (C4 b u);have ai:=O.q8 (Q e) ae;exact kk (xl.1,C,E,xl.2.2.2) (xr.1,G,I,xr.2.2.2) _ aw (e.rY.x8 fun b u=>by simp[u]) hR ⟨al.Q1,⟨fun a ha=>o.nb.1 a (yU ha),fun a ha=>o.nb.2.1 a (yU ha),o.nb.2.2⟩,⟨_,ai,by rw[Af,o.J3]⟩,⟨_,ah.q8 (Q e) ae,by rw[Af,o.J7]⟩,o.ri.q8 (Q e) ae⟩
    (ai.2 _ (zX au)) e.fr
 ·rw[hl.1] at hc;have a5:¬nl.Q1=true:=(by rw[hc];decide);have il:=sr.inner (by rw[<- ay];exact hc);have hG:takeN nl nr key=({ nl with J3:=nl.J3++[key],J6:=nl.J6++[nr.J6.getD 0 0] },{ nr with J3:=nr.J3.drop 1,J6:=nr.J6.drop 1 },nr.J3.getD 0 []):=(by unfold takeN;rw[if_neg a5]);have hi:0<pk.length:=oJ;have aj:0<nr.J6.length:=oJ;rw[hG,o.nA hi,vh aj] at kk;have ab:iy nr.J6[0]:=o.nb.2.2 _ (zX aj);have kw:∀ {w' T x' n' B'},Ed dbk pb FD D j (Bl++F) Bl w0 w' T (Br++Y) F M x' n' B'->eF (Zo FD (T++(B'++(Br++Y))) F) w' ks key:=fun e=>hk.q8 (e.fr.mono fun b u _=>ac b (ad b u)) (nZ e);refine oA h 2 rfl xr.2.1 rfl<|dX.cJ ((o.rk).q7 h.fr) 0 rfl hi fun bc bd=>⟨?b1,?b2,?b3⟩;case' b1=>
   have h:=oF h;refine oA h 3 rfl xl.2.1 rfl<|oA h 3 rfl xl.2.2.2 rfl<|oA h 2 rfl xr.2.2.2 rfl<|dX.cQ ((o.ri).q7 h.fr) 0 rfl aj fun aO V=>oB h fun am an _ _ h=>?_;have e:=e0.j8 h;refine rX (V _ _ (J e).ri) (h.cell 3 rfl rfl) (h.cell 4 rfl rfl) (h.cell 4 rfl rfl)<|e.qF h oJ 0 rfl (kw e) aq fun C B1 aP e h _=>mX (V _ _ (J e).ri) (h.cell 3 rfl rfl) (h.cell 4 rfl rfl)<|oB h fun ao ap _ _ h=>?_;have e:=e.j8 h;refine ka (h.cell 5 rfl rfl) (h.cell 5 rfl rfl)<|e.ym h oN 0 rfl ab fun E B2 ak e h _=>?_
  case' b2=>
   have h:=oF h;refine oA h 3 rfl xl.2.1 rfl<|oA h 3 rfl xl.2.2.2 rfl<|oA h 2 rfl xr.2.2.2 rfl<|dX.cQ ((o.ri).q7 h.fr) 0 rfl aj fun aO V=>oB h fun am an _ _ h=>rX (V _ _ (J (e0.j8 h)).ri) (h.cell 3 rfl rfl) (h.cell 4 rfl rfl) (h.cell 4 rfl rfl)<|oB h fun ao ap _ _ h=>?_;have e:=e0.j8 h;refine ka (h.cell 5 rfl rfl) (h.cell 5 rfl rfl)<|e.qF h oJ 1 rfl (kw e) aq fun C B1 aP e h _=>mX (V _ _ (J e).ri) (h.cell 4 rfl rfl) (h.cell 5 rfl rfl)<|e.ym h oN 0 rfl ab fun E B2 ak e h _=>?_
  case' b3=>
   have h:=oF h;refine oA h 3 rfl xl.2.1 rfl<|oA h 3 rfl xl.2.2.2 rfl<|oA h 2 rfl xr.2.2.2 rfl<|dX.cQ ((o.ri).q7 h.fr) 0 rfl aj fun aO V=>oB h fun am an _ _ h=>ka (h.cell 4 rfl rfl) (h.cell 4 rfl rfl)<|oB h fun ao ap _ _ h=>?_;have e:=e0.j8 h;refine rX (V _ _ (J e).ri) (h.cell 4 rfl rfl) (h.cell 5 rfl rfl) (h.cell 5 rfl rfl)<|e.qF h oJ 0 rfl (kw e) aq fun C B1 aP e h _=>mX (V _ _ (J e).ri) (h.cell 4 rfl rfl) (h.cell 5 rfl rfl)<|e.ym h oN 1 rfl ab fun E B2 ak e h _=>?_
  all_goals
   refine oD h 5 rfl (eV (xl.1,C,xl.2.2.1,xl.2.2.2)) fun ak h _=>oD h 5 rfl (eV (xl.1,C,xl.2.2.1,E)) fun aX h _=>?_;have h:=oF h;refine oA h 4 rfl xr.2.1 rfl<|jO.from aA 1 rfl oJ fun G O=>oA h 4 rfl xr.2.2.2 rfl<|dX.xh o.ri 1 rfl oJ fun I ah=>oD h 4 rfl (eV (xr.1,G,xr.2.2.1,xr.2.2.2)) fun aY h _=>oD h 4 rfl (eV (xr.1,G,xr.2.2.1,I)) fun aZ h _=>?_;have h:=oF h;refine oC h 5 rfl (xl.1,C,xl.2.2.1,E) rfl<|oC h 4 rfl (xr.1,G,xr.2.2.1,I) rfl<|oD h 3 rfl (eV (xl.1,C,xl.2.2.1,E)) fun a0 h _=>iM (h.cells 4 rfl rfl)<|oD h 2 rfl (eV (xr.1,G,xr.2.2.1,I)) fun aw h _=>oC h 3 rfl (xl.1,C,xl.2.2.1,E) rfl<|oC h 2 rfl (xr.1,G,xr.2.2.1,I) rfl ?_;have e:=e.j8 h;have hR:=e.cA.j4 (S':=Zo FD Y F) fun b u=>.inl (C4 b u);exact kk (xl.1,C,xl.2.2.1,E) (xr.1,G,xr.2.2.1,I) _ aw (e.rY.x8 fun b u=>by simp[u]) hR ⟨al.Q1,⟨fun a ha=>o.nb.1 a (yU ha),o.nb.2.1,fun a ha=>o.nb.2.2 a (yU ha)⟩,⟨_,O.q8 (Q e) ae,by rw[Af,o.J3]⟩,⟨_,aB.q8 (Q e) ae,o.J7⟩,ah.q8 (Q e) ae⟩
    (((J e).ek _ (zX hi)).q8 (.refl _ _) fun b u=>.inl (by simp only[Zo,zD,zG] at u⊢;rcases u with (u|u|u)|u<;>simp[u])) e.fr
end
end
section
section
variable {dbk pb j:Nat} {FD S S0 S1 N0 Y Y1 F F' T B Bl Br Bn:List Nat} {D:dM} {w0 wa w w':World} {M M':eQ} {L:List (Nat×Obj)} {x xl xr:kV} {n nl nr:dN} {k v:Nat} {t:Int}
def qAu(g:Sg S0 w0 wa F T)(u:∀b∈S0,b∈S1):Sg S1 w0 wa F T:=⟨g.rg.mono fun b h _=>u b h,fun b h=>(g.new b h).imp (u b) id,fun b h=>(g.own b h).imp (u b) id⟩
structure ph (FD F:List Nat) (w:World) (T R:List Nat) (x:kV) (n:dN) (B:List Nat):Prop where
 node:fI (Zo FD (T++R) F) w x n B
 sep:∀ b∈T,b∉B
def ph.j8{R:List Nat}(o:ph FD F wa T R x n B)(h:dR T wa w L):ph FD F w (fN L) R x n B:=
 ⟨o.node.q8 h.fr (fun b u C=>o.sep b C u) (fun b u=>.inl (by simp[u])) (Dr h),fun b u C=>by
  obtain⟨q,G,rfl⟩:=mem_map.1 u;rcases h.own q G with E|E;exact o.sep _ E C
  have:=o.node.lt _ C;omega⟩
def Ed.base(e:Ed dbk pb FD D j S0 N0 w0 w T Y F M x n B)(C:∀b∈S0,b∈Z)(E:∀b∈FD,b∈Z)(G:HG∈Z)(I:∀b∈Y,b∈Z):m7 Z w0 (Zo FD (T++(B++Y)) F):=fun b u=>by simp only[Zo,zD,zG] at u;rcases u with (u|u|u|u|u)|u;exact .inl (E b u);rw[u];exact .inl G;exact (e.sg.own b u).imp (C b) id;exact (e.cI b u).imp (fun h=>C b (e.cS b h)) id;exact .inl (I b u);exact (e.sg.new b u).imp (C b) id
def Ed.Q7(e:Ed dbk pb FD D j S0 N0 w0 w T Y F M x n B)(hn:fI Z w0 xl nl Bn)(R:∀b∈Bn,b∉S0)(U:∀b∈S0,b∈Z)(G:∀b∈FD,b∈Z)(I:HG∈Z)(hY:∀b∈Y,b∈Z)(C:∀b∈Bn++Y1,b∈Y)(J:∀b∈Bn,b∉Y1)(O:∀b∈Bn,b<w0.heap.size): Ed dbk pb FD D j (Bn++S0) Bn w0 w T Y1 F M xl nl Bn:=by
 have hz:=e.base U G I hY;have E:∀b∈Zo FD (T++(Bn++Y1)) F,b∈Zo FD (T++(B++Y)) F:=fun b u=>by simp only[Zo,zD,zG] at u⊢;have Q:=fun h=>C b h;simp only[zD] at Q;rcases u with (u|u|u|u|u)|u;simp[u];simp[u];simp[u];simp[Q (.inl u)];simp[Q (.inr u)];simp[u]
 refine⟨qAu e.sg fun b u=>zI _ u,e.tw.x8 fun b u=>?_,hn.q8 e.fr R (fun b u=>.inl (U b u)) fun b u=>hz b (E b u),fun b u V=>?_,fun b u=>.inl u,fun b u=>zH _ u,J⟩;rcases zD.1 u with u|u;simp[u];exact zI _ (zI _ (C b u));rcases e.sg.own b u with h1|h1;exact R b V h1
 have:=O b V;omega
def qBp:∀b∈Bn++(Br++Y),b∈Zo FD (Bl++(Bn++(Br++Y))) F:=fun b u=>by simp only[Zo,zD,zG] at u⊢;rcases u with h|h|h<;>simp[h]
def qAV:∀b∈Bn++Y,b∈Bn++(Br++Y):=fun b u=>by simp only[zD] at u⊢;rcases u with h|h<;>simp[h]
def qAW:∀b∈Zo FD (T++(Bn++Y)) F,b∈Zo FD (T++(Bn++(Br++Y))) F:=fun b u=>by simp only[Zo,zD,zG] at u⊢;rcases u with (h|h|h|h|h)|h<;>simp[h]
def qyL{K:kV×Int->WP}(hT:TW dbk pb FD D j w0 (Bl++(Bn++(Br++Y))) F M)(hl:fI (Zo FD (Bl++(Bn++(Br++Y))) F) w0 xl nl Bl)(hn:fI (Zo FD (Bl++(Bn++(Br++Y))) F) w0 x n Bn)(hr:fI (Zo FD (Bl++(Bn++(Br++Y))) F) w0 xr nr Br)(d1:∀b∈Bl,b∉Bn)(d2:∀b∈Bl,b∉Br)(d3:∀b∈Bl,b∉Y)(d4:∀b∈Bn,b∉Br)(d5:∀b∈Bn,b∉Y)(sl:ia nl)(sr:ia nr)(sn:ia n)(hi:i<n.J3.length)(av:n.Q1=false)(O:∀yn B' F' w',TW dbk pb FD D j w' (B'++Y) F' (mh k v M n i nl nr).2->fI (Zo FD (B'++Y) F') w' yn (mh k v M n i nl nr).1.1 B'->Fr (Bn++(Bl++F)) w0 w'->(∀b∈B',b∈Bn\/w0.heap.size<=b)->(∀b∈F',b∈Bn++(Bl++F)\/w0.heap.size<=b)->K (yn,(mh k v M n i nl nr).1.2) w'): cW 243 [.agg (oY (kA k v pb t)),.agg (eV x),.i i,.agg (eV xl),.agg (eV xr)] [.agg ed,.one .i] w0 K:=by
 refine qmg ?_;have e0:Ed dbk pb FD D j (Bl++F) Bl w0 w0 [] (Bn++(Br++Y)) F M xl nl Bl:=⟨⟨.refl _ _,fun b u=>.inl (by simp[u]),fun _ h=>nomatch h⟩,hT,hl,fun _ h=>(nomatch h),fun b u=>.inl u,fun b u=>by simp[u],fun b u G=>by simp only[zD] at G;rcases G with G|G|G;exact d1 b u G;exact d2 b u G;exact d3 b u G⟩;have hF:∀ {Bx:List Nat},(∀b∈Bx,b∈Bn\/b∈Br)->(∀b∈Bx,b∉Bl)->∀b∈Bx,b∉Bl++F:=fun h1 h2 b u G=>(zD.1 G).elim (h2 b u) fun G=>hT.yf b (by rcases h1 b u with h|h<;>simp[h]) G;have dn:=hF (Bx:=Bn) (fun b u=>.inl u) fun b u G=>d1 b G u;obtain⟨nk,nv,on⟩:=hn.CF (S0:=Bl++F) dn;obtain⟨rk,rv,E⟩:=hr.CF (S0:=Bl++F) (hF (fun b u=>.inr u) fun b u G=>d2 b G u);have aa:∀b∈Bl++F,b∈Zo FD (Bl++(Bn++(Br++Y))) F:=fun b u=>by rcases zD.1 u with u|u<;>simp[u]
 have nZ:∀ {w' T x' n' B'},Ed dbk pb FD D j (Bl++F) Bl w0 w' T (Bn++(Br++Y)) F M x' n' B'->m7 (Zo FD (Bl++(Bn++(Br++Y))) F) w0 (Zo FD (T++(B'++(Bn++(Br++Y)))) F):=fun e=>e.base aa (fun b u=>by simp[u]) oL fun b u=>by simp only[Zo,zD,zG] at u⊢;rcases u with h|h|h<;>simp[h]
 have nw:∀ {w' T x' n' B'},Ed dbk pb FD D j (Bl++F) Bl w0 w' T (Bn++(Br++Y)) F M x' n' B'->qO (Bl++F) (Zo FD (T++(B'++(Bn++(Br++Y)))) F) w' x n nk nv:=fun e=>on.q8 e.fr (fun b u=>u) aa (fun b u=>.inl u) (nZ e);have R:∀ {w' T x' n' B'},Ed dbk pb FD D j (Bl++F) Bl w0 w' T (Bn++(Br++Y)) F M x' n' B'->qO (Bl++F) (Zo FD (T++(B'++(Bn++(Br++Y)))) F) w' xr nr rk rv:=fun e=>E.q8 e.fr (fun b u=>u) aa (fun b u=>.inl u) (nZ e);have ab:i<nk.length:=(by rw[on.uI];exact hi);have a1:=sn.inner av;have ac:i<n.J6.length:=oJ;have ae:i+1<n.J6.length:=oJ;have z1:=sl.J3;have z2:=sl.J7;have z3:=sl.J6;have z4:=sr.J3;have z5:=sr.J7;have z6:=sr.J6;have z7:=sn.J3;have z8:=sn.J6;have a2:=E.uI;have a3:=E.ze;have h:=oE [] w0;refine oB h fun r1 w2 _ _ h=>oB h fun r3 w4 _ _ h=>oB h fun r5 w6 _ _ h=>oB h fun r7 w8 _ _ h=>oB h fun r9 a4 _ _ h=>iQ (fun _ w'=>∃I B',dR [r9,r7,r5,r3,r1] w' w' [(r9,.cells (eV fU) ND (0,0)),(r7,.cells (eV xr) ND (0,0)),(r5,.cells (eV (xl.1,I,xl.2.2)) ND (0,0)),(r3,.cells (eV x) ND (0,0)),(r1,.cells (oY (kA k v pb t)) WK (0,0))]/\
  Ed dbk pb FD D j (Bl++F) Bl w0 w' [r9,r7,r5,r3,r1] (Bn++(Br++Y)) F M (xl.1,I,xl.2.2) { nl with J3:=if nl.Q1 then nl.J3 else nl.J3++[n.J3.getD i []] } B') ?_ ?_
 refine oA h 2 rfl xl.1 rfl ?_;apply eH<;>intro C;have C:nl.Q1=false:=(by rw[hl.1,zT] at C;exact C);rw[if_neg (show ¬nl.Q1=true by rw[C];decide),on.nA ab];have h:=oF h;refine oA h 2 rfl xl.2.1 rfl<|oA h 3 rfl x.2.1 rfl<|dX.get (on.rk.q7 h.fr) i rfl (x:=nk[i].1) (by rw[zQ,zA ab];rfl) (y:=nk[i].1) rfl<|oB h fun a5 a6 _ _ h=>iM (h.cell 3 rfl rfl) ?_;have e:=e0.j8 h;exact e.qF h oJ 0 rfl ((nw e).ek _ (zX ab)) (by rw[<- on.nA ab];exact uw on.nb.1 _) fun I B1 a7 e h _=>oD h 3 rfl (eV (xl.1,I,xl.2.2)) fun a8 h _=>⟨I,B1,mq h (.cons _ (.refl _)),(e.j8 h).sub oL⟩;have C:nl.Q1=true:=(by rw[hl.1,yE] at C;exact C);rw[if_pos C];exact⟨xl.2.1,Bl,mq h (.refl _),e0.j8 h⟩;rintro _ a9 ⟨I,B1,h,e⟩;have e:=e.j8 h;have h:=mq h (.refl _);refine oA h 2 rfl I rfl<|oA h 1 rfl xr.2.1 rfl ?_;have aO:(if nl.Q1 then nl.J3 else nl.J3++[n.J3.getD i []]).length<=2001:=by split;omega;rw[zF,xM];omega
 refine e.wJ h oN (R e).rk (R e).ek (by rw[E.J3];exact E.nb.1) fun U B2 ba e h _=>?_;rw[E.J3] at e;refine oD h 2 rfl (eV (xl.1,U,xl.2.2.1,xl.2.2.2)) fun bb h _=>oA h 2 rfl xl.2.2.1 rfl<|oA h 1 rfl xr.2.2.1 rfl ?_;have e:=e.j8 h;refine e.vW h oN (R e).rv (R e).ev (by rw[E.J7];exact E.nb.2.1) fun ad B3 bc e h _=>?_;rw[E.J7] at e;refine oD h 2 rfl (eV (xl.1,U,ad,xl.2.2.2)) fun bd h _=>oA h 2 rfl xl.2.2.2 rfl<|oA h 1 rfl xr.2.2.2 rfl ?_;have e:=e.j8 h;refine e.v9 h oN (R e).ri E.nb.2.2 fun af B4 bf e h _=>oD h 2 rfl (eV (xl.1,U,ad,af)) fun bg h _=>?_;have h:=oF h;have e:=e.j8 h;have h:=mq h (.refl _);refine oC h 4 rfl (kA k v pb t) rfl<|oA h 3 rfl x.2.2.2 rfl<|dX.get (nw e).ri i rfl (x:=n.J6[i]) (zA ac) (y:=n.J6[i]) rfl<|oC h 2 rfl (xl.1,U,ad,af) rfl ?_;have hJ:({ Q1:=nl.Q1,J3:=(if nl.Q1 then nl.J3 else nl.J3++[n.J3.getD i []])++nr.J3,J7:=nl.J7++nr.J7,J6:=nl.J6++nr.J6 }:dN)=lq nl nr (n.J3.getD i []):=rfl;have ax:n.J6.getD i 0=n.J6[i]:=vh ac;have aj:n.J6.getD (i+1) 0=n.J6[i+1]:=vh ae;unfold mh at O;rw[ax,aj,<- hJ] at O;have ay:=e.cA.j4 (fun b u=>.inl (qAW b u));have e:=e.Q7 hn dn aa (fun b u=>by simp[u]) oL qBp (Y1:=Y) qAV d5 hn.lt;refine vN e.tw ay (by dsimp only;rw[zF];omega) (by dsimp only;rw[zF];omega) (by dsimp only;rw[zF];omega) fun F1 bj ak az aA=>?_;obtain⟨e,h⟩:=e.next h ak az aA
 generalize aB:dS k v M n.J6[i] { Q1:=nl.Q1,J3:=(if nl.Q1 then nl.J3 else nl.J3++[n.J3.getD i []])++nr.J3,J7:=nl.J7++nr.J7,J6:=nl.J6++nr.J6 }=st at O e⊢;have hu:iy st.1.1:=(by rw[<- aB];exact wt hT.wf (hn.2.1.2.2 _ (zX ac)));obtain⟨⟨bk,J⟩,M1⟩:=st;dsimp only at O e hu⊢;refine iQ (fun er w'=>∃F2,er=(if J=0 then (fL M1 n.J6[i+1]).1 else J)/\dR [r9,r7,r5,r3,r1] w' w' [(r9,.cells (eV fU) ND (0,0)),(r7,.cells (eV xr) ND (0,0)),(r5,.cells (eV (xl.1,U,ad,af)) ND (0,0)),(r3,.cells (eV x) ND (0,0)),(r1,.cells (oY (kA k v pb t)) WK (0,0))]/\
  Ed dbk pb FD D j (Bn++(Bl++F)) Bn w0 w' [r9,r7,r5,r3,r1] Y F2 (if J=0 then (fL M1 n.J6[i+1]).2 else M1) x n Bn) ?_ ?_
 apply eH<;>intro C;have C:J=0:=yP.1 C;rw[if_pos C,if_pos C];have h:=oF h;refine oA h 4 rfl (pW pb) rfl<|oA h 3 rfl x.2.2.2 rfl ?_;have e:=e.j8 h;have ew:wrap .i64 ((i:Int)+1)=((i+1:Nat):Int):=sS oJ;refine dX.get e.y7 (i+1) ew (x:=n.J6[i+1]) (zA ae) (y:=n.J6[i+1]) rfl<|TW.drop e.tw fun F2 bl al aC aD=>?_;obtain⟨e,h⟩:=e.next h al aC aD
 exact⟨F2,rfl,h,e⟩;have C:¬J=0:=zR.1 C;rw[if_neg C,if_neg C];exact⟨F1,rfl,h,e⟩;rintro er bm ⟨F2,rfl,h,e⟩;have e:=e.j8 h;have h:=mq h (.refl _);have aE:∀ {A B:(dN×Int)×eQ},(if J≠0 then A else B)=if J=0 then B else A:=by intro A B;by_cases h:J=0;rw[if_neg (fun h'=>h' h),if_pos h];rw[if_pos h,if_neg h]
 rw[aE] at O;apply eH<;>intro C;have C:(if J=0 then (fL M1 n.J6[i+1]).1 else J)≠0:=by rw[zT] at C;exact zR.1 C
 refine oD h 0 rfl (eV fU) fun am h _=>oC h 0 rfl fU rfl ?_;have e:=e.j8 h;by_cases h0:J=0;rw[if_pos h0] at O C e⊢;rw[if_pos C] at O;exact O fU [] F2 am e.rY.j5 (.zero _ _) e.fr (fun _ h=>(nomatch h)) e.sg.new;rw[if_neg h0] at O C e⊢;exact O fU [] F2 am e.rY.j5 (.zero _ _) e.fr (fun _ h=>(nomatch h)) e.sg.new;have C:(if J=0 then (fL M1 n.J6[i+1]).1 else J)=0:=by rw[yE] at C;exact yP.1 C
 by_cases h0:J=0;rw[if_pos h0] at O C e;rw[if_neg (fun h=>h C)] at O;refine oA h 3 rfl x.2.2.2 rfl<|e.oU h (i:=i) ac rfl hu fun B1 bo e h _=>?_;have h:=oF h;refine oA h 3 rfl x.2.2.2 rfl<|oA h 3 rfl x.2.1 rfl ?_;have e:=e.j8 h;have ew:wrap .i64 ((i:Int)+1)=((i+1:Nat):Int):=sS oJ;have aF:wrap .i64 ((i:Int)+2)=((i+1+1:Nat):Int):=(by rw[gd _ oJ];omega);refine e.HJ h (i:=i+1) (by dsimp only;rw[xG];omega) ew aF (by dsimp only;rw[xG];omega) fun Q B2 bp e h _=>iM (h.cell 3 rfl rfl)<|e.CD h (i:=i) hi rfl ew oN fun V B3 bq e h _=>oD h 3 rfl (eV (x.1,x.2.1,x.2.2.1,Q)) fun bt h _=>oD h 3 rfl (eV (x.1,V,x.2.2.1,Q)) fun bu h _=>oC h 3 rfl (x.1,V,x.2.2.1,Q) rfl<|oD h 0 rfl (eV (x.1,V,x.2.2.1,Q)) fun aG h _=>oC h 0 rfl (x.1,V,x.2.2.1,Q) rfl ?_;have e:=e.j8 h;refine O (x.1,V,x.2.2.1,Q) B3 F2 aG e.tw.j5 (e.node.j4 fun b u=>.inl (by simp only[Zo,zD,zG] at u⊢;rcases u with (u|u|u|u)|u<;>simp[u])) e.fr e.cI e.sg.new;rw[if_neg h0] at C;exact absurd C h0
end
end
end
end Go.Proofs.YtfneoijhmknlnaaGreatDoor
