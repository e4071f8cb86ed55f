/- Conditions: those that stand in each line. -/
import Derived.Test.YtpcmehldpoljfaaGreatDoorCSMQ4
import Derived.Test.YtpcmehldpoljfaaGreatDoorCSMQ3
set_option linter.unusedVariables false
set_option linter.unusedSimpArgs false
set_option linter.defProp false
namespace Go.Proofs.YtpcmehldpoljfaaGreatDoor
open Go.Proofs.Tryz (prog)
section
open Go Go.Pt List
open Go.IntKind (wrap)
attribute [local irreducible] ld dK iF mK iY fq st new idx i3 ji fy jk iL lN gU nn call dU inv run eX iD join loop held ext jQ eu mr ma mv IntKind.wrap
variable {B:List Nat} {K:Sl->WP} {cs:Array Value} {i:Nat} {ii:Int} {l:List Int} {s:Sl} {w:World}
def Dq:∃i,prog.info? 101=some i/\i.zero=some (.slice none 0 0)/\i.size=1/\i.bytes=24:=th oK
abbrev fU (s:Sl):Value:=s.v
abbrev nj (n:Int):Value:=.u n
def Dl{α:Type}(e:α->Value)(l:List α)(i:Nat)(x:α):(l.take i++[x]++l.drop i).map e=(l.map e).take i++[e x]++(l.map e).drop i:=by rw[xN,xN,xP,xQ];rfl
def qtt{α:Type}(e:α->Value)(l:List α)(i:Nat):(l.take i++l.drop (i+1)).map e=(l.map e).take i++(l.map e).drop (i+1):=by rw[xN,xP,xQ]
def yb{a:Addr}{len cap:Nat}{hi:Int}{u:Nat}{K:Sl->Prop}(n:Nat)(E:hi=n)(h:n<=cap)(k:K ⟨some a,n,cap⟩):fy ⟨some a,len,cap⟩ none (some hi) none u K:=by subst E;refine vG ⟨oJ,by dsimp only;omega⟩ ?_;rw[zJ];exact k
def sE{b len cap:Nat}{lo:Int}{K:Sl->Prop}(n:Nat)(h:lo=n)(E:n<=len)(u:len<=cap)(G:n<cap)(k:K ⟨some (dh b n),len-n,cap-n⟩):fy ⟨pW b,len,cap⟩ (some lo) none none 1 K:=by subst h;refine CY oJ oJ u oJ ?_;rw[zJ,xT,xS];exact k
def qw3{lo hi mx:Int}{u:Nat}{K:Sl->Prop}(h:0<=lo/\lo<=hi/\hi<=mx/\mx<=s.cap)(k:∀E,K E):fy s (some lo) (some hi) (some mx) u K:=by unfold fy;exact⟨by simpa using h,k _⟩
def zo{α:Type}{e:α->Value}{b:Nat}{T:TypeId}{G:Nat×Nat}{l:List α}(I:w.heap[b]?=some (.cells cs T G))(J:cs.toList.take l.length=l.map e)(i:Nat):∀(j:Nat) u,((l.map e).drop i)[j]?=some u->w.cell? (Addr.add (dh b i) j)=some u:=fun j u E=>by rw[Addr.q9,jq I];rw[xA] at E;have h:=(zP.1 E).1;rw[zK] at h;rw[<- J,xB,if_pos h] at E;simpa using E
def qlH{α:Type}{e:α->Value}{l:List α}(h:cs.toList.take l.length=l.map e)(hi:i<=l.length):cs.toList.take i=(l.map e).take i:=by rw[<- h,take_take,xR hi]
def Dy{α:Type}{enc:α->List Value}{e:α->Value}(u:∀x,enc x=[e x]){l:List α}(h:cs.toList.take l.length=l.flatMap enc):cs.toList.take l.length=l.map e:=by rw[h,zm u]
def qt8{l:List Sl}{x:Sl}{vb:Nat}{T':TypeId}(h:eP gx 1 w s l B)(hi:i<=l.length)(he:ii=i)(hl:l.length<=100000)(hv:w.heap[vb]?=some (.cells #[fU x] T' (0,0)))(al:vb∉B)(kk:∀s' B' w',eP gx 1 w' s' (fK l i x) B'->Fr B w w'->(∀b∈B',b∈B\/w.heap.size<=b)->K s' w'): cW 165 [s.v,.i ii,.slice (pW vb) 1 1] di w K:=by
 obtain⟨aH,ac,hz,am,an⟩:=Dq;refine qlg (s:=s) (i:=ii) (v:=⟨pW vb,1,1⟩) ?_;subst he;have ao:=h.len;have ad:∀w',Fr B w w'->∀(j:Nat) u,([fU x]:List Value)[j]?=some u->w'.cell? (Addr.add (dh vb) j)=some u:=fun w' f j u hj=>by rw[Addr.q9,jq (by rw[f.block vb (eV hv) al];exact hv),xS];simpa using hj
 refine ed.part (S:=[]) (eP.jw (enc:=gx) (k:=1) (fun _=>rfl) h (fun _ _ h=>nomatch h)) (lo:=some (i:Int)) (hi:=none) i l.length rfl (by rw[xW,ao]) hi (zM _) fun s1 _ _ _=>cond_false rfl ?_;apply dV<;>intro hc;have R:i=l.length:=(by have:=yP.1 hc;omega);have ap:Src prog 1 171 (.slice (pW vb) 1 1) 1 ([x].flatMap gx) w:=.ofSlice w (e':=101) oK _ 1 1 _ rfl (ad w (.refl _ _)) (fun u hu=>by rw[yH,flatMap_nil,xH] at hu;rw[zE.1 hu];rfl);refine eP.j1 (ys:=[x]) (e:=101) h (fun _=>rfl) oK ac hz am rfl ap rfl (by rw[an];omega) oJ fun s' B' w' b' f' n' _=>kk s' B' w' ?_ f' n';have e:fK l i x=l++[x]:=(by unfold fK;rw[R,xZ,drop_length,xH]);rw[e];exact b';have R:i<l.length:=by
  have:=(zR.1 hc)
  omega
 have aI:l≠[]:=fun e=>by rw[e] at R;exact absurd R (xY _)
 obtain⟨b,cs,T,rfl,ha,hb,hn,aq,ar,aJ⟩:=h.ptr aI;have hM:=Dy (e:=fU) (fun _=>rfl) aJ;obtain⟨sa,sn,sc⟩:=s;dsimp only at ha hn aq ar;subst ha hn;have aK:vb≠b:=(oP al);have G:(l.map fU).length=l.length:=zK ..;have au:∀v∈(l.map fU).drop i,Value.oneCell' v=true:=fun v J=>by obtain⟨y,_,rfl⟩:=mem_map.1 (yU J);rfl
 have U:((l.map fU).drop i).length=l.length-i:=(by rw[yC,G]);have V:wrap .i64 ((l.length:Int)+1)=((l.length+1:Nat):Int):=(by rw[gq _ oJ];rfl);have av:wrap .i64 ((i:Int)+1)=((i+1:Nat):Int):=(by rw[gq _ oJ];rfl);have aL:wrap .i64 (((l.length+1:Nat):Int)-(i:Int))=((l.length+1-i:Nat):Int):=(by rw[gq _ oJ];omega);apply cD<;>intro hc;have hg:sc<l.length+1:=by
  have:=hc
  dsimp only at this;rw[show (((1:Nat):Int))=1 from rfl,V] at this;omega
 refine yb i rfl oJ ?_;dsimp only;rw[show (((1:Nat):Int))=1 from rfl,V,aL,av];have aw:i+(l.length+1-i)=l.length+1:=oJ;refine DZ (e:=101) (i:=aH) (kn:=.i64) (olds:=(l.map fU).take i) oK oK ac hz am rfl (by rw[yL,G];omega) (fun h=>nomatch h) (fun a ha j u hj=>?_) oJ oJ (by rw[aw,an];omega) oJ fun b2 aN c w2 e2 ag f2 aa aO aP=>?_;cases ha;have ax:=zo hb hM 0 j u;rw[xF] at ax;rw[xB] at hj;split at hj;exact ax hj;cases hj;rw[aw] at aa⊢;have ay:=eV hb;have a0:Fr [b2] w w2:=f2.mono fun _ h _=>nomatch h;refine sE i rfl oJ aa oJ<|vH (vs:=[fU x]) (src:=⟨pW vb,1,1⟩) ag (el:=101) oK oK ?_ (fun _=>⟨_,rfl,ad w2 (f2.mono fun _ h _=>nomatch h)⟩) (fun v J=>by rw[zE.1 J];rfl) oO fun w3 ah f3=>?_;show 1=min 1 (l.length+1-i);omega;refine sE (i+1) rfl oJ aa oJ<|sE i rfl oJ oJ oJ ?_;have aQ:w3.heap[b]?=some (.cells cs T (0,0)):=by rw[f3.block b (yD ay f2.size) oO,f2.block b ay (fun h=>nomatch h)];exact hb
 refine vH (w:=w3.drew) (vs:=(l.map fU).drop i) (src:=⟨some (dh b i),l.length-i,sc-i⟩) ah (el:=101) oK oK ?_ (fun _=>⟨_,rfl,zo (w:=w3.drew) aQ hM i⟩) au (by rw[nf,U];omega) fun w4 aR f4=>?_;rw[U];show l.length-i=min (l.length-i) (l.length+1-(i+1));omega;have I:=qwm (cs:=aN) (M:=l.map fU) (i:=i) (v:=fU x) (by rw[G];omega) (by rw[G];omega) aP;have E:(fK l i x).length=l.length+1:=(by unfold fK;simp;omega);refine kk _ [b2] w4 (eP.one (e:=fU) (fun _=>rfl) aR E.symm aa (by rw[nf,nf];exact aO) ?_) ?_ (fun b' ai=>?_);rw[E];rw[G] at I;rw[I];exact (Dl fU l i x).symm;refine Fr.j8 (S:=[b]) (T:=[b2]) (f2.mono fun _ h _=>nomatch h) (f3.drew.trans f4) fun i hi=>.inr ?_;rw[zE.1 hi,e2];exact zM _;rw[zE.1 ai,e2];exact .inr (zM _);have hg:l.length+1<=sc:=by
  have:=hc
  dsimp only at this;rw[show (((1:Nat):Int))=1 from rfl,V] at this;omega
 dsimp only;rw[show (((1:Nat):Int))=1 from rfl,V,av];refine yb (l.length+1) rfl hg<|sE (i+1) rfl oJ hg oJ<|CE (e:=Extern.SlicesOverlaps.overlaps #[171,171] #[4]) Tryz.func196 oK oK oK oK false w (qnJ oK ac hv hb aK oJ)<|cond_true rfl<|sE (i+1) rfl oJ hg oJ<|sE i rfl oJ hg oJ<|vH (w:=w.drew) (vs:=(l.map fU).drop i) (src:=⟨some (dh b i),l.length+1-i,sc-i⟩) hb (el:=101) oK oK ?_ (fun _=>⟨_,rfl,zo (w:=w.drew) hb hM i⟩) au (by rw[U];omega) fun w2 ag f2=>?_;rw[U];show l.length-i=min (l.length+1-i) (l.length+1-(i+1));omega;refine sE i rfl oJ hg oJ<|vH (vs:=[fU x]) (src:=⟨pW vb,1,1⟩) ag (el:=101) oK oK ?_ (fun _=>⟨_,rfl,ad w2 ((Fr.refl [b] w).drew.trans f2)⟩) (fun v J=>by rw[zE.1 J];rfl) (by rw[nf];simp;omega) fun w3 ah f3=>?_;show 1=min 1 (l.length+1-i);omega;have I:=qwo (cs:=cs) (M:=l.map fU) (i:=i) (v:=fU x) (by rw[G];omega) (by rw[G];omega) (qlH hM oJ);have E:(fK l i x).length=l.length+1:=(by unfold fK;simp;omega);refine kk _ [b] w3 (eP.one (e:=fU) (fun _=>rfl) ah E.symm hg (by rw[nf,nf];exact ar) ?_) (((Fr.refl [b] w).drew.trans f2).trans f3) (fun b' ai=>.inl ai);rw[E];rw[G] at I;rw[I];exact (Dl fU l i x).symm
def qt5{l:List Sl}{jj:Int}(h:eP gx 1 w s l B)(hi:i<l.length)(he:ii=i)(hj:jj=((i+1:Nat):Int))(hl:l.length<=100000)(kk:∀s' w',eP gx 1 w' s' (gR l i) B->Fr B w w'->K s' w'): cW 168 [s.v,.i ii,.i jj] di w K:=by
 obtain⟨ax,ad,hz,ae,ay⟩:=Dq;refine qle ?_;subst he hj;have af:l≠[]:=fun e=>by rw[e] at hi;exact absurd hi (xY _)
 obtain⟨b,cs,T,rfl,ha,hb,hn,V,I,ag⟩:=h.ptr af;have hM:=Dy (e:=fU) (fun _=>rfl) ag;obtain⟨sa,sn,sc⟩:=s;dsimp only at ha hn V I;subst ha hn;have E:(l.map fU).length=l.length:=zK ..;have aB:∀v∈(l.map fU).drop (i+1),Value.oneCell' v=true:=fun v ah=>by obtain⟨y,_,rfl⟩:=mem_map.1 (yU ah);rfl
 have aC:((l.map fU).drop (i+1)).length=l.length-(i+1):=(by rw[yC,E]);refine qw3 oN fun _=>cond_false (zR.2 oJ)<|yb i rfl oJ ?_;have ai:∀U,U.heap[b]?=some (.cells (dS cs i ((l.map fU).drop (i+1))) T (0,0))->Fr [b] w U->fy ⟨pW b,l.length-1,sc⟩ (some (((l.length-1:Nat)):Int)) (some ((l.length:Nat):Int)) none 1 fun (J:Sl)=>
  run [] ((Builtin.clear_ #[171] 0 (#[Value.slice J.a J.len J.cap])).run prog U)<|
  fun (aD:PUnit) (aj:World)=>
  K ⟨pW b,l.length-1,sc⟩ aj:=fun U R f5=>by
  refine DF oJ oJ oJ oJ ?_;rw[zJ,zJ,xT,xS];have h1:l.length-(l.length-1)=1:=oJ;rw[h1];dsimp only;refine qtq (e:=101) (z:=(Value.slice none 0 0)) R oK oK rfl rfl oJ (by rw[nf];omega) fun w6 al f6=>?_;have G:=qv0 (cs:=cs) (M:=l.map fU) (i:=i) (z:=(Value.slice none 0 0)) (by rw[E];omega) (by rw[E];exact hM);have aa:(gR l i).length=l.length-1:=(by unfold gR;simp;omega);refine kk _ w6 (eP.one (e:=fU) (fun _=>rfl) al aa.symm oJ (by rw[nf,nf];exact I) ?_) (f5.trans f6);rw[aa];rw[E] at G;rw[show List.replicate 1 ((Value.slice none 0 0))=[(Value.slice none 0 0)] from rfl,G];exact (qtt fU l i).symm
 refine ed.part (S:=[]) (eP.jw (enc:=gx) (k:=1) (fun _=>rfl) h (fun _ _ h=>nomatch h)) (lo:=some ((i+1:Nat):Int)) (hi:=none) (i+1) l.length rfl rfl oJ (zM _) fun s3 ab h3 aI=>?_;have ac:Src prog 1 171 s3.v s3.len ((l.map fU).drop (i+1)) w.drew:=by
  have:=uk (P:=prog) (tx:=171) (e':=101) (h3.same (nA.refl w).drew) (fun _=>rfl) (fun x u hu=>by rw[zE.1 hu];rfl) oK
  rw[zm (enc:=gx) (e:=fU) (fun _=>rfl),xZ,xQ] at this;exact this
 dsimp only;refine qtk (w:=w.drew) (e:=101) hb oK ad ae ac (by rw[ab];omega) I fun U R f5=>?_;have e:i+s3.len=l.length-1:=(by rw[ab];omega);rw[e];exact ai U R ((Fr.refl [b] w).drew.trans f5)
def qt9{x:Int}{vb:Nat}{T':TypeId}(h:eP iz 1 w s l B)(hi:i<=l.length)(he:ii=i)(hl:l.length<=100000)(hv:w.heap[vb]?=some (.cells #[nj x] T' (0,0)))(al:vb∉B)(kk:∀s' B' w',eP iz 1 w' s' (fK l i x) B'->Fr B w w'->(∀b∈B',b∈B\/w.heap.size<=b)->K s' w'): cW 167 [s.v,.i ii,.slice (pW vb) 1 1] di w K:=by
 obtain⟨aH,ac,hz,am,an⟩:=vU;refine qlh (s:=s) (i:=ii) (v:=⟨pW vb,1,1⟩) ?_;subst he;have ao:=h.len;have ad:∀w',Fr B w w'->∀(j:Nat) u,([nj x]:List Value)[j]?=some u->w'.cell? (Addr.add (dh vb) j)=some u:=fun w' f j u hj=>by rw[Addr.q9,jq (by rw[f.block vb (eV hv) al];exact hv),xS];simpa using hj
 refine ed.part (S:=[]) (eP.jw (enc:=iz) (k:=1) (fun _=>rfl) h (fun _ _ h=>nomatch h)) (lo:=some (i:Int)) (hi:=none) i l.length rfl (by rw[xW,ao]) hi (zM _) fun s1 _ _ _=>cond_false rfl ?_;apply dV<;>intro hc;have R:i=l.length:=(by have:=yP.1 hc;omega);have ap:Src prog 1 172 (.slice (pW vb) 1 1) 1 ([x].flatMap iz) w:=.ofSlice w (e':=63) oK _ 1 1 _ rfl (ad w (.refl _ _)) (fun u hu=>by rw[yH,flatMap_nil,xH] at hu;rw[zE.1 hu];rfl);refine eP.j1 (ys:=[x]) (e:=63) h (fun _=>rfl) oK ac hz am rfl ap rfl (by rw[an];omega) oJ fun s' B' w' b' f' n' _=>kk s' B' w' ?_ f' n';have e:fK l i x=l++[x]:=(by unfold fK;rw[R,xZ,drop_length,xH]);rw[e];exact b';have R:i<l.length:=by
  have:=(zR.1 hc)
  omega
 have aI:l≠[]:=fun e=>by rw[e] at R;exact absurd R (xY _)
 obtain⟨b,cs,T,rfl,ha,hb,hn,aq,ar,aJ⟩:=h.ptr aI;have hM:=Dy (e:=nj) (fun _=>rfl) aJ;obtain⟨sa,sn,sc⟩:=s;dsimp only at ha hn aq ar;subst ha hn;have aK:vb≠b:=(oP al);have G:(l.map nj).length=l.length:=zK ..;have au:∀v∈(l.map nj).drop i,Value.oneCell' v=true:=fun v J=>by obtain⟨y,_,rfl⟩:=mem_map.1 (yU J);rfl
 have U:((l.map nj).drop i).length=l.length-i:=(by rw[yC,G]);have V:wrap .i64 ((l.length:Int)+1)=((l.length+1:Nat):Int):=(by rw[gq _ oJ];rfl);have av:wrap .i64 ((i:Int)+1)=((i+1:Nat):Int):=(by rw[gq _ oJ];rfl);have aL:wrap .i64 (((l.length+1:Nat):Int)-(i:Int))=((l.length+1-i:Nat):Int):=(by rw[gq _ oJ];omega);apply cD<;>intro hc;have hg:sc<l.length+1:=by
  have:=hc
  dsimp only at this;rw[show (((1:Nat):Int))=1 from rfl,V] at this;omega
 refine yb i rfl oJ ?_;dsimp only;rw[show (((1:Nat):Int))=1 from rfl,V,aL,av];have aw:i+(l.length+1-i)=l.length+1:=oJ;refine DZ (e:=63) (i:=aH) (kn:=.i64) (olds:=(l.map nj).take i) oK oK ac hz am rfl (by rw[yL,G];omega) (fun h=>nomatch h) (fun a ha j u hj=>?_) oJ oJ (by rw[aw,an];omega) oJ fun b2 aN c w2 e2 ag f2 aa aO aP=>?_;cases ha;have ax:=zo hb hM 0 j u;rw[xF] at ax;rw[xB] at hj;split at hj;exact ax hj;cases hj;rw[aw] at aa⊢;have ay:=eV hb;have a0:Fr [b2] w w2:=f2.mono fun _ h _=>nomatch h;refine sE i rfl oJ aa oJ<|vH (vs:=[nj x]) (src:=⟨pW vb,1,1⟩) ag (el:=63) oK oK ?_ (fun _=>⟨_,rfl,ad w2 (f2.mono fun _ h _=>nomatch h)⟩) (fun v J=>by rw[zE.1 J];rfl) oO fun w3 ah f3=>?_;show 1=min 1 (l.length+1-i);omega;refine sE (i+1) rfl oJ aa oJ<|sE i rfl oJ oJ oJ ?_;have aQ:w3.heap[b]?=some (.cells cs T (0,0)):=by rw[f3.block b (yD ay f2.size) oO,f2.block b ay (fun h=>nomatch h)];exact hb
 refine vH (w:=w3.drew) (vs:=(l.map nj).drop i) (src:=⟨some (dh b i),l.length-i,sc-i⟩) ah (el:=63) oK oK ?_ (fun _=>⟨_,rfl,zo (w:=w3.drew) aQ hM i⟩) au (by rw[nf,U];omega) fun w4 aR f4=>?_;rw[U];show l.length-i=min (l.length-i) (l.length+1-(i+1));omega;have I:=qwm (cs:=aN) (M:=l.map nj) (i:=i) (v:=nj x) (by rw[G];omega) (by rw[G];omega) aP;have E:(fK l i x).length=l.length+1:=(by unfold fK;simp;omega);refine kk _ [b2] w4 (eP.one (e:=nj) (fun _=>rfl) aR E.symm aa (by rw[nf,nf];exact aO) ?_) ?_ (fun b' ai=>?_);rw[E];rw[G] at I;rw[I];exact (Dl nj l i x).symm;refine Fr.j8 (S:=[b]) (T:=[b2]) (f2.mono fun _ h _=>nomatch h) (f3.drew.trans f4) fun i hi=>.inr ?_;rw[zE.1 hi,e2];exact zM _;rw[zE.1 ai,e2];exact .inr (zM _);have hg:l.length+1<=sc:=by
  have:=hc
  dsimp only at this;rw[show (((1:Nat):Int))=1 from rfl,V] at this;omega
 dsimp only;rw[show (((1:Nat):Int))=1 from rfl,V,av];refine yb (l.length+1) rfl hg<|sE (i+1) rfl oJ hg oJ<|CE (e:=Extern.SlicesOverlaps.overlaps #[172,172] #[4]) Tryz.func200 oK oK oK oK false w (qnJ oK ac hv hb aK oJ)<|cond_true rfl<|sE (i+1) rfl oJ hg oJ<|sE i rfl oJ hg oJ<|vH (w:=w.drew) (vs:=(l.map nj).drop i) (src:=⟨some (dh b i),l.length+1-i,sc-i⟩) hb (el:=63) oK oK ?_ (fun _=>⟨_,rfl,zo (w:=w.drew) hb hM i⟩) au (by rw[U];omega) fun w2 ag f2=>?_;rw[U];show l.length-i=min (l.length+1-i) (l.length+1-(i+1));omega;refine sE i rfl oJ hg oJ<|vH (vs:=[nj x]) (src:=⟨pW vb,1,1⟩) ag (el:=63) oK oK ?_ (fun _=>⟨_,rfl,ad w2 ((Fr.refl [b] w).drew.trans f2)⟩) (fun v J=>by rw[zE.1 J];rfl) (by rw[nf];simp;omega) fun w3 ah f3=>?_;show 1=min 1 (l.length+1-i);omega;have I:=qwo (cs:=cs) (M:=l.map nj) (i:=i) (v:=nj x) (by rw[G];omega) (by rw[G];omega) (qlH hM oJ);have E:(fK l i x).length=l.length+1:=(by unfold fK;simp;omega);refine kk _ [b] w3 (eP.one (e:=nj) (fun _=>rfl) ah E.symm hg (by rw[nf,nf];exact ar) ?_) (((Fr.refl [b] w).drew.trans f2).trans f3) (fun b' ai=>.inl ai);rw[E];rw[G] at I;rw[I];exact (Dl nj l i x).symm
def qt6{jj:Int}(h:eP iz 1 w s l B)(hi:i<l.length)(he:ii=i)(hj:jj=((i+1:Nat):Int))(hl:l.length<=100000)(kk:∀s' w',eP iz 1 w' s' (gR l i) B->Fr B w w'->K s' w'): cW 239 [s.v,.i ii,.i jj] di w K:=by
 obtain⟨ax,ad,hz,ae,ay⟩:=vU;refine qlf ?_;subst he hj;have af:l≠[]:=fun e=>by rw[e] at hi;exact absurd hi (xY _)
 obtain⟨b,cs,T,rfl,ha,hb,hn,V,I,ag⟩:=h.ptr af;have hM:=Dy (e:=nj) (fun _=>rfl) ag;obtain⟨sa,sn,sc⟩:=s;dsimp only at ha hn V I;subst ha hn;have E:(l.map nj).length=l.length:=zK ..;have aB:∀v∈(l.map nj).drop (i+1),Value.oneCell' v=true:=fun v ah=>by obtain⟨y,_,rfl⟩:=mem_map.1 (yU ah);rfl
 have aC:((l.map nj).drop (i+1)).length=l.length-(i+1):=(by rw[yC,E]);refine qw3 oN fun _=>cond_false (zR.2 oJ)<|yb i rfl oJ ?_;have ai:∀U,U.heap[b]?=some (.cells (dS cs i ((l.map nj).drop (i+1))) T (0,0))->Fr [b] w U->fy ⟨pW b,l.length-1,sc⟩ (some (((l.length-1:Nat)):Int)) (some ((l.length:Nat):Int)) none 1 fun (J:Sl)=>
  run [] ((Builtin.clear_ #[172] 0 (#[Value.slice J.a J.len J.cap])).run prog U)<|
  fun (aD:PUnit) (aj:World)=>
  K ⟨pW b,l.length-1,sc⟩ aj:=fun U R f5=>by
  refine DF oJ oJ oJ oJ ?_;rw[zJ,zJ,xT,xS];have h1:l.length-(l.length-1)=1:=oJ;rw[h1];dsimp only;refine qtq (e:=63) (z:=(Value.int .u32 0)) R oK oK rfl rfl oJ (by rw[nf];omega) fun w6 al f6=>?_;have G:=qv0 (cs:=cs) (M:=l.map nj) (i:=i) (z:=(Value.int .u32 0)) (by rw[E];omega) (by rw[E];exact hM);have aa:(gR l i).length=l.length-1:=(by unfold gR;simp;omega);refine kk _ w6 (eP.one (e:=nj) (fun _=>rfl) al aa.symm oJ (by rw[nf,nf];exact I) ?_) (f5.trans f6);rw[aa];rw[E] at G;rw[show List.replicate 1 ((Value.int .u32 0))=[(Value.int .u32 0)] from rfl,G];exact (qtt nj l i).symm
 refine ed.part (S:=[]) (eP.jw (enc:=iz) (k:=1) (fun _=>rfl) h (fun _ _ h=>nomatch h)) (lo:=some ((i+1:Nat):Int)) (hi:=none) (i+1) l.length rfl rfl oJ (zM _) fun s3 ab h3 aI=>?_;have ac:Src prog 1 172 s3.v s3.len ((l.map nj).drop (i+1)) w.drew:=by
  have:=uk (P:=prog) (tx:=172) (e':=63) (h3.same (nA.refl w).drew) (fun _=>rfl) (fun x u hu=>by rw[zE.1 hu];rfl) oK
  rw[zm (enc:=iz) (e:=nj) (fun _=>rfl),xZ,xQ] at this;exact this
 dsimp only;refine qtk (w:=w.drew) (e:=63) hb oK ad ae ac (by rw[ab];omega) I fun U R f5=>?_;have e:i+s3.len=l.length-1:=(by rw[ab];omega);rw[e];exact ai U R ((Fr.refl [b] w).drew.trans f5)
end
section
open Go Go.Pt List
open Go.IntKind (wrap)
open Classical
attribute [local irreducible] ld dK iF mK iY fq st new idx i3 ji fy jk iL lN gU nn call dU inv run eX iD join loop held ext jQ eu mr ma mv IntKind.wrap
variable {B S:List Nat} {K:Sl->WP} {L:List (Nat×Obj)} {T:TypeId} {b l:List Int} {e:Int×Int×List Int} {k v:Nat} {kind:Int} {n:dL} {ps:py} {s:Sl} {w w0:World} {x:kj}
def qtA{i j:Nat}(h:i+j<=10000000):wrap .i64 (Int.fdiv (wrap .u64 (wrap .i64 ((i:Int)+(j:Int)))) (2^1))=(((i+j) / 2:Nat):Int):=by have e1:wrap .i64 ((i:Int)+(j:Int))=(i:Int)+(j:Int):=gq _ oJ;have u:wrap .u64 ((i:Int)+(j:Int))=(i:Int)+(j:Int):=IntWalk.u64_in _ oJ;rw[e1,u,Int.fdiv_eq_ediv_of_nonneg _ oM];have e:((i:Int)+(j:Int)) / 2^1=(((i+j) / 2:Nat):Int):=oJ;rw[e,gq _ oJ]
def qvM{n:Nat}{v:Value}{p:Nat->Bool}{K:Int->WP}(G:n<=1000000)(hf:∀w1 (i:Nat) (K':Bool->WP),Fr [] w w1->i<n->(∀w2,Fr [] w w2->K' (p i) w2)->dU prog v [.i i] dk w1 K')(u:∀i j,i<=j->j<n->p i=true->p j=true)(hk:∀(r:Nat) w',r<=n->(∀i,i<r->p i=false)->(∀i,r<=i->i<n->p i=true)->Fr [] w w'->K r w'): cW 123 [.i n,v] dj w K:=by
 refine qoR<|je (fun s w'=>∃i j:Nat,s=((i:Int),(j:Int))/\i<=j/\j<=n/\(∀a,a<i->p a=false)/\(∀a,j<=a->a<n->p a=true)/\Fr [] w w') (fun s _=>(s.2-s.1).toNat) ⟨0,n,rfl,oJ,oJ,fun _ h=>absurd h (xY _),fun a I J=>oJ,.refl _ _⟩ ?_;rintro s w1 ⟨i,j,rfl,ah,R,I,J,hs⟩ X hX;dsimp only;apply cD<;>intro U;have ai:i<j:=oJ;rw[qtA oJ];refine hf w1 ((i+j) / 2) _ hs oJ fun w2 E=>?_;cases hp:p ((i+j) / 2);refine cond_true rfl ?_;have e:wrap .i64 ((((i+j) / 2:Nat):Int)+1)=(((i+j) / 2+1:Nat):Int):=(by rw[gq _ oJ];rfl);rw[e];refine hX _ _ ⟨(i+j) / 2+1,j,rfl,oJ,R,fun a V=>?_,J,E⟩ oN;cases aa:p a;rfl
 have:=u a ((i+j) / 2) oJ oJ aa
 rw[hp] at this;exact this.symm;exact cond_false rfl<|hX _ _ ⟨i,(i+j) / 2,rfl,oJ,oJ,I,fun a V G=>u _ a V G hp,E⟩ oN;have aj:¬i<j:=oJ;exact hk i w1 oJ I (fun a V G=>J a oJ G) hs
def qyE{n:Nat}{v:Value}{c:Nat->Int}{K:Int×Bool->WP}(U:n<=1000000)(hf:∀w1 (i:Nat) (K':Int->WP),Fr [] w w1->i<n->(∀w2,Fr [] w w2->K' (c i) w2)->dU prog v [.i i] dj w1 K')(u:∀i j,i<=j->j<n->c j>0->c i>0)(hk:∀(r:Nat) w',r<=n->(∀i,i<r->c i>0)->(∀i,r<=i->i<n->¬c i>0)->Fr [] w w'->K (r,decide (r<n/\c r=0)) w'): cW 125 [.i n,v] dv w K:=by
 refine qsg<|je (fun s w'=>∃i j:Nat,s=((i:Int),(j:Int))/\i<=j/\j<=n/\(∀a,a<i->c a>0)/\(∀a,j<=a->a<n->¬c a>0)/\Fr [] w w') (fun s _=>(s.2-s.1).toNat) ⟨0,n,rfl,oJ,oJ,fun _ h=>absurd h (xY _),fun a V h2=>oJ,.refl _ _⟩ ?_;rintro s w1 ⟨i,j,rfl,aj,ab,V,h2,hs⟩ X hX;dsimp only;apply cD<;>intro I;have ak:i<j:=oJ;rw[qtA oJ];refine hf w1 ((i+j) / 2) _ hs oJ fun w2 E=>?_;apply dV<;>intro J;have J:=zC J;have e:wrap .i64 ((((i+j) / 2:Nat):Int)+1)=(((i+j) / 2+1:Nat):Int):=(by rw[gq _ oJ];rfl);rw[e];exact hX _ _ ⟨(i+j) / 2+1,j,rfl,oJ,ab,fun a ha=>u a _ oJ oJ J,h2,E⟩ oN;have J:=zB J;exact hX _ _ ⟨i,(i+j) / 2,rfl,oJ,oJ,V,fun a ha U ae=>J (u _ a ha U ae),E⟩ oN;have al:¬i<j:=oJ;have R:=fun w'=>hk i w' oJ V (fun a ha U=>h2 a oJ U);apply cD<;>intro I;have G:i<n:=oJ;refine hf w1 i _ hs G fun w2 E=>?_;have e:(c i==0)=decide (i<n/\c i=0):=by rw[Bool.eq_iff_iff,yP,yN];exact⟨fun h=>⟨G,h⟩,fun h=>h.2⟩
 rw[e];exact R w2 E;have G:¬i<n:=by omega
 have:=R w1 hs
 rw[zU (fun h=>G h.1)] at this;exact this
section
variable {S S':List Nat} {w:World} {x:kj} {n:dL} {ks:Sl} {key:Key}
def Cj{K:Int×Bool->WP}(hx:eB S w x n)(hk:eE S' w ks key)(hB:eH key)(hr:fL n.J6)(hl:n.J6.length<=1000000)(kk:∀w',Fr [] w w'->K (dN n.J6 key,decide (n.J6[dN n.J6 key]?=some key)) w'): cW 92 [.agg (eK x),ks.v] dv w K:=by
 obtain⟨h0,ac,⟨pk,J,G⟩,_⟩:=hx;refine qqm<|oB (oE [] w) fun r1 w1 e1 f1 h=>oB h fun r3 w2 e2 f2 h=>oA h 1 rfl x.2.1 rfl ?_;have U:x.2.1.len=pk.length:=J.len;have ap:n.J6.length=pk.length:=(by rw[<- G,zK]);have u:∀(i:Nat) (E:i<pk.length),n.J6[i]?=some pk[i].2:=fun i E=>by rw[<- G,zQ,zA E];rfl
 rw[U];refine qyE (c:=fun i=>cmpL key (n.J6.getD i [])) oJ (fun w3 i K' f3 E ad=>?_) (fun i j ar hj hc=>?_) fun r w' av ae af f'=>?_;refine sV (lb:=[dF r3,dF r1]) rfl oK ?_;have R:=h.q7 f3;refine qmv ?_;have R:=R.drew;refine oA R 0 rfl ks rfl<|oA R 1 rfl x.2.1 rfl<|js.get (J.q7 R.fr) i rfl E<|BE (hk.q7 R.fr) ((J.q7 R.fr).2 pk[i] (zX E)) hB (ac.1 _ (yF (u i E))) ?_;have e:n.J6.getD i []=pk[i].2:=by rw[yR,u i E];rfl
 have:=ad w3.drew f3.drew
 rw[e] at this;exact this;by_cases hij':i=j;rw[hij'];exact hc;have E:=u i oJ;have V:=u j hj;rw[yR,V,xV] at hc;rw[yR,E,xV];have h1:fE pk[j].2 key:=(by unfold fE;rw[tu];omega);have h2:=pw (Fh hr oJ E V) h1;unfold fE at h2;rw[tu] at h2;omega;have hp:dN n.J6 key=r:=qwJ oJ (fun i a E ha=>by
  have:=ae i E
  rw[yR,ha,xV,tu] at this;show cmpL a key<0;omega) fun a ha=>by
  have az:=(zP.1 ha).1
  have:=af r (zM _) oJ
  rw[yR,ha,xV,tu] at this;show ¬cmpL a key<0;omega
 have I:=kk w' (h.fr.trans f');rw[hp] at I;have e:decide (n.J6[r]?=some key)=decide (r<pk.length/\cmpL key (n.J6.getD r [])=0):=by refine decide_eq_decide.2 ⟨fun h=>?_,fun h=>?_⟩;refine⟨by have:=(zP.1 h).1;omega,?_⟩;rw[yR,h,xV,D8];have h2:=h.2;rw[yR,u r h.1,xV] at h2;exact (u r h.1).trans (congrArg some (Dd h2).symm)
 rw[e] at I;exact I
def Bm{K:Int->WP}(hx:eB S w x n)(hk:eE S' w ks key)(hB:eH key)(hr:fL n.J6)(hl:n.J6.length<=1000000)(kk:∀w',Fr [] w w'->K (eh n.J6 key) w'): cW 91 [.agg (eK x),ks.v] dj w K:=by
 obtain⟨h0,ac,⟨pk,J,E⟩,_⟩:=hx;refine qsZ<|oB (oE [] w) fun r1 w1 e1 f1 h=>oB h fun r3 w2 e2 f2 h=>oA h 1 rfl x.2.1 rfl ?_;have U:x.2.1.len=pk.length:=J.len;have ap:n.J6.length=pk.length:=(by rw[<- E,zK]);have G:∀(i:Nat) (u:i<pk.length),n.J6[i]?=some pk[i].2:=fun i u=>by rw[<- E,zQ,zA u];rfl
 rw[U];refine qvM (p:=fun i=>decide (cmpL key (n.J6.getD i [])<0)) oJ (fun w3 i K' f3 u ad=>?_) (fun i j ar hj V=>?_) fun r w' av ae af f'=>?_;refine sV (lb:=[dF r3,dF r1]) rfl oK ?_;have R:=h.q7 f3;refine qoD ?_;have R:=R.drew;refine oA R 0 rfl ks rfl<|oA R 1 rfl x.2.1 rfl<|js.get (J.q7 R.fr) i rfl u<|BE (hk.q7 R.fr) ((J.q7 R.fr).2 pk[i] (zX u)) hB (ac.1 _ (yF (G i u))) ?_;have e:n.J6.getD i []=pk[i].2:=(by rw[yR,G i u];rfl);have e2:decide (cmpL key (n.J6.getD i [])<0)=decide (cmpL key pk[i].2<0):=decide_eq_decide.2 (by rw[e]);rw[<- e2];exact ad w3.drew f3.drew;by_cases hij':i=j;rw[<- hij'];exact V;have u:=G i oJ;have aa:=G j hj;have V:=zC V;rw[yR,u,xV] at V;refine yA ?_;rw[yR,aa,xV];exact pw V (Fh hr oJ u aa);have hp:eh n.J6 key=r:=qza oJ (fun i a u ha=>by
  have:=zB (ae i u)
  rw[yR,ha,xV] at this;exact this) fun a ha=>by
  have ay:=(zP.1 ha).1
  have:=zC (af r (zM _) oJ)
  rw[yR,ha,xV] at this;exact this
 have I:=kk w' (h.fr.trans f');rw[hp] at I;exact I
end
section
def Dx{p:Prop}{i:Decidable p}(h:p):true=decide p:=by simp[h]
def rz{i:Nat}(h:i<=100000000):wrap .i64 ((i:Int)+1)=((i+1:Nat):Int):=by rw[gq _ oJ];rfl
section
variable {S:List Nat} {w:World} {s:Sl}
def qqH{v:Value}{p:Key->Bool}{K:Bool->WP}(V:js S w s ps)(hl:ps.length<=1000000)(hf:∀w1 (x:Sl×Key) (K':Bool->WP),Fr [] w w1->x∈ps->(∀w2,Fr [] w w2->K' (p x.2) w2)->dU prog v [x.1.v] dk w1 K')(kk:∀w',Fr [] w w'->K ((gf ps).any p) w'): cW 233 [s.v,v] dk w K:=by
 refine qge<|qiP ?_;have ac:=V.len;refine je (fun i w'=>∃n:Nat,i=(n:Int)/\n<=ps.length/\((gf ps).take n).any p=false/\Fr [] w w') (fun i _=>((ps.length:Int)-i).toNat) ⟨0,rfl,yX _,rfl,.refl _ _⟩ ?_;rintro _ w1 ⟨n,rfl,hn,E,u⟩ X hX;apply cD<;>intro J;have h:n<ps.length:=oJ;refine js.get (V.q7 u) n rfl h<|hf w1 ps[n] _ u (zX h) fun w2 G=>?_;have I:(gf ps)[n]?=some ps[n].2:=(by rw[zQ,zA h];rfl);apply dV<;>intro R;have:(gf ps).any p=true:=any_eq_true.2 ⟨ps[n].2,yF I,R⟩;show K (decide (((n:Nat):Int)>=0)) w2;rw[yA (show ((n:Nat):Int)>=0 by omega)];rw[<- this];exact kk w2 G;rw[rz oJ];refine hX _ _ ⟨n+1,rfl,h,?_,G⟩ oJ;rw[take_add_one,I,any_append,E];simpa using R;have U:n=ps.length:=oJ;show K (decide ((-1:Int)>=0)) w1;rw[zU (show ¬(-1:Int)>=0 by decide)];have:(gf ps).any p=false:=by rw[<- E,U,zS (by rw[zK];exact zM _)]
 rw[<- this];exact kk w1 u
def qqI{v:Value}{p:Int->Bool}{K:Bool->WP}(hs:Rd S w s l)(hl:l.length<=1000000)(hf:∀w1 (x:Int) (K':Bool->WP),Fr [] w w1->x∈l->(∀w2,Fr [] w w2->K' (p x) w2)->dU prog v [.u x] dk w1 K')(kk:∀w',Fr [] w w'->K (l.any p) w'): cW 193 [s.v,v] dk w K:=by
 refine qgf<|qiQ ?_;have ad:=hs.1;refine je (fun i w'=>∃n:Nat,i=(n:Int)/\n<=l.length/\(l.take n).any p=false/\Fr [] w w') (fun i _=>((l.length:Int)-i).toNat) ⟨0,rfl,yX _,rfl,.refl _ _⟩ ?_;rintro _ w1 ⟨n,rfl,hn,I,h⟩ X hX;apply cD<;>intro R;have E:n<l.length:=oJ;have G:l[n]?=some l[n]:=zA E;refine ed.get (hs.q7 h) n rfl G (y:=l[n]) rfl<|hf w1 l[n] _ h (zX E) fun w2 J=>?_;apply dV<;>intro U;have:l.any p=true:=any_eq_true.2 ⟨l[n],yF G,U⟩;show K (decide (((n:Nat):Int)>=0)) w2;rw[yA (show ((n:Nat):Int)>=0 by omega)];rw[<- this];exact kk w2 J;rw[rz oJ];refine hX _ _ ⟨n+1,rfl,E,?_,J⟩ oJ;rw[take_add_one,G,any_append,I];simpa using U;have V:n=l.length:=oJ;show K (decide ((-1:Int)>=0)) w1;rw[zU (show ¬(-1:Int)>=0 by decide)];have:l.any p=false:=by rw[<- I,V,zS (zM _)]
 rw[<- this];exact kk w1 h
def qrJ{m:Nat}{K:Bool->WP}(U:js S w s ps)(V:ps.length<=1000000)(kk:∀w',Fr [] w w'->K (decide (∀a∈gf ps,a.length=m)) w'): cW 191 [s.v,.i m] dk w K:=by
 refine qrO<|oB (oE [] w) fun r1 w1 e1 J h=>?_;have u:=U.q7 J;refine qqH (p:=fun a=>decide (a.length≠m)) u V (fun w2 x K' R hx E=>?_) fun w' f'=>?_;refine sV (lb:=[dF r1]) rfl oK<|qnG<|oA (h.q7 R) 0 rfl (m:Int) rfl ?_;have G:=(u.2 x hx).1;have e:(!((x.1.len:Int)==(m:Int)))=decide (x.2.length≠m):=by rw[G,Bool.eq_iff_iff];simp;omega
 rw[e];exact E w2 R;have e:(!((gf ps).any fun a=>decide (a.length≠m)))=decide (∀a∈gf ps,a.length=m):=by
  rw[Bool.eq_iff_iff,yN,zT,any_eq_false];constructor;intro h a I
  have:=h a I
  simpa using this;intro h a I;simp[h a I]
 rw[e];exact kk w' (J.trans f')
def qwF{K:Bool->WP}(hs:js S w s ps)(hB:∀a∈gf ps,eH a)(hl:ps.length<=1000000)(kk:∀w',Fr [] w w'->K (decide (fL (gf ps))) w'): cW 192 [s.v] dk w K:=by
 refine qqq ?_;have af:=hs.len;have E:∀(i:Nat) (hi:i<ps.length),(gf ps)[i]?=some ps[i].2:=fun i hi=>by rw[zQ,zA hi];rfl
 refine je (fun i w'=>∃n:Nat,i=(n:Int)/\1<=n/\(∀(j:Nat) a b,j+1<n->(gf ps)[j]?=some a->(gf ps)[j+1]?=some b->fE a b)/\Fr [] w w') (fun i _=>((ps.length:Int)-i).toNat) ⟨1,rfl,zM _,fun j a b h=>oJ,.refl _ _⟩ ?_;rintro _ w1 ⟨n,rfl,hn,R,G⟩ X hX;apply cD<;>intro hc;have I:n<ps.length:=oJ;have e1:wrap .i64 ((n:Int)-1)=((n-1:Nat):Int):=(by rw[gq _ oJ];omega);have J:=hs.q7 G.drew;rw[e1];refine js.get J (n-1) rfl oJ<|js.get J n rfl I<|BE (J.2 ps[n-1] (zX _)) (J.2 ps[n] (zX _)) (hB _ (yF (E (n-1) oJ))) (hB _ (yF (E n I))) ?_;apply dV<;>intro U;have U:=zC U;have:¬fL (gf ps):=fun hr=>by
  have:=Fh hr (show n-1<n by omega) (E (n-1) oJ) (E n I)
  unfold fE at this;omega
 have u:=kk _ G.drew;rw[zU this] at u;exact u;have U:=zB U;rw[rz oJ];refine hX _ _ ⟨n+1,rfl,oJ,fun j a b hj ha V=>?_,G.drew⟩ oJ;by_cases hjn:j+1<n;exact R j a b hjn ha V;obtain rfl:n=j+1:=by omega
 rw[E j oJ] at ha;rw[E (j+1) I] at V;cases ha;cases V;show cmpL _ _<0;simp only[Nat.add_sub_cancel] at U;omega;have aj:¬n<ps.length:=oJ;have:fL (gf ps):=qkl fun j a b ha V=>R j a b (by
  have:=(zP.1 V).1
  rw[zK] at this;omega) ha V
 have u:=kk w1 G;rw[yA this] at u;exact u
def qxC:tC (k:Int) (v:Int)=(((dW k v).1:Int),((dW k v).2:Int)):=by unfold tC dW;by_cases h:k<1\/k>24\/v>108;rw[if_pos h,iP];rfl;rw[if_neg h,iN];rfl
def Ep{w:World}{K:Int×Int->WP}(h:∀w',Fr [] w w'->K (((dW k v).1:Int),((dW k v).2:Int)) w'):cW 122 [.i k,.i v] dm w K:=
 qyA fun w' u=>by rw[qxC];exact h w' (.of_same u)
def qqT{K:Bool->WP}(hx:eB S w x n)(h1:n.J6.length<=1000000)(h2:n.Q0.length<=1000000)(h3:n.J9.length<=1000000)(kk:∀w',Fr [] w w'->K (decide (fJ n k v)) w'): cW 160 [.agg (eK x),.i k,.i v] dk w K:=by
 obtain⟨h0,al,⟨pk,ad,u⟩,⟨pv,af,U⟩,ab⟩:=hx;refine qqn<|oB (oE [] w) fun r1 w1 e1 f1 h=>Ep fun w2 f2=>?_;have h:=h.q7 f2;have l1:pk.length=n.J6.length:=(by rw[<- u,zK]);have l2:pv.length=n.Q0.length:=(by rw[<- U,zK]);have n1:x.2.1.len=n.J6.length:=(by rw[ad.len,l1]);have n2:x.2.2.1.len=n.Q0.length:=(by rw[af.len,l2]);have n3:x.2.2.2.len=n.J9.length:=ab.1;refine hU (fun b w'=>b=decide (¬((∀a∈n.J6,a.length=k)/\(∀a∈n.Q0,a.length=v)/\fL n.J6))/\dQ [] w w' [(r1,.cells (eK x) 174)]) ?_ ?_;refine oA h 0 rfl x.2.1 rfl<|qrJ (m:=k) (ad.q7 h.fr) oJ fun w3 f3=>?_;have h:=h.q7 f3;rw[u];refine dV (fun G=>⟨?_,h⟩) (fun G=>?_);have:¬ ∀a∈n.J6,a.length=k:=zB (oP G);exact Dx fun J=>this J.1;have q1:∀a∈n.J6,a.length=k:=zC (oP G);refine oA h 0 rfl x.2.2.1 rfl<|qrJ (m:=v) (af.q7 h.fr) oJ fun w4 f4=>?_;have h:=h.q7 f4;rw[U];refine dV (fun G=>⟨?_,h⟩) (fun G=>?_);have:¬ ∀a∈n.Q0,a.length=v:=zB (oP G);exact Dx fun J=>this J.2.1;have q2:∀a∈n.Q0,a.length=v:=zC (oP G);refine oA h 0 rfl x.2.1 rfl<|qwF (ad.q7 h.fr) (by rw[u];exact al.1) oJ fun w5 f5=>?_;have h:=h.q7 f5;rw[u];refine⟨?_,h⟩;rw[Bool.eq_iff_iff,zT,decide_eq_false_iff_not,yN];exact⟨fun J g=>J g.2.2,fun J g=>J ⟨q1,q2,g⟩⟩;rintro b w3 ⟨rfl,h⟩;have no:∀ {w'},¬fJ n k v->Fr [] w w'->K false w':=fun hn f=>by
  have:=kk _ f
  rw[zU hn] at this;exact this
 refine dV (fun G=>no (fun E=>zC G ⟨E.1,E.2.1,E.2.2.1⟩) h.fr) (fun G=>?_);have hq:=Classical.not_not.1 (zB G);have rest:fJ n k v↔(if n.Q4 then n.J9=[]/\1<=n.J6.length/\n.J6.length<=(dW k v).1/\n.Q0.length=n.J6.length
   else (∀x∈n.J9,2<=x)/\n.Q0=[]/\2<=n.J9.length/\n.J9.length<=(dW k v).2/\n.J6.length+1=n.J9.length):=⟨fun E=>E.2.2.2,fun J=>⟨hq.1,hq.2.1,hq.2.2,J⟩⟩
 refine oA h 0 rfl x.1 rfl ?_;apply dV<;>intro G;rw[h0] at G;rw[if_pos G] at rest;have ae:∀ {Q:Sl->Prop},Q x.2.1->ld .slice (dh r1 1) w3 Q:=fun q=>oA h 0 rfl x.2.1 rfl q;refine oA h 0 rfl x.2.2.2 rfl<|dV (fun R=>?_) (fun R=>no (fun E=>?_) h.fr);refine ae (dV (fun V=>?_) (fun V=>no (fun E=>?_) h.fr));refine ae (dV (fun I=>?_) (fun I=>no (fun E=>?_) h.fr));refine oA h 0 rfl x.2.2.1 rfl (ae ?_);have R:=yP.1 R;have V:=zC V;have I:=zC I;have e:((x.2.2.1.len:Int)==(x.2.1.len:Int))=decide (fJ n k v):=by rw[Bool.eq_iff_iff,yP,yN,rest];dsimp only at I;constructor;intro J;exact⟨eq_nil_of_length_eq_zero oJ,oJ,oJ,oJ⟩;intro J;omega
 rw[e];exact kk w3 h.fr
 have:=(rest.1 E).2.2.1
 have I:=zB I;dsimp only at I;omega
 have:=(rest.1 E).2.1
 have V:=zB V;omega
 have:=(rest.1 E).1
 have R:=zR.1 R;rw[this] at n3;exact R (by rw[n3];rfl);rw[h0] at G;rw[if_neg (by rw[G];decide)] at rest;have aa:∀ {w'} {Q:Sl->Prop},dQ [] w w' [(r1,.cells (eK x) 174)]->Q x.2.2.2->ld .slice (dh r1 3) w' Q:=fun h q=>oA h 0 rfl x.2.2.2 rfl q;refine aa h<|qqI (p:=fun y=>decide (y<2)) (ab.q7 h.fr) h3 (fun w4 y K' f4 hy ap=>?_) fun w4 f4=>?_;exact sV (lb:=[]) rfl oK<|qmw<|ap w4 f4;have h:=h.q7 f4;refine dV (fun c0=>no (fun E=>?_) h.fr) (fun c0=>?_);obtain⟨y,hy,ar⟩:=any_eq_true.1 c0
 have:=(rest.1 E).1 y hy
 have:=zC ar
 omega;have ah:∀y∈n.J9,2<=y:=fun y hy=>by
  have:=any_eq_false.1 c0 y hy
  simp at this;exact this
 refine oA h 0 rfl x.2.2.1 rfl<|dV (fun R=>?_) (fun R=>no (fun E=>?_) h.fr);refine aa h (dV (fun V=>?_) (fun V=>no (fun E=>?_) h.fr));refine aa h (dV (fun I=>?_) (fun I=>no (fun E=>?_) h.fr));refine oA h 0 rfl x.2.1 rfl (aa h ?_);have R:=yP.1 R;have V:=zC V;have I:=zC I;dsimp only at I;have ew:wrap .i64 ((x.2.2.2.len:Int)-1)=(x.2.2.2.len:Int)-1:=gq _ oJ;have e:((x.2.1.len:Int)==wrap .i64 ((x.2.2.2.len:Int)-1))=decide (fJ n k v):=by rw[ew,Bool.eq_iff_iff,yP,yN,rest];constructor;intro J;exact⟨ah,eq_nil_of_length_eq_zero oJ,oJ,oJ,oJ⟩;intro J;omega
 rw[e];exact kk _ h.fr
 have:=(rest.1 E).2.2.2.1
 have I:=zB I;dsimp only at I;omega
 have:=(rest.1 E).2.2.1
 have V:=zB V;omega
 have:=(rest.1 E).2.1
 have R:=zR.1 R;rw[this] at n2;exact R (by rw[n2];rfl)
end
end
section
def zt{src:Sl}{ys:List Int}(h:fV w s l B)(R:eE S w src ys)(hl:l.length+ys.length<=1000000)(U:∀G B' w',fV w' G (l++ys) B'->Fr B w w'->(∀b∈B',b∈B\/w.heap.size<=b)->K G w'): Pt.run di ((Builtin.append_ #[101,101] 101 #[s.v,src.v]).run prog w) K:=by obtain⟨i,V,hz,I,J⟩:=vq;have E:=R.1;exact eP.j1 (e:=5) h lr oK V hz I rfl (uk (e':=5) R lr (fun x u hu=>by rw[zE.1 hu];rfl) oK) E (by rw[J];omega) oJ fun G B' w' b' f' n' _=>U G B' w' b' f' n'
def qzO(n:Int):be n 2=[wrap .u8 (Int.fdiv n (2^8)),wrap .u8 n]:=by show [gA n 1,gA n 0]=_;unfold gA;rw[show (min (8*1) 32:Nat)=8 from rfl,show (min (8*0) 32:Nat)=0 from rfl,Int.pow_zero,Int.fdiv_one]
def qAy(n:Int):be n 4=[wrap .u8 (Int.fdiv n (2^24)),wrap .u8 (Int.fdiv n (2^16)),wrap .u8 (Int.fdiv n (2^8)),wrap .u8 n]:=by show [gA n 3,gA n 2,gA n 1,gA n 0]=_;unfold gA;rw[show (min (8*3) 32:Nat)=24 from rfl,show (min (8*2) 32:Nat)=16 from rfl,show (min (8*1) 32:Nat)=8 from rfl,show (min (8*0) 32:Nat)=0 from rfl,Int.pow_zero,Int.fdiv_one]
def js.get'(h:js S w s ps)(n:Nat){i:Int}{K:Addr->Sl->Prop}(hi:i=n)(R:n<ps.length)(U:∀a,w.cell? a=some (.slice ps[n].1.a ps[n].1.len ps[n].1.cap)->(∀w',js S w' s ps->w'.cell? a=some (.slice ps[n].1.a ps[n].1.len ps[n].1.cap))->K a ps[n].1):idx s i 1 fun a=>ld .slice a w fun x=>K a x:=by
 subst hi;have I:(iy ps)[n]?=some ps[n].1:=(by rw[zQ,zA R];rfl);obtain⟨hl,b,o,J,_,cs,T,fr,hb,hc⟩:=h.1.at n I;refine qv J ⟨oJ,oJ⟩ ?_;rw[zJ];have key:∀w',js S w' s ps->w'.cell? ⟨b,o+n*1,none⟩=some (.slice ps[n].1.a ps[n].1.len ps[n].1.cap):=fun w' V=>by
  obtain⟨_,b',o',u,_,aa,T',ab,E,G⟩:=V.1.at n I;rw[J] at u;cases u;rw[jq E]
  have:=congrArg (·[0]?) G
  simpa[gx] using this
 exact pK ps[n].1 (key w h) (U _ (key w h) key)
def Gr{b n:Nat}(u:w.heap[b]?=some (.cells (l.map (Value.int .u8)).toArray T (0,0)))(h:n=l.length):fV w ⟨pW b,n,n⟩ l [b]:=
 eP.one (e:=Value.int .u8) (fun _=>rfl) u h (zM _) (by simp[h]) (by rw[<- zK (f:=Value.int .u8),xZ])
def qzi{b:Nat}{n:Int}(u:w.heap[b]?=some (.cells #[.b (wrap .u8 (Int.fdiv n (2^24))),.b (wrap .u8 (Int.fdiv n (2^16))),.b (wrap .u8 (Int.fdiv n (2^8))),.b (wrap .u8 n)] T (0,0))):eE [] w ⟨pW b,4,4⟩ (be n 4):=by rw[qAy];exact eP.jw lr (Gr (n:=4) u rfl) fun _ _ h=>nomatch h
section
variable {S:List Nat} {w:World} {s:Sl}
def qyG{n:Nat}(hn:n<=1000000)(V:∀u B w',fV w' u [] B->Fr [] w w'->(∀b∈B,w.heap.size<=b)->K u w'): cW 121 [.slice none 0 0,.i n] di w K:=by obtain⟨G,hi,hz,I,J⟩:=vq;refine qoQ (s:=dG) (n:=n) ?_;have e0:wrap .i64 (((0:Nat):Int)-((0:Nat):Int))=0:=gq _ oM;have e1:wrap .i64 ((n:Int)-0)=(n:Int):=(by rw[gq _ oJ];omega);refine hU (fun _ w'=>w=w') (cond_false (zU oJ) rfl) ?_;rintro _ _ rfl;refine hU (fun u w'=>∃B,fV w' u [] B/\Fr [] w w'/\∀b∈B,w.heap.size<=b) ?_ (fun u w' ⟨B,b1,f1,n1⟩=>V u B w' b1 f1 n1);dsimp only;rw[e0,e1];refine dV (fun U=>?_) (fun U=>⟨[],.nil _ _ _,.refl _ _,fun _ h=>nomatch h⟩);have E:0<n:=(by have:=zC U;omega);refine vG ⟨oJ,by dsimp only;omega⟩ ?_;rw[zJ];dsimp only;refine DZ (e:=5) (i:=G) (kn:=.i64) (olds:=[]) oK oK hi hz I rfl rfl (fun _=>rfl) (fun a ha=>nomatch ha) E oJ (by rw[J];omega) oJ fun b cs c w2 e2 hb f2 h1 h2 h3=>vG ⟨oJ,by dsimp only;omega⟩ ?_;rw[zJ];exact⟨[b],eP.fresh (cap:=c) lr hb rfl (yX _) oJ rfl,f2,fun b' R=>by rw[zE.1 R,e2];exact zM _⟩
def qjT{i:Nat}(hi:i<ps.length):((gf ps).take (i+1)).flatten=((gf ps).take i).flatten++ps[i].2:=by rw[take_add_one,zQ,zA hi,flatten_append];simp
def GN(i:Nat):((gf ps).take i).flatten.length<=(gf ps).flatten.length:=by have:(gf ps).flatten=((gf ps).take i).flatten++((gf ps).drop i).flatten:=(by rw[<- flatten_append,xE]);rw[this,zF];omega
def qo2(U:js S w s ps)(hl:ps.length<=1000000)(ht:(gf ps).flatten.length<=1000000)(kk:∀s' B w',fV w' s' (gf ps).flatten B->Fr [] w w'->(∀b∈B,w.heap.size<=b)->K s' w'): cW 88 [s.v] di w K:=by
 refine qmL ?_;have ah:=U.len;refine je (fun t w'=>∃i:Nat,t=((((gf ps).take i).flatten.length:Int),(i:Int))/\i<=ps.length/\w'=w) (fun t _=>((ps.length:Int)-t.2).toNat) ⟨0,rfl,yX _,rfl⟩ ?_;rintro t w' ⟨i,rfl,hi,rfl⟩ X hX;dsimp only;apply cD<;>intro G;have u:i<ps.length:=oJ;have I:=GN (ps:=ps) (i+1);have E:=qjT u;have ad:=(U.2 ps[i] (zX u)).1;have e:wrap .i64 ((((gf ps).take i).flatten.length:Int)+(ps[i].1.len:Int))=(((gf ps).take (i+1)).flatten.length:Int):=by rw[E,zF] at I⊢;rw[gq _ oJ,ad];rfl
 refine hU (fun x w2=>x=(((gf ps).take (i+1)).flatten.length:Int)/\w2=w') ?_ ?_;refine js.get U i rfl u ?_;rw[e];exact cond_false (zU oJ) ⟨rfl,rfl⟩;rintro x w2 ⟨rfl,rfl⟩;rw[rz oJ];exact hX _ _ ⟨i+1,rfl,u,rfl⟩ oN;have J:i=ps.length:=oJ;refine qyG (zL (GN (ps:=ps) i) ht) fun s1 B1 w1 b1 f1 n1=>je (fun t w2=>∃(j:Nat) (V:Sl) (B2:List Nat),t=(V,(j:Int))/\j<=ps.length/\fV w2 V ((gf ps).take j).flatten B2/\Fr [] w' w2/\∀b∈B2,w'.heap.size<=b) (fun t _=>((ps.length:Int)-t.2).toNat) ⟨0,s1,B1,rfl,yX _,b1,f1,n1⟩ ?_;rintro t w2 ⟨j,V,B2,rfl,hj,b2,f2,n2⟩ X hX;dsimp only;apply cD<;>intro G;have u:j<ps.length:=oJ;have I:=GN (ps:=ps) (j+1);have E:=qjT u;have R:=U.q7 f2;refine js.get R j rfl u<|zt b2 (R.2 ps[j] (zX u)) (by rw[E,zF] at I;omega) fun s3 B3 w3 b3 f3 n3=>?_;rw[rz oJ];refine hX _ _ ⟨j+1,s3,B3,rfl,u,by rw[E];exact b3,f2.j8 f3 fun i hi=>.inr (n2 i hi),fun b hb=>?_⟩ oN;rcases n3 b hb with h|h;exact n2 b h;exact zL f2.size h;have J:j=ps.length:=oJ;rw[J,zS (by rw[zK];exact zM _)] at b2;exact kk V B2 w2 b2 f2 n2
def qxs{K:Int×Sl×Int->WP}(hx:eB S w x n)(h1:n.J6.length<=1000000)(h2:n.Q0.length<=1000000)(h3:n.J9.length<=1000000)(kk:∀s w',(∀G:List Nat,(∀b∈G,b<w.heap.size)->eE G w' s (eN n k v).2.1)->Fr [] w w'->K ((eN n k v).1,s,(eN n k v).2.2) w'): cW 162 [.agg (eK x),.i k,.i v] dp w K:=by
 have aZ:=hx;obtain⟨h0,bi,⟨pk,ar,I⟩,⟨pv,au,ab⟩,ao⟩:=hx;refine qqo<|oB (oE [] w) fun U w1 e1 f1 h=>oC h 0 rfl x rfl<|qqT (x:=x) (aZ.q7 f1) h1 h2 h3 fun w2 f2=>?_;have h:=h.q7 f2;apply dV<;>intro E;have hn:¬fJ n k v:=zB (oP E)
 have:=kk dG w2 (fun G _=>by unfold eN;rw[if_neg hn];exact .nil _ _ _ _) h.fr
 unfold eN at this;rw[if_neg hn] at this;exact this;have hR:fJ n k v:=zC (oP E);have hW:eN n k v=(iH n,gj n,0):=(by unfold eN;rw[if_pos hR]);rw[hW] at kk;have aH:=(CC hR).2;have l1:pk.length=n.J6.length:=(by rw[<- I,zK]);have l2:pv.length=n.Q0.length:=(by rw[<- ab,zK]);have n1:x.2.1.len=n.J6.length:=(by rw[ar.len,l1]);have n3:x.2.2.2.len=n.J9.length:=ao.1;have aI:∀ {s' B w'},fV w' s' (gj n) B->(∀b∈B,w.heap.size<=b)->Fr [] w w'->K (iH n,s',0) w':=fun b hB f=>kk _ _ (fun G hG=>b.jw lr fun c E hm=>by have:=hB c E;have:=hG c hm;omega) f;refine oA h 0 rfl x.1 rfl ?_;apply dV<;>intro E;rw[h0] at E;have u:gj n=be n.J6.length 2++(n.J6.zip n.Q0).flatMap (fun x=>x.1++x.2):=(by unfold gj;rw[if_pos E];rfl);have R:iH n=3:=(by unfold iH;rw[if_pos E]);have aJ:=hR.2.2.2;rw[if_pos E] at aJ;have aK:(n.J6.zip n.Q0).length=n.J6.length:=(by rw[length_zip,aJ.2.2.2,Nat.min_self]);refine oA h 0 rfl x.2.1 rfl<|oA h 0 rfl x.2.1 rfl<|oB h fun r9 w3 e3 f3 h=>oA h 1 rfl x.2.1 rfl ?_;have h9:=h.at (i:=0) rfl;have aw:=h.sub (L':=[(U,.cells (eK x) 174)]) (sublist_cons_self _ _);have ax:U≠r9:=fun e=>by have:=h.nodup;simp[e] at this
 have ac:w.heap.size<=r9:=(h.own (r9,_) (mem_cons_self ..)).elim (fun h=>nomatch h) id;refine je (fun t w'=>∃(i:Nat) (s2:Sl) (B2:List Nat),t=(s2,(i:Int))/\i<=n.J6.length/\fV w' s2 (be n.J6.length 2++((n.J6.zip n.Q0).take i).flatMap (fun x=>x.1++x.2)) B2/\dQ [] w w' [(U,.cells (eK x) 174)]/\U∉B2/\∀b∈B2,w.heap.size<=b) (fun t _=>((n.J6.length:Int)-t.2).toNat)
  ⟨0,_,[r9],rfl,yX _,?_,aw,by simpa using ax,fun b hb=>by rw[zE.1 hb];exact ac⟩ ?_
 rw[qzO,take_zero,flatMap_nil,xH];refine Gr (T:=5) ?_ rfl;rw[n1] at h9;exact h9;rintro t w4 ⟨i,s2,B2,rfl,hi,b2,ho,af,J⟩ X hX;dsimp only;apply dV<;>intro E;have al:i<n.J6.length:=(by have:=zC E;omega);have bx:i<n.Q0.length:=oJ;have aM:=ar.q7 ho.fr;refine js.get aM i rfl oJ ?_;have ag:=ho.drew;refine oA ag 0 rfl x.2.2.1 rfl ?_;have a2:=au.q7 ag.fr;have ah:i<pv.length:=oJ;have ap:i<pk.length:=oJ;refine js.get' a2 i rfl ah fun a ha hh=>?_;have am:n.J6[i]?=some pk[i].2:=(by rw[<- I,zQ,zA ap];rfl);have a3:n.Q0[i]?=some pv[i].2:=(by rw[<- ab,zQ,zA ah];rfl);have hz:(n.J6.zip n.Q0)[i]?=some (pk[i].2,pv[i].2):=List.getElem?_zip_eq_some.2 ⟨am,a3⟩;have V:((n.J6.zip n.Q0).take (i+1)).flatMap (fun x=>x.1++x.2)=((n.J6.zip n.Q0).take i).flatMap (fun x=>x.1++x.2)++(pk[i].2++pv[i].2):=by rw[take_add_one,hz,yQ];simp
 have an:(be n.J6.length 2++((n.J6.zip n.Q0).take (i+1)).flatMap (fun x=>x.1++x.2)).length<=500:=(by refine zL ?_ aH;rw[u,zF,zF];have e:(n.J6.zip n.Q0).flatMap (fun x=>x.1++x.2)=((n.J6.zip n.Q0).take (i+1)).flatMap (fun x=>x.1++x.2)++((n.J6.zip n.Q0).drop (i+1)).flatMap (fun x=>x.1++x.2):=(by rw[<- yQ,xE]);rw[e,zF];omega);rw[V,zF,zF,zF] at an;have bB:=ho.drew;refine zt (w:=w4.drew) (b2.q7 (Fr.refl [] w4).drew) ((aM.2 pk[i] (zX ap)).q7 (Fr.refl [] w4).drew) (by rw[zF];omega) fun s3 B3 w5 b3 f5 n5=>?_;have aa:=ag.q8 f5 (fun i hi=>.inr (J i hi)) (fun p hp=>by rw[zE.1 hp];exact af);have aO:∀b∈B3,w.heap.size<=b:=fun b hb=>by rcases n5 b hb with h|h;exact J b h;exact zL ag.fr.size h
 refine jU (hh w5 (au.q7 aa.fr)) (aa.cell 0 rfl rfl) ?_;have aP:U∉B3:=fun hm=>by
  rcases n5 U hm with h|h;exact af h
  have:=eV (ag.at (i:=0) rfl);dsimp only at this;omega
 refine zt b3 ((au.q7 aa.fr).2 pv[i] (zX ah)) (by rw[zF,zF];omega) fun s6 B6 w6 b6 f6 n6=>?_;have aC:=aa.q8 f6 (fun i hi=>.inr (aO i hi)) (fun p hp=>by rw[zE.1 hp];exact aP);rw[rz oJ];refine hX _ _ ⟨i+1,s6,B6,rfl,al,by rw[V,<- zV,<- zV];exact b6,aC,fun hm=>?_,fun b hb=>?_⟩ oN;rcases n6 U hm with h|h;exact aP h
 have:=eV (aa.at (i:=0) rfl);dsimp only at this;omega
 rcases n6 b hb with h|h;exact aO b h;exact zL aa.fr.size h;have aD:i=n.J6.length:=(by have:=zB E;omega);rw[aD,<- aK,xZ,aK,<- u] at b2
 have:=aI b2 J ho.fr
 rw[R] at this;exact this;rw[h0] at E;have aR:¬n.Q4=true:=(by rw[E];decide);have u:gj n=be n.J9.length 2++n.J9.flatMap (fun x=>be x 4)++n.J6.flatten:=(by unfold gj;rw[if_neg aR]);have R:iH n=4:=(by unfold iH;rw[if_neg aR]);refine oA h 0 rfl x.2.2.2 rfl<|oA h 0 rfl x.2.2.2 rfl<|oB h fun r9 w3 e3 f3 h=>oA h 1 rfl x.2.2.2 rfl ?_;have h9:=h.at (i:=0) rfl;have aw:=h.sub (L':=[(U,.cells (eK x) 174)]) (sublist_cons_self _ _);have ax:U≠r9:=fun e=>by have:=h.nodup;simp[e] at this
 have ac:w.heap.size<=r9:=(h.own (r9,_) (mem_cons_self ..)).elim (fun h=>nomatch h) id;have a5:(be n.J9.length 2++n.J9.flatMap (fun x=>be x 4)).length+n.J6.flatten.length<=500:=(by rw[<- zF,<- u];exact aH);refine je (fun t w'=>∃(i:Nat) (s2:Sl) (B2:List Nat),t=(s2,(i:Int))/\i<=n.J9.length/\fV w' s2 (be n.J9.length 2++(n.J9.take i).flatMap (fun x=>be x 4)) B2/\dQ [] w w' [(U,.cells (eK x) 174)]/\U∉B2/\∀b∈B2,w.heap.size<=b) (fun t _=>((n.J9.length:Int)-t.2).toNat)
  ⟨0,_,[r9],rfl,yX _,?_,aw,by simpa using ax,fun b hb=>by rw[zE.1 hb];exact ac⟩ ?_
 rw[qzO,take_zero,flatMap_nil,xH];refine Gr (T:=5) ?_ rfl;rw[n3] at h9;exact h9;rintro t w4 ⟨i,s2,B2,rfl,hi,b2,ho,af,J⟩ X hX;dsimp only;apply cD<;>intro E;have al:i<n.J9.length:=oJ;have am:n.J9[i]?=some n.J9[i]:=zA al;refine ed.get (ao.q7 ho.fr) i rfl am (y:=n.J9[i]) rfl<|oB ho fun r6 w5 e5 f5 h5=>?_;have a6:=h5.at (i:=0) rfl;have V:(n.J9.take (i+1)).flatMap (fun x=>be x 4)=(n.J9.take i).flatMap (fun x=>be x 4)++be n.J9[i] 4:=by rw[take_add_one,am,yQ];simp
 have an:(be n.J9.length 2++(n.J9.take (i+1)).flatMap (fun x=>be x 4)).length<=500:=(by have e:n.J9.flatMap (fun x=>be x 4)=(n.J9.take (i+1)).flatMap (fun x=>be x 4)++(n.J9.drop (i+1)).flatMap (fun x=>be x 4):=(by rw[<- yQ,xE]);rw[e,zF,zF] at a5;rw[zF];omega);rw[V,zF,zF] at an;have aq:eE [] w5 ⟨pW r6,4,4⟩ (be n.J9[i] 4):=qzi (T:=5) a6;have aE:=kr n.J9[i] 4;generalize be n.J9[i] 4=aT at V an aq aE;refine zt (src:=⟨pW r6,4,4⟩) (ys:=aT) (b2.q7 f5) aq (by rw[zF];omega) fun s6 B6 w6 b6 f6 n6=>?_;have aF:=h5.sub (L':=[(U,.cells (eK x) 174)]) (sublist_cons_self _ _);have aC:=aF.q8 f6 (fun i hi=>.inr (J i hi)) (fun p hp=>by rw[zE.1 hp];exact af);rw[rz oJ];refine hX _ _ ⟨i+1,s6,B6,rfl,al,by rw[V,<- zV];exact b6,aC,fun hm=>?_,fun b hb=>?_⟩ oN;rcases n6 U hm with h|h;exact af h
 have:=eV (aF.at (i:=0) rfl);dsimp only at this;omega
 rcases n6 b hb with h|h;exact J b h;exact zL aF.fr.size h;have aD:i=n.J9.length:=oJ;rw[aD,xZ] at b2;refine oA ho 0 rfl x.2.1 rfl<|qo2 (ar.q7 ho.fr) oJ (by rw[I];omega) fun s5 B5 w5 b5 f5 n5=>?_;rw[I] at b5;refine zt (b2.q7 f5) (b5.jw lr (S:=[]) (fun _ _ h=>nomatch h)) oJ fun s6 B6 w6 b6 f6 n6=>?_;rw[<- u] at b6
 have:=aI b6 (fun b hb=>by rcases n6 b hb with h|h;exact J b h;exact zL (zL ho.fr.size f5.size) h) ((ho.fr.trans f5).j8 f6 fun i hi=>.inr (J i hi))
 rw[R] at this;exact this
end
end
abbrev ND:TypeId:=174
def Ch{k v:Nat}:∀(c:Nat) (b:List Int),(iS k v c b).1.length=c/\(iS k v c b).2.length=c
 | 0,_=>⟨rfl,rfl⟩
 | c+1,b=>by
  have:=Ch (k:=k) (v:=v) c (b.drop (k+v))
  exact⟨by rw[iS,yI,this.1],by rw[iS,yI,this.2]⟩
def qnw{k v:Nat}:∀(c:Nat) (b:List Int),iS k v (c+1) b=((iS k v c b).1++[(b.drop (c*(k+v))).take k],(iS k v c b).2++[((b.drop (c*(k+v))).drop k).take v])
 | 0,b=>by simp[iS]
 | c+1,b=>by have ih:=qnw (k:=k) (v:=v) c (b.drop (k+v));have e:(k+v)+c*(k+v)=(c+1)*(k+v):=(by rw[xU];omega);rw[iS,ih];simp only[xD,e];rfl
def qnv:∀(c:Nat) (b:List Int),y7 (c+1) b=y7 c b++[ib ((b.drop (c*4)).take 4)]
 | 0,b=>by simp[y7]
 | c+1,b=>by have ih:=qnv c (b.drop 4);have e:4+c*4=(c+1)*4:=oJ;rw[y7,ih,xD,e];rfl
def qnt{k:Nat}:∀(c:Nat) (b:List Int),kT k (c+1) b=kT k c b++[(b.drop (c*k)).take k]
 | 0,b=>by simp[kT]
 | c+1,b=>by have ih:=qnt (k:=k) c (b.drop k);have e:k+c*k=(c+1)*k:=(by rw[xU];omega);rw[kT,ih,xD,e];rfl
def EZ:∀(c:Nat) (b:List Int),(y7 c b).length=c
 | 0,_=>rfl
 | c+1,b=>by rw[y7,yI,EZ c]
def Gy{k:Nat}:∀(c:Nat) (b:List Int),(kT k c b).length=c
 | 0,_=>rfl
 | c+1,b=>by rw[kT,yI,Gy c]
def pF{x:Sl}{l:List Sl}{vb:Nat}{T':TypeId}(h:eP gx 1 w s l B)(hl:l.length<=100000)(V:w.heap[vb]?=some (.cells #[fU x] T' (0,0)))(kk:∀E B' w',eP gx 1 w' E (l++[x]) B'->Fr B w w'->(∀b∈B',b∈B\/w.heap.size<=b)->K E w'): Pt.run di ((Builtin.append_ #[171,171] 171 #[s.v,.slice (pW vb) 1 1]).run prog w) K:=by obtain⟨ab,G,hz,I,J⟩:=Dq;refine eP.j1 (ys:=[x]) (e:=101) h vr oK G hz I rfl (.ofSlice w (e':=101) oK _ 1 1 _ rfl (fun j u R=>?_) fun u U=>?_) rfl (by rw[J];omega) oJ fun E B' w' b' f' n' _=>kk E B' w' b' f' n';rw[Addr.q9,jq V,xS];rw[yH,flatMap_nil,xH] at R;simpa[gx] using R;rw[yH,flatMap_nil,xH] at U;rw[zE.1 U];rfl
def qtl{x:Int}{vb:Nat}{T':TypeId}(h:eP iz 1 w s l B)(hl:l.length<=100000)(V:w.heap[vb]?=some (.cells #[.u x] T' (0,0)))(kk:∀E B' w',eP iz 1 w' E (l++[x]) B'->Fr B w w'->(∀b∈B',b∈B\/w.heap.size<=b)->K E w'): Pt.run di ((Builtin.append_ #[172,172] 172 #[s.v,.slice (pW vb) 1 1]).run prog w) K:=by obtain⟨ab,G,hz,I,J⟩:=vU;refine eP.j1 (ys:=[x]) (e:=63) h qZ oK G hz I rfl (.ofSlice w (e':=63) oK _ 1 1 _ rfl (fun j u R=>?_) fun u U=>?_) rfl (by rw[J];omega) oJ fun E B' w' b' f' n' _=>kk E B' w' b' f' n';rw[Addr.q9,jq V,xS];rw[yH,flatMap_nil,xH] at R;simpa[iz] using R;rw[yH,flatMap_nil,xH] at U;rw[zE.1 U];rfl
abbrev rN (h:Nat):Value:=.func (.func 232) #[] #[dF h]
def qsl{u i m:Nat}(h:dQ [] w0 w L)(hi:L[i]?=some (u,.cells #[fU s] T (0,0)))(G:eE [] w0 s b)(E:m<=b.length)(hl:b.length<=1000000)(kk:∀R B' U w',dQ [] w0 w' (L.set i (u,.cells #[fU U] T (0,0)))->fV w' R (b.take m) B'->(∀c∈B',w.heap.size<=c)->eE [] w0 U (b.drop m)->Fr [u] w w'->K R w'): dU prog (rN u) [.i m] di w K:=by
 refine sV (lb:=[dF u]) rfl oK<|qmx<|oA h i hi s rfl<|ed.part (S:=[]) G (lo:=none) (hi:=some (m:Int)) 0 m rfl rfl (yX _) E fun s1 _ V _=>?_;rw[xF] at V;refine Ab (V.q7 h.fr) (by rw[yL];omega) fun s2 B2 w2 b2 f2 n2 _ _=>?_;have h2:=h.q7 f2;refine oA h2 i hi s rfl<|ed.part (S:=[]) G (lo:=some (m:Int)) (hi:=none) m b.length rfl (by rw[xW,G.1]) E (zM _) fun s3 _ h3 _=>?_;rw[xZ] at h3;have I:=eV (h.at hi);refine oG h2 i hi #[fU s3] rfl rfl (zM _) fun w3 J f3=>kk s2 B2 s3 w3 J (b2.q8 f3 fun c hc E=>?_) n2 h3 ((f2.mono fun _ h _=>nomatch h).trans f3)
 have:=n2 c hc
 rw[zE.1 E] at this;dsimp only at I;omega
def uW (x:kj) (o:Nat):Sl:=if o=1 then x.2.1 else x.2.2.1
def xb (x:kj) (o:Nat) (s:Sl):kj:=if o=1 then (x.1,s,x.2.2) else (x.1,x.2.1,s,x.2.2.2)
def ER{o:Nat}(h:o=1\/o=2):(eK x)[o]?=some (fU (uW x o)):=by rcases h with rfl|rfl<;>rfl
def qzl{o:Nat}(h:o=1\/o=2):dS (eK x) o [fU s]=eK (xb x o s):=by rcases h with rfl|rfl<;>rfl
def GB{I J m o:Nat}{s':Sl}{l:List Sl}{Bk:List Nat}{K:WP}(ho:o=1\/o=2)(h:dQ [] w0 w ((I,.cells (eK x) ND (0,0))::(J,.cells #[fU s'] T (0,0))::L))(hr:eE [] w0 s' b)(E:m<=b.length)(aJ:b.length<=1000000)(af:eP gx 1 w (uW x o) l Bk)(ac:∀c∈Bk,w0.heap.size<=c/\c∉I::J::L.map (·.1))(hl:l.length<=100000)(kk:∀sn sN U Bk' w',dQ [] w0 w' ((I,.cells (eK (xb x o U)) ND (0,0))::(J,.cells #[fU sN] T (0,0))::L)->eE [] w0 sN (b.drop m)->eP gx 1 w' U (l++[sn]) Bk'-> (∀c∈Bk',c∈Bk\/w.heap.size<=c)->(∀c∈Bk',c∉I::J::L.map (·.1))->Fr (I::J::Bk) w w'->(∀G:List Nat,(∀c∈G,c<w.heap.size\/c∈Bk')->eE G w' sn (b.take m))->K w'): (ld Cell.slice (dh I o) w.drew<| fun (u:Sl)=> dU prog (rN J) ([Value.int IntKind.i64 m]) (di) w.drew<| fun (V:Sl) (ag:World)=> held [fun (av:Go.World)=>World.cell? av (dh I o)=some (Value.slice u.a u.len u.cap)] ag<| new (.cells #[Value.slice V.a V.len V.cap] 101) ag<| fun (aw:Nat) (ah:World)=> held [fun (ax:Go.World)=>World.cell? ax (dh I o)=some (Value.slice u.a u.len u.cap)] ah<| run di ((Builtin.append_ (#[171,171]) 171 (#[Value.slice u.a u.len u.cap,Value.slice (pW aw) 1 1])).run prog ah)<| fun (aa:Sl) (ay:World)=> st (dh I o) ([Value.slice aa.a aa.len aa.cap]) ay K):=by
 have hd:=h.drew;refine oA hd 0 rfl (uW x o) (ER ho)<|qsl hd (i:=1) rfl hr E aJ fun aK aL sN ak ad aM aN hN al=>?_;have ad:dQ [] w0 ak ((I,.cells (eK x) ND (0,0))::(J,.cells #[fU sN] T (0,0))::L):=ad;refine ig (ad.cell 0 rfl (ER ho))<|oB ad fun a0 a1 a2 am an=>ig (an.cell 1 rfl (ER ho)) ?_;have ao:eP gx 1 w.drew (uW x o) l Bk:=af;have az:=ao.q8 al fun c R E=>(ac c R).2 (by rw[zE.1 E];simp);have aA:=az.q7 am;refine pF aA hl (an.at (i:=0) rfl) fun U Bk' a3 aO ap aB=>?_;have aC:=an.sub (L':=(I,.cells (eK x) ND (0,0))::(J,.cells #[fU sN] T (0,0))::L) (sublist_cons_self _ _);have a4:w.heap.size<=ak.heap.size:=al.size;have a5:=am.size;have a6:=ap.size;have ab:∀c∈I::J::L.map (·.1),c<w.heap.size:=fun c R=>by obtain⟨p,hp,rfl⟩:=mem_map.1 (show c∈((I,Obj.cells (eK x) ND (0,0))::(J,.cells #[fU s'] T (0,0))::L).map (·.1) from R);exact eV (h.eI p hp)
 have aq:∀p∈((I,Obj.cells (eK x) ND (0,0))::(J,.cells #[fU sN] T (0,0))::L),p.1∉Bk:=fun p hp E=>(ac p.1 E).2 (zZ (f:=(·.1)) hp);have aQ:=aC.q8 ap (fun i hi=>.inr (ac i hi).1) aq;have ai:∀c∈Bk',c∈Bk\/w.heap.size<=c:=fun c R=>(aB c R).elim .inl fun h=>.inr oJ;have aD:∀c∈Bk',c∉I::J::L.map (·.1):=fun c R E=>by
  rcases ai c R with h|h;exact (ac c h).2 E
  have:=ab c E;omega
 refine oG aQ 0 rfl (eK (xb x o U)) (qzl ho) rfl (by rcases ho with rfl|rfl<;>exact zO rfl) fun ar aR aE=>?_;have h5:∀c∈Bk',c∉[I]:=fun c R E=>aD c R (by rw[zE.1 E];simp);have aF:Fr (I::J::Bk) ak ar:=((am.mono fun _ h _=>nomatch h).trans (ap.mono fun i hi _=>by simp[hi])).trans (aE.mono fun i hi _=>by simp[zE.1 hi]);have aT:Fr (I::J::Bk) w ar:=((Fr.refl _ w).drew.trans (al.mono fun i hi _=>by simp[zE.1 hi])).trans aF;refine kk aK sN U Bk' ar aR hN (aO.q8 aE h5) ai aD aT fun G hG=>?_;have aG:∀c∈aL,c∉I::J::Bk++G.filter fun c=>decide (c<w.heap.size):=fun c R E=>by
  have h1:w.heap.size<=c:=aN c R;rcases zD.1 E with E|E;rcases zG.1 E with rfl|E
  have:=ab c oL;omega
  rcases zG.1 E with rfl|E
  have:=ab c oL;omega
  have:=af.lt c E;omega
  have:=(mem_filter.1 E).2
  simp at this;omega
 refine (aM.jw lr aG).q8 (aF.mono fun i hi _=>zH _ hi) fun c R=>?_;rcases hG c R with h1|h1;exact .inl (zI _ (mem_filter.2 ⟨R,by simpa using h1⟩));rcases aB c h1 with h2|h2;exact .inl (zH _ (by simp[h2]));exact .inr oJ
section
def De{L':List (Nat×Obj)}(h:dQ S w0 w L)(p:L.Perm L'):dQ S w0 w L':=⟨fun x u=>h.eI x (p.mem_iff.2 u),(p.map _).nodup_iff.1 h.nodup,h.fr,fun x u=>h.own x (p.mem_iff.2 u)⟩
def zz{α:Type}{enc:α->List Value}{l:List α}(h:eP enc k w s l B):B.Nodup:=by rcases h with ⟨_,_,rfl⟩|⟨b,_,_,_,rfl,_⟩<;>simp
def t9 (w:World) (ps:py) (T:List Nat):Prop:=∀p∈ps,eE T w p.1 p.2
def t9.q8{w w':World}{ps:py}{T T' S:List Nat}(h:t9 w ps T)(f:Fr S w w')(u:∀b∈S,b∈T)(E:∀b∈T',b∈T\/w.heap.size<=b):t9 w' ps T':=fun p G=>(h p G).q8 (f.mono fun i I _=>u i I) E
def t9.snoc{T:List Nat}{a:Key}(h:t9 w ps T)(g:eE T w s a):t9 w (ps++[(s,a)]) T:=fun p u=>by rcases zD.1 u with u|u;exact h p u;rw[zE.1 u];exact g
def qtR{G:List Nat}{pk pv:py}{Bk h u T:List Nat}(h0:x.1=n.Q4)(hN:NB n)(U:eP gx 1 w x.2.1 (iy pk) Bk)(e1:gf pk=n.J6)(V:eP gx 1 w x.2.2.1 (iy pv) h)(e2:gf pv=n.Q0)(h3:eP iz 1 w x.2.2.2 n.J9 u)(d1:∀c∈Bk,c∉h/\c∉u)(d2:∀c∈h,c∉u)(g1:t9 w pk T)(g2:t9 w pv T)(hT:∀c∈G++(Bk++(h++u)),c∈T):fi (G++(Bk++(h++u))) w x n (Bk++(h++u)):=by refine⟨h0,hN,Bk,h,u,rfl,?_,⟨pk,U,e1,fun p J=>(g1 p J).j6 fun c R=>.inl (hT c R)⟩,⟨pv,V,e2,fun p J=>(g2 p J).j6 fun c R=>.inl (hT c R)⟩,h3⟩;refine yM.2 ⟨zz U,yM.2 ⟨zz V,zz h3,fun a I b E e=>d2 a I (e▸E)⟩,fun a I b E e=>?_⟩;rcases zD.1 E with E|E;exact (d1 a I).1 (e▸E);exact (d1 a I).2 (e▸E)
section
variable {w:World} {s:Sl} {b:List Int}
def qzd{count:Nat}{K:kj×Bool->WP}(hb:eE [] w s b)(hB:eH b)(hl:b.length<=1000)(hc:count<=100000)(hk:1<=k/\k<=1000)(hv:v<=1000)(kk:∀x B n w',(b.length=count*(k+v)->n=⟨true,(iS k v count b).1,(iS k v count b).2,[]⟩)->fi (List.range w.heap.size++B) w' x n B->Fr [] w w'->(∀c∈B,w.heap.size<=c)->K (x,decide (b.length=count*(k+v))) w'): cW 158 [s.v,.i count,.i k,.i v] [.agg dY,.one .bool] w K:=by
 refine qrN<|oB (oE [] w) fun E w1 e1 f1 h=>?_;have a5:count*(k+v)<=100000*2000:=Nat.mul_le_mul hc oJ;have ew:wrap .i64 ((count:Int)*wrap .i64 ((k:Int)+(v:Int)))=((count*(k+v):Nat):Int):=by have e1:wrap .i64 ((k:Int)+(v:Int))=((k+v:Nat):Int):=(by rw[gq _ oJ];rfl);rw[e1,<- Int.natCast_mul,gq _ oJ]
 rw[ew];have ar:=hb.1;apply dV<;>intro ae;have au:b.length≠count*(k+v):=fun e=>by rw[ar,e] at ae;simp at ae
 refine oD h 0 rfl (eK fD) fun w2 h f2=>oC h 0 rfl fD rfl ?_
 have:=kk fD [] iv w2 (fun e=>absurd e au) (.zero _ _) h.fr (fun _ h=>nomatch h)
 rw[zU au] at this;exact this;have aM:b.length=count*(k+v):=by
  have:((s.len:Int)==((count*(k+v):Nat):Int))=true:=by simpa using ae
  have:=yP.1 this
  omega
 have ba:count<=1000:=(by have:count*1<=count*(k+v):=Nat.mul_le_mul_left _ oJ;omega);refine oB h fun G w2 e2 f2 h=>oD h 0 rfl (eK (true,dG,dG,dG)) fun w3 h f3=>qi7<|oB h fun I w4 e4 f4 h=>?_;have h:=De h (List.Perm.swap _ _ _);have bb:=h.nodup;have bc:=fun p hp=>(h.own p hp).elim (fun h=>(nomatch h:False).elim) (id:w.heap.size<=p.1->_);refine je (fun i w'=>∃(c:Nat) (sk sv sn:Sl) (pk pv:py) (Bk J:List Nat),i=(c:Int)/\c<=count/\dQ [] w w' [(G,.cells (eK (true,sk,sv,dG)) ND (0,0)),(I,.cells #[fU sn] 101 (0,0)),(E,.cells (eK fD) ND (0,0))]/\
   eE [] w sn (b.drop (c*(k+v)))/\eP gx 1 w' sk (iy pk) Bk/\gf pk=(iS k v c b).1/\eP gx 1 w' sv (iy pv) J/\gf pv=(iS k v c b).2/\(∀c∈Bk,w.heap.size<=c/\c∉[G,I,E])/\(∀c∈J,w.heap.size<=c/\c∉[G,I,E])/\(∀c∈Bk,c∉J)/\
   t9 w' pk (List.range w.heap.size++G::I::E::(Bk++J))/\t9 w' pv (List.range w.heap.size++G::I::E::(Bk++J))) (fun i _=>((count:Int)-i).toNat)
  ⟨0,dG,dG,s,[],[],[],[],rfl,yX _,h,by rw[Nat.zero_mul,xF];exact hb,.nil _ _ _,rfl,.nil _ _ _,rfl,fun _ h=>(nomatch h),fun _ h=>(nomatch h),fun _ h=>(nomatch h),fun _ h=>(nomatch h),fun _ h=>(nomatch h)⟩ ?_
 rintro _ w' ⟨c,sk,sv,sn,pk,pv,Bk,J,rfl,bf,h,aN,av,ek,af,ev,nk,nv,al,gk,gv⟩ X hX;have lk:pk.length=c:=(by rw[<- zK (f:=(·.2)),show pk.map (·.2)=gf pk from rfl,ek,(Ch c b).1]);have lv:pv.length=c:=(by rw[<- zK (f:=(·.2)),show pv.map (·.2)=gf pv from rfl,ev,(Ch c b).2]);have U:∀z∈[G,I,E],z<w'.heap.size:=fun z u=>by simp only[zG,xX,or_false] at u;rcases u with rfl|rfl|rfl;exact eV (h.at (i:=0) rfl);exact eV (h.at (i:=1) rfl);exact eV (h.at (i:=2) rfl)
 apply cD<;>intro am;have aw:c<count:=oJ;have an:(c+1)*(k+v)<=count*(k+v):=Nat.mul_le_mul_right _ aw;rw[xU,Nat.one_mul] at an;have bh:(b.drop (c*(k+v))).length=b.length-c*(k+v):=yC;refine GB (o:=1) (m:=k) (.inl rfl) h aN oJ oJ (x:=(true,sk,sv,dG)) av (fun z u=>nk z u) oO fun aa sN ab Bk' w5 h5 aQ b5 n5 m5 f5 g5=>?_;have h5:dQ [] w w5 [(G,.cells (eK (true,ab,sv,dG)) ND (0,0)),(I,.cells #[fU sN] 101 (0,0)),(E,.cells (eK fD) ND (0,0))]:=h5;have ax:=af.q8 f5 fun z u R=>by simp only[zG] at R;rcases R with rfl|rfl|R;exact (nv _ u).2 oL;exact (nv _ u).2 oL;exact al z R u
 have ay:∀z∈List.range w.heap.size++G::I::E::(Bk'++J),z∈List.range w.heap.size++G::I::E::(Bk++J)\/w'.heap.size<=z:=fun z u=>by simp only[zD,zG] at u⊢;rcases u with u|rfl|rfl|rfl|u|u;exact .inl (.inl u);simp;simp;simp;rcases n5 z u with h|h;simp[h];exact .inr h;simp[u]
 have az:∀z∈G::I::Bk,z∈List.range w.heap.size++G::I::E::(Bk++J):=fun z u=>by simp only[zD,zG] at u⊢;rcases u with rfl|rfl|u<;>simp[*]
 have aU:=(gk.q8 f5 az ay).snoc (s:=aa) (a:=(b.drop (c*(k+v))).take k) (g5 _ fun z u=>by
  simp only[zD,zG,mem_range] at u
  have:=h.fr.size
  rcases u with u|rfl|rfl|rfl|u|u;exact .inl oJ;exact .inl (U _ oL);exact .inl (U _ oL);exact .inl (U _ oL);exact .inr u;exact .inl (af.lt z u))
 have aV:=gv.q8 f5 az ay;have ao:∀z∈Bk',w.heap.size<=z/\z∉[G,I,E]:=fun z u=>⟨by rcases n5 z u with V|V;exact (nk z V).1;exact zL h.fr.size V,m5 z u⟩;have ak:∀z∈Bk',z∉J:=fun z u R=>by
  rcases n5 z u with V|V;exact al z V R
  have:=af.lt z R;omega
 have aW:eP gx 1 w5 ab (iy (pk++[(aa,(b.drop (c*(k+v))).take k)])) Bk':=(by rw[show iy (pk++[(aa,(b.drop (c*(k+v))).take k)])=iy pk++[aa] by simp];exact b5);refine GB (o:=2) (m:=v) (.inr rfl) h5 aQ (by rw[yC];omega) (by rw[yC];omega) (x:=(true,ab,sv,dG)) ax (fun z u=>nv z u) oO fun ah aA aB aC w6 h6 aD b6 n6 m6 f6 g6=>?_;have h6:dQ [] w w6 [(G,.cells (eK (true,ab,aB,dG)) ND (0,0)),(I,.cells #[fU aA] 101 (0,0)),(E,.cells (eK fD) ND (0,0))]:=h6;have ac:∀z∈[G,I,E],z<w5.heap.size:=fun z u=>yD (U z u) f5.size;have aE:=aW.q8 f6 fun z u R=>by simp only[zG] at R;rcases R with rfl|rfl|R;exact (ao _ u).2 oL;exact (ao _ u).2 oL;exact ak z u R
 have aF:∀z∈List.range w.heap.size++G::I::E::(Bk'++aC),z∈List.range w.heap.size++G::I::E::(Bk'++J)\/w5.heap.size<=z:=fun z u=>by simp only[zD,zG] at u⊢;rcases u with u|rfl|rfl|rfl|u|u;exact .inl (.inl u);simp;simp;simp;simp[u];rcases n6 z u with h|h;simp[h];exact .inr h
 have aG:∀z∈G::I::J,z∈List.range w.heap.size++G::I::E::(Bk'++J):=fun z u=>by simp only[zD,zG] at u⊢;rcases u with rfl|rfl|u<;>simp[*]
 have a0:=(aV.q8 f6 aG aF).snoc (s:=ah) (a:=((b.drop (c*(k+v))).drop k).take v) (g6 _ fun z u=>by
  simp only[zD,zG,mem_range] at u
  have:=h5.fr.size
  rcases u with u|rfl|rfl|rfl|u|u;exact .inl oJ;exact .inl (ac _ oL);exact .inl (ac _ oL);exact .inl (ac _ oL);exact .inl (b5.lt z u);exact .inr u)
 have a1:=aU.q8 f6 aG aF;rw[rz oJ];have aH:=qnw (k:=k) (v:=v) c b;refine hX _ _ ⟨c+1,ab,aB,aA,pk++[(aa,(b.drop (c*(k+v))).take k)],pv++[(ah,((b.drop (c*(k+v))).drop k).take v)],Bk',aC,rfl,aw,h6,?_,aE,?_,?_,?_,ao,fun z u=>⟨?_,m6 z u⟩,fun z u R=>?_,a1,a0⟩ oJ;rw[xD,xD] at aD;have e:c*(k+v)+(k+v)=(c+1)*(k+v):=(by rw[xU];omega);rw[<- e];exact aD;rw[aH];simp[ek];rw[show iy (pv++[(ah,((b.drop (c*(k+v))).drop k).take v)])=iy pv++[ah] by simp];exact b6;rw[aH];simp[ev];rcases n6 z u with V|V;exact (nv z V).1;exact zL h5.fr.size V;rcases n6 z R with V|V;exact ak z u V
 have:=b5.lt z u;omega
 have a2:c=count:=oJ;subst a2;refine oC h 0 rfl (true,sk,sv,dG) rfl<|oD h 2 rfl (eK (true,sk,sv,dG)) fun w5 h5 f5=>oC h5 2 rfl (true,sk,sv,dG) rfl ?_;have aI:∀ {B:List Nat},(∀z∈B,w.heap.size<=z/\z∉[G,I,E])->∀z∈B,z∉[E]:=fun hB z u R=>(hB z u).2 (by rw[zE.1 R];simp);have aJ:∀z∈[E],z∈List.range w.heap.size++G::I::E::(Bk++J):=fun z u=>by rw[zE.1 u];simp
 have:=kk (true,sk,sv,dG) (Bk++(J++[])) ⟨true,(iS k v c b).1,(iS k v c b).2,[]⟩ w5 (fun _=>rfl)
  (qtR (T:=List.range w.heap.size++G::I::E::(Bk++J)) rfl ⟨(GI c hB).1,(GI c hB).2,fun _ h=>(nomatch h)⟩ (av.q8 f5 (aI nk)) ek (af.q8 f5 (aI nv)) ev (.nil _ _ _) (fun z u=>⟨al z u,fun h=>nomatch h⟩) (fun _ _ h=>nomatch h)
   (gk.q8 f5 aJ fun z u=>.inl u) (gv.q8 f5 aJ fun z u=>.inl u) fun z u=>by simp only[xH,zD,zG] at u⊢;rcases u with u|u|u<;>simp[*]) h5.fr (fun z u=>by
   rw[xH] at u;rcases zD.1 u with u|u;exact (nk z u).1;exact (nv z u).1)
 rw[yA aM] at this;exact this
end
end
section
def qsK(u:eH l)(G:4<=l.length):fu (l.take 4)=ib (l.take 4):=by
 match l,G with
 | a::b::c::d::r,_=>
  have I:=u a oL;have J:=u b oL;have R:=u c oL;have U:=u d oL;show fu [a,b,c,d]=ib [a,b,c,d];show oq a b c d=_;rw[qrq I J R U,C0 (fun v E=>u v (by simp at E⊢;rcases E with h|h|h|h<;>simp[h])) (zM _)];show _=(((0*256+a)*256+b)*256+c)*256+d;omega
def qxN(l:List Int):gI (ib l):=by
 unfold ib;have:∀(l:List Int) (r:Int),gI r->gI (l.foldl (fun r x=>bits .or .u32 (wrap .u32 (r*2^8)) (wrap .u32 x)) r):=by
  intro l;induction l with
  | nil=>intro r h;exact h
  | cons x l ih=>intro r h;exact ih _ (Dt _ _ _)
 exact this l 0 ⟨oM,oM⟩
def qpD:∀(c:Nat) (b:List Int),∀x∈y7 c b,gI x
 | 0,_,_,h=>nomatch h
 | c+1,b,x,h=>by rcases zG.1 h with rfl|h;exact qxN _;exact qpD c _ x h
def qzs{J R:Nat}{s':Sl}{Bi:List Nat}{K:WP}(h:dQ [] w0 w ((J,.cells (eK x) ND (0,0))::(R,.cells #[fU s'] T (0,0))::L))(hr:eE [] w0 s' b)(hB:eH b)(hm:4<=b.length)(aD:b.length<=1000000)(ak:eP iz 1 w x.2.2.2 l Bi)(ad:∀c∈Bi,w0.heap.size<=c/\c∉J::R::L.map (·.1))(hl:l.length<=100000)(kk:∀sN U V w',dQ [] w0 w' ((J,.cells (eK (x.1,x.2.1,x.2.2.1,U)) ND (0,0))::(R,.cells #[fU sN] T (0,0))::L)->eE [] w0 sN (b.drop 4)->eP iz 1 w' U (l++[ib (b.take 4)]) V-> (∀c∈V,w0.heap.size<=c/\c∉J::R::L.map (·.1))->K w'): (dU prog (rN R) ([Value.int IntKind.i64 4]) (di) w<| fun (G:Sl) (u:World)=> ld Cell.slice (dh J 3) u.drew<| fun (E:Sl)=> idx G 0 1<| fun (al:Addr)=> ld (Cell.int IntKind.u8) al u.drew<| fun (am:Int)=> idx G 1 1<| fun (an:Addr)=> ld (Cell.int IntKind.u8) an u.drew<| fun (ao:Int)=> idx G 2 1<| fun (ap:Addr)=> ld (Cell.int IntKind.u8) ap u.drew<| fun (aq:Int)=> idx G 3 1<| fun (ar:Addr)=> ld (Cell.int IntKind.u8) ar u.drew<| fun (au:Int)=> new (.cells #[Value.int IntKind.u32 (bits .or .u32 (bits .or .u32 (bits .or .u32 (wrap IntKind.u32 (wrap IntKind.u32 am*2^24)) (wrap IntKind.u32 (wrap IntKind.u32 ao*2^16))) (wrap IntKind.u32 (wrap IntKind.u32 aq*2^8))) (wrap IntKind.u32 au))] 63) u.drew<| fun (av:Nat) (ag:World)=> held [fun (aw:Go.World)=>World.cell? aw (dh J 3)=some (Value.slice E.a E.len E.cap)] ag<| run di ((Builtin.append_ (#[172,172]) 172 (#[Value.slice E.a E.len E.cap,Value.slice (pW av) 1 1])).run prog ag)<| fun (aa:Sl) (ax:World)=> st (dh J 3) ([Value.slice aa.a aa.len aa.cap]) ax K):=by
 refine qsl (m:=4) h (i:=1) rfl hr hm aD fun aE a0 sN ae aF aG a1 hN aH=>?_;have hd:dQ [] w0 ae.drew ((J,.cells (eK x) ND (0,0))::(R,.cells #[fU sN] T (0,0))::L):=oF aF;refine oA hd 0 rfl x.2.2.2 rfl ?_;have I:eE [] ae.drew aE (b.take 4):=(aG.jw lr (S:=[]) (fun _ _ h=>nomatch h)).q7 (Fr.refl [] ae).drew;have h4:4<=(b.take 4).length:=(by rw[yL];omega);refine eE.at I 0 rfl (getD_some oJ)<|eE.at I 1 rfl (getD_some oJ)<|eE.at I 2 rfl (getD_some oJ)<|eE.at I 3 rfl (getD_some oJ) ?_;have e4:=qsK hB hm;unfold fu oq at e4;rw[e4];refine oB hd fun a3 aI a4 aJ ah=>ig (ah.cell 1 rfl rfl) ?_;have ay:=ak.q8 aH fun c hc hm=>(ad c hc).2 (by rw[zE.1 hm];simp);have az:=(ay.q7 (Fr.refl [] ae).drew).q7 aJ;refine qtl az hl (ah.at (i:=0) rfl) fun U V a5 aK aL aM=>?_;have ab:=ah.sub (L':=(J,.cells (eK x) ND (0,0))::(R,.cells #[fU sN] T (0,0))::L) (sublist_cons_self _ _);have aj:∀p∈((J,Obj.cells (eK x) ND (0,0))::(R,.cells #[fU sN] T (0,0))::L),p.1∉Bi:=fun p hp hm=>(ad p.1 hm).2 (zZ (f:=(·.1)) hp);have aO:=ab.q8 aL (fun i hi=>.inr (ad i hi).1) aj;have aA:∀c∈J::R::L.map (·.1),c<aI.heap.size:=fun c hc=>by obtain⟨p,hp,rfl⟩:=mem_map.1 (show c∈((J,Obj.cells (eK x) ND (0,0))::(R,.cells #[fU sN] T (0,0))::L).map (·.1) from hc);exact eV (ab.eI p hp)
 have aB:∀c∈V,w0.heap.size<=c/\c∉J::R::L.map (·.1):=fun c hc=>by rcases aM c hc with h|h;exact ad c h;exact⟨zL ab.fr.size h,fun hm=>by have:=aA c hm;omega⟩
 exact oD aO 0 rfl (eK (x.1,x.2.1,x.2.2.1,U)) fun aP aQ aR=>kk sN U V aP aQ hN (aK.q8 aR fun c hc hm=>(aB c hc).2 (by rw[zE.1 hm];simp)) aB
section
variable {w:World} {s:Sl} {b:List Int}
def qwk{count:Nat}{K:kj×Bool->WP}(hb:eE [] w s b)(hB:eH b)(hl:b.length<=1000)(hc:count<=100000)(hk:1<=k/\k<=1000)(kk:∀x B n w',(1<=count/\b.length=count*4+(count-1)*k->n=⟨false,kT k (count-1) (b.drop (count*4)),[],y7 count b⟩)->fi (List.range w.heap.size++B) w' x n B->Fr [] w w'->(∀c∈B,w.heap.size<=c)->K (x,decide (1<=count/\b.length=count*4+(count-1)*k)) w'): cW 159 [s.v,.i count,.i k] [.agg dY,.one .bool] w K:=by
 refine qqp<|oB (oE [] w) fun E w1 e1 f1 h=>?_;have ap:=hb.1;have aq:(count-1)*k<=100000*1000:=Nat.mul_le_mul oJ hk.2;refine hU (fun d w'=>d = !decide (1<=count/\b.length=count*4+(count-1)*k)/\w'=w1) ?_ ?_;apply dV<;>intro h1;have h1:=zC h1;refine⟨?_,rfl⟩;rw[zU (fun h=>oJ)];rfl;have h1:=zB h1;refine⟨?_,rfl⟩;have ea:wrap .i64 ((count:Int)-1)=((count-1:Nat):Int):=(by rw[gq _ oJ];omega);have ew:wrap .i64 (wrap .i64 ((count:Int)*4)+wrap .i64 (wrap .i64 ((count:Int)-1)*(k:Int)))=((count*4+(count-1)*k:Nat):Int):=by have e4:wrap .i64 ((count:Int)*4)=((count*4:Nat):Int):=(by rw[gq _ oJ];rfl);have e5:wrap .i64 (((count-1:Nat):Int)*(k:Int))=(((count-1)*k:Nat):Int):=(by rw[<- Int.natCast_mul,gq _ oJ]);rw[ea,e4,e5];generalize (count-1)*k=z at aq;rw[gq _ oJ];rfl
 rw[ew,ap];congr 1;rw[Bool.eq_iff_iff,yP,yN];generalize (count-1)*k=z;omega;rintro d a1 ⟨rfl,rfl⟩;apply dV<;>intro V;have au:¬(1<=count/\b.length=count*4+(count-1)*k):=(by rw[zT] at V;exact zB V);refine oD h 0 rfl (eK fD) fun w2 h f2=>oC h 0 rfl fD rfl ?_
 have:=kk fD [] iv w2 (fun e=>absurd e au) (.zero _ _) h.fr (fun _ h=>nomatch h)
 rw[zU au] at this;exact this;have aH:1<=count/\b.length=count*4+(count-1)*k:=(by rw[yE] at V;exact zC V);refine oB h fun I w2 e2 f2 h=>qi7<|oB h fun J w4 e4 f4 h=>?_;have h:=De h (List.Perm.swap _ _ _);refine je (fun i w'=>∃(c:Nat) (U sn:Sl) (R:List Nat),i=(c:Int)/\c<=count/\dQ [] w w' [(I,.cells (eK (false,dG,dG,U)) ND (0,0)),(J,.cells #[fU sn] 101 (0,0)),(E,.cells (eK fD) ND (0,0))]/\
   eE [] w sn (b.drop (c*4))/\eP iz 1 w' U (y7 c b) R/\(∀c∈R,w.heap.size<=c/\c∉[I,J,E])) (fun i _=>((count:Int)-i).toNat)
  ⟨0,dG,s,[],rfl,yX _,h,by rw[Nat.zero_mul,xF];exact hb,.nil _ _ _,fun _ h=>(nomatch h)⟩ ?_
 rintro _ w' ⟨c,U,sn,R,rfl,a3,h,av,G,ni⟩ X hX;apply cD<;>intro ah;have ac:c<count:=oJ;have aJ:(b.drop (c*4)).length=b.length-c*4:=yC;refine qzs h av (hB.drop _) oJ oJ (x:=(false,dG,dG,U)) G ni (by rw[EZ];omega) fun sN aK aL w5 h5 aa b5 n5=>?_;rw[rz oJ];refine hX _ _ ⟨c+1,aK,sN,aL,rfl,ac,h5,?_,by rw[qnv];exact b5,n5⟩ oJ;rw[xD] at aa;have e:c*4+4=(c+1)*4:=oJ;rw[<- e];exact aa;have ai:c=count:=oJ;subst ai;have aW:∀z∈R,w.heap.size<=z:=fun z u=>(ni z u).1;refine je (fun i w2=>∃(d:Nat) (sk sn:Sl) (pk:py) (Bk:List Nat),i=(d:Int)/\d<=c-1/\dQ [] w w2 [(I,.cells (eK (false,sk,dG,U)) ND (0,0)),(J,.cells #[fU sn] 101 (0,0)),(E,.cells (eK fD) ND (0,0))]/\
   eE [] w sn ((b.drop (c*4)).drop (d*k))/\eP iz 1 w2 U (y7 c b) R/\eP gx 1 w2 sk (iy pk) Bk/\gf pk=kT k d (b.drop (c*4))/\(∀c∈Bk,w.heap.size<=c/\c∉[I,J,E])/\(∀c∈Bk,c∉R)/\
   t9 w2 pk (List.range w.heap.size++I::J::E::(Bk++R))) (fun i _=>(((c-1:Nat):Int)-i).toNat)
  ⟨0,dG,sn,[],[],rfl,yX _,h,by rw[Nat.zero_mul,xF];exact av,G,.nil _ _ _,rfl,fun _ h=>(nomatch h),fun _ h=>(nomatch h),fun _ h=>(nomatch h)⟩ ?_
 rintro _ w2 ⟨d,sk,a4,pk,Bk,rfl,a5,h,ax,G,ay,ek,nk,aj,gk⟩ X hX;have lk:pk.length=d:=(by rw[<- zK (f:=(·.2)),show pk.map (·.2)=gf pk from rfl,ek,Gy]);have ea:wrap .i64 ((c:Int)-1)=((c-1:Nat):Int):=(by rw[gq _ oJ];omega);have ab:∀z∈[I,J,E],z<w2.heap.size:=fun z u=>by simp only[zG,xX,or_false] at u;rcases u with rfl|rfl|rfl;exact eV (h.at (i:=0) rfl);exact eV (h.at (i:=1) rfl);exact eV (h.at (i:=2) rfl)
 rw[ea];apply cD<;>intro ak;have ac:d<c-1:=oJ;have al:(d+1)*k<=(c-1)*k:=Nat.mul_le_mul_right _ ac;rw[xU,Nat.one_mul] at al;have aJ:((b.drop (c*4)).drop (d*k)).length=b.length-c*4-d*k:=(by rw[yC,yC]);refine GB (o:=1) (m:=k) (.inl rfl) h ax oJ oJ (x:=(false,sk,dG,U)) ay nk oO fun ad sN az Bk' w5 h5 aa b5 n5 m5 f5 g5=>?_;have h5:dQ [] w w5 [(I,.cells (eK (false,az,dG,U)) ND (0,0)),(J,.cells #[fU sN] 101 (0,0)),(E,.cells (eK fD) ND (0,0))]:=h5;have aA:=G.q8 f5 fun z u hm=>by simp only[zG] at hm;rcases hm with rfl|rfl|hm;exact (ni _ u).2 oL;exact (ni _ u).2 oL;exact aj z hm u
 have aO:∀z∈List.range w.heap.size++I::J::E::(Bk'++R),z∈List.range w.heap.size++I::J::E::(Bk++R)\/w2.heap.size<=z:=fun z u=>by simp only[zD,zG] at u⊢;rcases u with u|rfl|rfl|rfl|u|u;exact .inl (.inl u);simp;simp;simp;rcases n5 z u with h|h;simp[h];exact .inr h;simp[u]
 have aP:∀z∈I::J::Bk,z∈List.range w.heap.size++I::J::E::(Bk++R):=fun z u=>by simp only[zD,zG] at u⊢;rcases u with rfl|rfl|u<;>simp[*]
 have aQ:=(gk.q8 f5 aP aO).snoc (s:=ad) (a:=((b.drop (c*4)).drop (d*k)).take k) (g5 _ fun z u=>by
  simp only[zD,zG,mem_range] at u
  have:=h.fr.size
  rcases u with u|rfl|rfl|rfl|u|u;exact .inl oJ;exact .inl (ab _ oL);exact .inl (ab _ oL);exact .inl (ab _ oL);exact .inr u;exact .inl (G.lt z u))
 rw[rz oJ];refine hX _ _ ⟨d+1,az,sN,pk++[(ad,((b.drop (c*4)).drop (d*k)).take k)],Bk',rfl,ac,h5,?_,aA,?_,?_,fun z u=>⟨?_,m5 z u⟩,fun z u hm=>?_,aQ⟩ oJ;rw[xD] at aa;have e:d*k+k=(d+1)*k:=(by rw[xU];omega);rw[<- e];exact aa;rw[show iy (pk++[(ad,((b.drop (c*4)).drop (d*k)).take k)])=iy pk++[ad] by simp];exact b5;rw[qnt];simp[ek];rcases n5 z u with h'|h';exact (nk z h').1;exact zL h.fr.size h';rcases n5 z u with h'|h';exact aj z h' hm
 have:=G.lt z hm;omega
 have ai:d=c-1:=oJ;subst ai;refine oC h 0 rfl (false,sk,dG,U) rfl<|oD h 2 rfl (eK (false,sk,dG,U)) fun w5 h5 f5=>oC h5 2 rfl (false,sk,dG,U) rfl ?_;have aB:∀ {B:List Nat},(∀z∈B,w.heap.size<=z/\z∉[I,J,E])->∀z∈B,z∉[E]:=fun hB z u hm=>(hB z u).2 (by rw[zE.1 hm];simp);have aR:∀z∈[E],z∈List.range w.heap.size++I::J::E::(Bk++R):=fun z u=>by rw[zE.1 u];simp
 have:=kk (false,sk,dG,U) (Bk++([]++R)) ⟨false,kT k (c-1) (b.drop (c*4)),[],y7 c b⟩ w5 (fun _=>rfl)
  (qtR (pv:=[]) (T:=List.range w.heap.size++I::J::E::(Bk++R)) rfl ⟨qpB _ (hB.drop _),fun _ h=>(nomatch h),qpD _ _⟩ (ay.q8 f5 (aB nk)) ek (.nil _ _ _) rfl (G.q8 f5 (aB ni)) (fun z u=>⟨fun h=>(nomatch h),aj z u⟩) (fun _ h=>nomatch h)
   (gk.q8 f5 aR fun z u=>.inl u) (fun _ h=>nomatch h) fun z u=>by simp only[xI,zD,zG] at u⊢;rcases u with u|u|u<;>simp[*]) h5.fr (fun z u=>by
   rw[xI] at u;rcases zD.1 u with u|u;exact (nk z u).1;exact (ni z u).1)
 rw[yA aH] at this;exact this
end
end
section
def qsF(h:eH b)(G:2<=b.length):bits .or .i64 (wrap .i64 (wrap .i64 (b.getD 0 0)*2^8)) (wrap .i64 (b.getD 1 0))=(fI b:Int)/\fI b<=65535:=by have u:0<=b.getD 0 0/\b.getD 0 0<256:=h _ (yF (getD_some (l:=b) (n:=0) oJ));have E:0<=b.getD 1 0/\b.getD 1 0<256:=h _ (yF (getD_some (l:=b) (n:=1) oJ));unfold fI;generalize b.getD 0 0=x at u⊢;generalize b.getD 1 0=y at E⊢;rw[gq x oJ,gq y oJ,gq (x*2^8) oJ,qrQ 8 oJ oJ oJ oJ oJ];omega
def qmZ(h:(dW k v).1≠0):1<=k/\k<=24/\v<=108:=by unfold dW at h;split at h;exact absurd rfl h;omega
def qyd(h:(dW k v).1=0\/b.length<2\/b.length>500):iA kind b k v=(iv,2):=by unfold iA;rw[if_pos h]
def qwT(h:¬((dW k v).1=0\/b.length<2\/b.length>500)):iA 3 b k v=if (b.drop 2).length=fI b*(k+v)/\fJ (mM k v b) k v then (mM k v b,0) else (iv,2):=by unfold iA;rw[if_neg h];by_cases h2:(b.drop 2).length=fI b*(k+v)/\fJ (mM k v b) k v;rw[if_pos ⟨rfl,h2⟩,if_pos h2];rw[if_neg fun h=>h2 h.2,if_neg h2,if_neg fun h=>absurd h.1 oM]
def qvd(h:¬((dW k v).1=0\/b.length<2\/b.length>500)):iA 4 b k v=if (1<=fI b/\(b.drop 2).length=fI b*4+(fI b-1)*k)/\fJ (kX k b) k v then (kX k b,0) else (iv,2):=by unfold iA;rw[if_neg h,if_neg fun h=>absurd h.1 oM];by_cases h2:(1<=fI b/\(b.drop 2).length=fI b*4+(fI b-1)*k)/\fJ (kX k b) k v;rw[if_pos ⟨rfl,h2.1.1,h2.1.2,h2.2⟩,if_pos h2];rw[if_neg fun h=>h2 ⟨⟨h.2.1,h.2.2.1⟩,h.2.2.2⟩,if_neg h2]
def qwS(u:kind≠3)(E:kind≠4):iA kind b k v=(iv,2):=by unfold iA;split;rfl;rw[if_neg fun h=>u h.1,if_neg fun h=>E h.1]
section
variable {w:World} {s:Sl} {b:List Int}
def EE{K:kj×Int->WP}(hb:eE [] w s b)(hB:eH b)(kk:∀x B w',fi (List.range w.heap.size++B) w' x (iA kind b k v).1 B->Fr [] w w'->(∀c∈B,w.heap.size<=c)->K (x,(iA kind b k v).2) w'): cW 118 [.b kind,s.v,.i k,.i v] [.agg dY,.one .i] w K:=by
 refine qrL ?_;have ai:=hb.1;refine oB (oE [] w) fun r1 w1 e1 f1 h=>Ep fun w4 f4=>?_;have h:=h.q7 f4;refine hU (fun d w'=>d=decide ((dW k v).1=0\/b.length<2\/b.length>500)/\w'=w4) ?_ ?_;dsimp only;refine dV (fun E=>⟨?_,rfl⟩) (fun E=>dV (fun c2=>⟨?_,rfl⟩) (fun c2=>⟨?_,rfl⟩));have E:=yP.1 E;exact Dx (.inl oJ);have c2:=zC c2;exact Dx (.inr (.inl oJ));have E:=zR.1 E;have c2:=zB c2;rw[Bool.eq_iff_iff,yN,yN];constructor;intro h;exact .inr (.inr oJ);rintro (h|h|h);omega;omega;omega;rintro d aK ⟨rfl,rfl⟩;have ax:∀ {w'},iA kind b k v=(iv,2)->dQ [] w w' [(r1,.cells (eK fD) ND (0,0))]->
   st (dh r1) ([Value.bool false,Value.slice none 0 0,Value.slice none 0 0,Value.slice none 0 0]) w' fun ay=>dK (dY) (dh r1) ay fun aL=>K ((aL,2)) ay:=fun he h=>by
  refine oD h 0 rfl (eK fD) fun w2 h f2=>oC h 0 rfl fD rfl ?_
  have:=kk fD [] w2 (by rw[he];exact .zero _ _) h.fr (fun _ h=>nomatch h)
  rw[he] at this;exact this
 refine dV (fun u=>ax (qyd (zC u)) h) (fun u=>?_);have ab:=zB u;have az:(dW k v).1≠0:=fun e=>ab (.inl e);have h2:2<=b.length/\b.length<=500:=by refine⟨?_,?_⟩;exact Nat.not_lt.1 fun e=>ab (.inr (.inl e));exact Nat.not_lt.1 fun e=>ab (.inr (.inr e))
 obtain⟨a0,a1,a2⟩:=qmZ az;obtain⟨aA,a3⟩:=qsF hB h2.1;have aB:=(hb.q7 h.fr).q7 (Fr.refl [] aK).drew;refine eE.at aB 0 rfl (getD_some oJ)<|eE.at aB 1 rfl (getD_some oJ) ?_;rw[aA];have h:=h.drew;refine oB h fun ag ak a4 a5 h=>?_;have al:=eV (h.at (i:=0) rfl);have aC:=eV (h.at (i:=1) rfl);dsimp only at al aC;have aj:=hb.q7 h.fr;have aD:=h.fr.size;refine hU (fun U w'=>∃x B n,dQ [] w w' [(ag,.cells (eK x) ND (0,0)),(r1,.cells (eK fD) ND (0,0))]/\fi (List.range ak.heap.size++B) w' x n B/\(∀c∈B,ak.heap.size<=c)/\
   U=decide ((kind=3/\(b.drop 2).length=fI b*(k+v))\/(kind=4/\1<=fI b/\(b.drop 2).length=fI b*4+(fI b-1)*k))/\
   (U=true->n=if kind=3 then mM k v b else kX k b)) ?_ ?_
 refine dV (fun c3=>?_) (fun c3=>dV (fun c4=>?_) (fun c4=>?_));have c3:=yP.1 c3;refine ed.part (S:=[]) aj (lo:=some 2) (hi:=none) 2 b.length rfl (by rw[xW,ai]) h2.1 (zM _) fun aN _ J _=>?_;rw[xZ] at J;refine qzd J (hB.drop 2) (by rw[yC];omega) oJ oJ oJ fun x B n aO hn hN ao R=>?_;have ap:=h.q7 ao;refine oD ap 0 rfl (eK x) fun aP aq ar=>?_;have ac:∀c∈B,c∉[ag]:=fun c u hm=>by have:=R c u;rw[zE.1 hm] at this;omega
 refine⟨x,B,n,aq,hN.q8 ar ac (fun c u=>.inl (by rw[zE.1 u];simp[al])) (fun c u=>.inl u),R,?_,fun G=>?_⟩;rw[Bool.eq_iff_iff,yN,yN];constructor;intro V;exact .inl ⟨c3,V⟩;rintro (V|V);exact V.2
 have:=V.1;omega
 rw[if_pos c3];exact hn (zC G);have c3:=zR.1 c3;have c4:=yP.1 c4;refine ed.part (S:=[]) aj (lo:=some 2) (hi:=none) 2 b.length rfl (by rw[xW,ai]) h2.1 (zM _) fun aN _ J _=>?_;rw[xZ] at J;refine qwk J (hB.drop 2) (by rw[yC];omega) oJ oJ fun x B n aO hn hN ao R=>?_;have ap:=h.q7 ao;refine oD ap 0 rfl (eK x) fun aP aq ar=>?_;have ac:∀c∈B,c∉[ag]:=fun c u hm=>by have:=R c u;rw[zE.1 hm] at this;omega
 refine⟨x,B,n,aq,hN.q8 ar ac (fun c u=>.inl (by rw[zE.1 u];simp[al])) (fun c u=>.inl u),R,?_,fun G=>?_⟩;rw[Bool.eq_iff_iff,yN,yN];constructor;intro V;exact .inr ⟨c4,V⟩;rintro (V|V);exact absurd V.1 c3;exact V.2;rw[if_neg c3];exact hn (zC G);have c3:=zR.1 c3;have c4:=zR.1 c4;refine⟨fD,[],iv,h,.zero _ _,fun _ h=>(nomatch h),?_,fun G=>nomatch G⟩;rw[zU];rintro (V|V);exact c3 V.1;exact c4 V.1;rintro U aQ ⟨x,B,n,h,hN,R,ad,hn⟩;have aF:U=true->n.J6.length<=1000000/\n.Q0.length<=1000000/\n.J9.length<=1000000:=fun G=>by
  rw[hn G];split
  have:=Ch (k:=k) (v:=v) (fI b) (b.drop 2)
  unfold mM;dsimp only;rw[this.1,this.2];simp;omega;unfold kX;dsimp only;rw[Gy,EZ];simp;omega
 refine hU (fun d w'=>d = !(U&&decide (fJ n k v))/\dQ [] w w' [(ag,.cells (eK x) ND (0,0)),(r1,.cells (eK fD) ND (0,0))]/\fi (List.range ak.heap.size++B) w' x n B) ?_ ?_;apply dV<;>intro E;have E:U=false:=(oP E);exact⟨by rw[E];rfl,h,hN⟩;have E:U=true:=(oP E);obtain⟨q1,q2,q3⟩:=aF E;refine oC h 0 rfl x rfl ?_;have aR:eB [] aQ x n:=hN.rd (fun _ _ h=>(nomatch h)) fun _ h=>nomatch h;exact qqT (x:=x) aR q1 q2 q3 fun a9 aG=>⟨by rw[E,Bool.true_and],h.q7 aG,hN.q7 aG⟩;rintro d a' ⟨rfl,h,hN⟩;have I:iA kind b k v=if (U&&decide (fJ n k v))=true then (n,0) else (iv,2):=by
  by_cases k3:kind=3;subst k3;rw[qwT ab];have e:U=decide ((b.drop 2).length=fI b*(k+v)):=(by rw[ad];exact decide_eq_decide.2 ⟨fun h=>h.elim (·.2) fun h=>absurd h.1 oM,fun h=>.inl ⟨rfl,h⟩⟩);by_cases G:U=true;have ae:=hn G;rw[if_pos rfl] at ae;rw[ae,G,Bool.true_and];have hl:(b.drop 2).length=fI b*(k+v):=zC (e▸G);by_cases hr:fJ (mM k v b) k v;rw[if_pos ⟨hl,hr⟩,if_pos (yA hr)];rw[if_neg fun h=>hr h.2,if_neg (by rw[zU hr];decide)];have af:U=false:=(oP G);rw[af,Bool.false_and,if_neg (show ¬(false=true) by decide)];have hl:¬(b.drop 2).length=fI b*(k+v):=zB (e▸af);rw[if_neg fun h=>hl h.1];by_cases k4:kind=4;subst k4;rw[qvd ab];have e:U=decide (1<=fI b/\(b.drop 2).length=fI b*4+(fI b-1)*k):=(by rw[ad];exact decide_eq_decide.2 ⟨fun h=>h.elim (fun h=>absurd h.1 oM) (·.2),fun h=>.inr ⟨rfl,h⟩⟩);by_cases G:U=true;have ae:=hn G;rw[if_neg k3] at ae;rw[ae,G,Bool.true_and];have hl:=zC (e▸G);by_cases hr:fJ (kX k b) k v;rw[if_pos ⟨hl,hr⟩,if_pos (yA hr)];rw[if_neg fun h=>hr h.2,if_neg (by rw[zU hr];decide)];have af:U=false:=(oP G);rw[af,Bool.false_and,if_neg (show ¬(false=true) by decide)];have hl:=zB (e▸af);rw[if_neg fun h=>hl h.1];rw[qwS k3 k4];have G:U=false:=by rw[ad,zU];rintro (h|h);exact k3 h.1;exact k4 h.1
  rw[G,Bool.false_and,if_neg (show ¬(false=true) by decide)]
 have aT:∀c∈B,c∉[r1]:=fun c u hm=>by have:=R c u;rw[zE.1 hm] at this;omega
 apply dV<;>intro E;refine ax ?_ (h.sub (sublist_cons_self _ _));rw[I,if_neg (by rw[zT] at E;rw[E];decide)];rw[yE] at E;refine oC h 0 rfl x rfl<|oD h 1 rfl (eK x) fun aU aH aV=>oC aH 1 rfl x rfl ?_;rw[if_pos E] at I
 have:=kk x B aU (by rw[I];exact (hN.q8 aV aT (fun c u=>.inl (by rw[zE.1 u];simp[aC])) (fun c u=>.inl u)).j6 fun c u=>.inl (by rcases zD.1 u with u|u;exact zH _ (mem_range.2 (yD (mem_range.1 u) aD));exact zI _ u)) aH.fr (fun c u=>zL aD (R c u))
 rw[I] at this;exact this
end
end
section
def qAG{M:dZ}(u:M.y0)(x:Int):x∈M.all↔x∈M.Q9\/x∈M.J7\/x∈M.Q5:=by rw[u.mem x];simp only[dZ.all,zD];constructor;rintro (h|h|h|h);exact .inl (.inl h);exact .inr (.inl h);exact .inr (.inr h);exact .inl (.inr h);rintro ((h|h)|h|h);exact .inl h;exact .inr (.inr (.inr h));exact .inr (.inl h);exact .inr (.inr (.inl h))
def EC{M:dZ}{y5 Q9:List Int}(u:jA M=some (y5,Q9))(x:Int):x∈y5\/x∈Q9↔x∈M.Q1\/x∈M.J7\/x∈M.Q5:=by
 obtain⟨k,G,E,rfl,rfl⟩:=Cw u;rw[xh];have e:x∈M.Q1↔x∈M.Q1.take k\/x∈M.Q1.drop k:=by
  conv=>lhs;rw[<- xE k M.Q1]
  exact zD
 simp only[zD,e];constructor;rintro (h|(h|h)|h);exact .inl (.inl h);exact .inr (.inl h);exact .inr (.inr h);exact .inl (.inr h);rintro ((h|h)|h|h);exact .inl h;exact .inr (.inr h);exact .inr (.inl (.inl h));exact .inr (.inl (.inr h))
section
variable {D D':dI} {M:dZ} {y5 Q9:List Int} {t:Int} {ov:Bool}
def qsO(h:M.Wf)(E:∀e∈M.J8,view D' e.1=eC e.1 e.2.1 e.2.2)(u:e∈M.J8):eU e.1 (view D' e.1)=(e.2.1,e.2.2,0):=by have G:=h.J6 e.1 (zZ u);have I:=h.n4;rw[E e u];exact GD ⟨oJ,oJ⟩ (h.body e u).2.1
def qp1{x:Int}(E:M.Q3=false)(G:D.down=false)(u:2<=x/\x<D.size)(I:M.j9.2.getD 0 0=D.size)(h:x∉M.all):dH D M x=eU x (view D x):=by have J:look x M.J8=none:=uq.2 fun R=>h (zI _ (zI _ (zI _ R)));have U:gi M x=true:=xg.2 ⟨⟨u.1,by rw[I];exact u.2⟩,h⟩;have V:=Cr G (n:=x) ⟨oJ,u.2⟩;unfold dH;rw[if_neg (by rw[E];decide),J];dsimp only;rw[if_neg (by rw[U];decide),V,if_neg oL]
def qvc(h:M.Q3=false)(u:M.Wf)(E:e∈M.J8):dH D M e.1=(e.2.1,e.2.2,0):=by obtain⟨i,G⟩:=Do u.y9 E;unfold dH;rw[if_neg (by rw[h];decide),G]
end
end
end
section
open Go Go.Pt List
open Go.IntKind (wrap)
open Classical
attribute [local irreducible] ld dK iF mK iY fq st new idx i3 ji fy jk iL lN gU nn call dU inv run eX iD join loop held ext jQ eu mr ma mv IntKind.wrap
end
section
open Go Go.Pt List
open Go.IntKind (wrap)
variable {db:Option Addr} {w:World}
def CS{cl:List Cell}{b off:Nat}{cs:Array Value}{T:TypeId}{h:Nat×Nat}{K:HL cl->Prop}(u:w.heap[b]?=some (.cells cs T h))(x:HL cl)(E:(cs.toList.drop off).take cl.length=HL.mk cl x)(k:K x):Pt.dK cl (dh b off) w K:=
 ⟨x,vR u _ off 0 (by rw[HL.j3];exact E),k⟩
attribute [local irreducible] ld dK iF mK iY fq st new idx i3 ji fy jk iL lN gU nn call dU inv run eX iD join loop held ext jQ eu mr ma mv IntKind.wrap
def nS.t7{w':World}{X:List Nat}{pb:Nat}{M:dZ}{fb defb mb:Nat}{sl sn:Sl}{F1 F2:List Nat}{E:List (Int×kW)}{Q2:List Int}(h:nS w X pb db M fb defb mb sl sn F1 F2 E)(G:Q2.length=24)(I:w'.heap[pb]?=some (.cells (fO db M.j9 sl sn M.x6 M.Q3 fb defb mb Q2) rP (0,0)))(f:Fr [pb] w w'):nS w' X pb db { M with Q2:=Q2 } fb defb mb sl sn F1 F2 E where
 cell:=I
 Q1:=h.Q1.q8 f fun b u=>by simpa using (h.sep.2.1 b u).1
 J7:=h.J7.q8 f fun b u=>by simpa using (h.sep.2.2 b u).1
 map:=h.map.q8 f (by simpa using fun e=>h.sep.1 e.symm)
 J8:=h.J8
 rows:=h.rows.q8 (f.mono fun i J _=>by rw[zE.1 J];simp) fun b u=>.inl u
 ow:=fun b u=>yD (h.ow b u) f.size
 mC:=h.mC
 sep:=h.sep
 Q8:=h.Q8
 x7:=G
def qu4{j9:nJ}{sl sn:Sl}{x6:Int}{Q3:Bool}{fb defb mb:Nat}{Q2:List Int}(J:j9.2.length=27)(V:Q2.length=24){t:Nat}(ht:t<8){h E G:Int}: dS (fO db j9 sl sn x6 Q3 fb defb mb Q2) (36+3*t) [.u h,.u E,.u G]=fO db j9 sl sn x6 Q3 fb defb mb (Q2.take (3*t)++[h,E,G]++Q2.drop (3*t+3)):=by
 have I:Q2=Q2.take (3*t)++(Q2.drop (3*t)).take 3++Q2.drop (3*t+3):=by rw[zV,<- xD,xE,xE]
 have:=tQ (A:=(.pointer db::eT j9.1 j9.2)++m9 sl sn x6 Q3 fb defb mb++(Q2.take (3*t)).map (Value.int .u32)) (X:=((Q2.drop (3*t)).take 3).map (Value.int .u32)) (Y:=[.u h,.u E,.u G]) (Z:=(Q2.drop (3*t+3)).map (Value.int .u32)) (by rw[zK,yL,yC];show min 3 _=3;omega)
 have R:((.pointer db::eT j9.1 j9.2)++m9 sl sn x6 Q3 fb defb mb++(Q2.take (3*t)).map (Value.int .u32)).length=36+3*t:=(by rw[zF,zF,sq J,zK,yL];show 29+7+_=_;omega);rw[R] at this;unfold fO;have U:Q2.map (Value.int .u32)=(Q2.take (3*t)).map (Value.int .u32)++((Q2.drop (3*t)).take 3).map (Value.int .u32)++(Q2.drop (3*t+3)).map (Value.int .u32):=(by rw[<- xN,<- xN,<- I]);rw[U];simp only[xN,xO,map_nil];simp only[zV] at this⊢;exact this
section
variable {w:World} {X:List Nat} {pb:Nat} {db:Option Addr} {F:List Nat} {M:dZ}
def qsy{t G I J:Int}{K:Int->WP}(h:eF w X pb db F M)(hk:∀w',eF w' X pb db F (eW M t G I J).2->Fr F w w'->K (eW M t G I J).1 w'): cW 131 [dF pb,.i t,.agg #[.u G,.u I,.u J]] dj w K:=by
 have h0:=h;obtain⟨fb,defb,mb,sl,sn,F1,F2,fs,rfl,U⟩:=h;refine qhd ?_;have R:∀ {e:Int} {w':World},eW M t G I J=(e,M)->Fr [] w w'->K e w':=by
  intro e w' he hf
  have:=hk w' (by rw[he];exact h0.q7 hf) (hf.mono (fun b V=>by cases V))
  rw[he] at this;exact this
 refine oB (oE [] w) fun r w1 e1 f1 ho=>?_;have aa:=U.q7 f1;refine fG (iI aa.cell M.Q3 (Am U.Q8) ?_);refine dV (fun E=>R (by rw[eW,if_pos E]) f1) (fun E=>?_);have ab:¬M.Q3=true:=(by rw[E];decide);refine hU (fun b w'=>b=decide (t<0\/t>7)/\w'=w1) ?_ ?_;refine dV (fun E=>⟨by rw[yA (Or.inl (zC E))],rfl⟩) (fun E=>?_)
 have:=zB E
 refine⟨decide_eq_decide.2 ⟨fun h=>.inr oJ,fun h=>oJ⟩,rfl⟩;rintro b w2 ⟨rfl,rfl⟩;refine dV (fun E=>R (by rw[eW,if_neg ab,if_pos (zC E)]) f1) (fun E=>?_);have hr:=zB E;obtain⟨n,rfl⟩:∃n:Nat,t=n:=⟨t.toNat,oJ⟩;have af:n<8:=oJ;have ac:eW M n G I J=(0,{ M with Q2:=M.Q2.take (3*n)++[G,I,J]++M.Q2.drop (3*n+3) }):=(by rw[eW,if_neg ab,if_neg hr,zJ]);have ag:=ho.drew;have ad:=aa.q7 (Fr.refl [] w2).drew;refine oC ag 0 rfl (G,I,J) rfl<|fG<|pD oJ ?_;simp only[Addr.q9,zJ];refine rm ad.cell (fO db M.j9 sl sn M.x6 M.Q3 fb defb mb (M.Q2.take (3*n)++[G,I,J]++M.Q2.drop (3*n+3))) (by show dS _ (0+33+3+n*3) _=_;rw[show 0+33+3+n*3=36+3*n by omega];exact qu4 U.Q8 U.x7 af) rfl (by rw[qtU U.Q8,U.x7];exact zL (show 0+33+3+n*3+3<=60 by omega) (zM 60)) fun w3 ah f3=>?_;have hl:(M.Q2.take (3*n)++[G,I,J]++M.Q2.drop (3*n+3)).length=24:=by
  have:=U.x7
  simp only[zF,yL,yC,yI,xK];omega
 have:=hk w3 (by rw[ac];exact⟨fb,defb,mb,sl,sn,F1,F2,fs,rfl,ad.t7 hl ah f3⟩) ((f1.drew.mono fun b V=>nomatch V).trans (f3.mono fun b V _=>by rw[zE.1 V];simp))
 rw[ac] at this;exact this
def dX (M:dZ) (t:Int):Int×Int×Int:=if t<0\/t>7 then (0,0,0) else (M.Q2.getD (3*t.toNat) 0,M.Q2.getD (3*t.toNat+1) 0,M.Q2.getD (3*t.toNat+2) 0)
def qxo{t:Int}{K:Int×Int×Int->WP}(h:eF w X pb db F M)(V:∀w',Fr [] w w'->K (dX M t) w'): cW 46 [dF pb,.i t] [.agg [.u,.u,.u]] w K:=by
 obtain⟨fb,defb,mb,sl,sn,F1,F2,fs,rfl,J⟩:=h;refine qjq<|oB (oE [] w) fun r w1 e1 f1 ho=>?_;have R:=J.q7 f1;refine hU (fun b w'=>b=decide (t<0\/t>7)/\w'=w1) ?_ ?_;refine dV (fun G=>⟨by rw[yA (Or.inl (zC G))],rfl⟩) (fun G=>?_)
 have:=zB G
 refine⟨decide_eq_decide.2 ⟨fun h=>.inr oJ,fun h=>oJ⟩,rfl⟩;rintro b w2 ⟨rfl,rfl⟩;apply cD<;>intro G;refine oD ho 0 rfl #[.u 0,.u 0,.u 0] fun U E f3=>oC E 0 rfl (0,0,0) rfl ?_
 have:=V U E.fr
 rw[dX,if_pos (G)] at this;exact this;have hr:=G;obtain⟨n,rfl⟩:∃n:Nat,t=n:=⟨t.toNat,oJ⟩;have ae:n<8:=oJ;have af:=J.x7;refine fG<|pD oJ ?_;simp only[Addr.q9,zJ];have e3:((M.Q2.map (Value.int .u32)).drop (3*n)).take 3=[.u (M.Q2.getD (3*n) 0),.u (M.Q2.getD (3*n+1) 0),.u (M.Q2.getD (3*n+2) 0)]:=by rw[zY (by rw[zK];omega),zY (by rw[zK];omega),zY (by rw[zK];omega)];simp only[take_succ_cons,take_zero,getElem_map];rw[getElem_eq_getD 0,getElem_eq_getD 0,getElem_eq_getD 0]
 refine CS R.cell (M.Q2.getD (3*n) 0,M.Q2.getD (3*n+1) 0,M.Q2.getD (3*n+2) 0) ?_ ?_;have hd:=DB (db:=db) (j9:=M.j9) (sl:=sl) (sn:=sn) (x6:=M.x6) (Q3:=M.Q3) (fb:=fb) (defb:=defb) (mb:=mb) (Q2:=M.Q2) J.Q8 J.x7;have I:(fO db M.j9 sl sn M.x6 M.Q3 fb defb mb M.Q2).toList.drop 36=M.Q2.map (Value.int .u32):=by
  rw[<- hd,zS]
  have:=qtU (db:=db) (j9:=M.j9) (sl:=sl) (sn:=sn) (x6:=M.x6) (Q3:=M.Q3) (fb:=fb) (defb:=defb) (mb:=mb) (Q2:=M.Q2) J.Q8
  rw[yC,Array.length_toList];omega
 rw[show 0+33+3+n*3=36+3*n by omega,<- xD,I];exact e3;refine oD ho 0 rfl #[.u (M.Q2.getD (3*n) 0),.u (M.Q2.getD (3*n+1) 0),.u (M.Q2.getD (3*n+2) 0)] fun U E f3=>oC E 0 rfl (M.Q2.getD (3*n) 0,M.Q2.getD (3*n+1) 0,M.Q2.getD (3*n+2) 0) rfl ?_
 have:=V U E.fr
 rw[dX,if_neg hr,zJ] at this;exact this
end
def qvC{dbk pb:Nat}{X FD F:List Nat}{D:dI}{M:dZ}{k:Nat}{n:Int}{K:Int×Sl×Int->WP}(ad:eQ w dbk FD D)(aa:lK D k)(ab:eF w X pb (pu dbk M) F M)(hv:Hv w)(hn:gI n)(hl:M.Q5.length<=1000000)(hb:∀e∈M.J8,e.2.2.length<=100000)(hk:∀s w',(∀G:List Nat,(∀b∈G,b<w.heap.size)->eE G w' s (dH D M n).2.1)->Fr [] w w'->K ((dH D M n).1,s,(dH D M n).2.2) w'): cW 117 [dF pb,.u n] dp w K:=by
 have ae:=ab;obtain⟨fb,defb,mb,sl,sn,F1,F2,fs,rfl,hx⟩:=ab;refine qjo ?_;have af:∀ {a:Int} {e:Int} {w':World},dH D M n=(a,[],e)->Fr [] w w'->K (a,dG,e) w':=fun he f=>by
  have:=hk dG _ (fun G hG=>by rw[he];exact .nil _ _ _ _) f
  rw[he] at this;exact this
 refine fG (iI hx.cell M.Q3 (Am hx.Q8) ?_);refine dV (fun J=>af (by rw[dH,if_pos J]) (.refl _ _)) (fun J=>?_);have R:¬M.Q3=true:=(by rw[J];decide);have aq:pu dbk M=pW dbk:=if_neg R;refine fG ?_;simp only[Addr.q9];refine iI hx.cell (some mb) (sX hx.Q8) ?_;have h:look n M.J8=(look n fs).map fun q=>(q.1,q.2.1,q.2.2.2):=(by rw[hx.J8];exact vV (fun e:kW=>(e.1,e.2.2)) n fs);refine Cd hx.map.at (fun q hq=>?_) (fun hq=>?_);rw[hq] at h;have h:look n M.J8=some (q.1,q.2.1,q.2.2.2):=h;refine oB (oE [] w) fun r w1 e1 f1 ho=>oD ho 0 rfl #[.b q.2.1,q.2.2.1.v] fun w2 V f2=>?_;have U:=V.drew;refine cond_true rfl<|oA U 0 rfl q.2.1 rfl<|oA U 0 rfl q.2.2.1 rfl ?_;have au:=(tf hq).2;have av:=hx.rows.y8 _ au;have ai:=(tf h).2;refine Ab (av.q7 U.fr) (zL (hb _ ai) oM) fun s2 B2 w3 b2 f3 n2 _ _=>?_;have aj:=U.q7 f3;refine ig (aj.cell 0 rfl rfl) ?_;have E:dH D M n=(q.2.1,q.2.2.2,0):=by rw[dH,if_neg R,h]
 have:=hk s2 w3 (fun G hG=>by rw[E];exact eP.jw lr b2 fun b hb hm=>by have:=n2 b hb;have:=hG b hm;have:=U.fr.size;omega) aj.fr
 rw[E] at this;exact this;rw[hq] at h;have h:look n M.J8=none:=h;refine oB (oE [] w) fun r w1 e1 f1 ho=>oD ho 0 rfl #[.b 0,.slice none 0 0] fun w2 V f2=>cond_false rfl<|qqQ (ae.q7 V.fr) hl fun w3 f3=>?_;have I:=V.fr.trans f3;have ak:=hx.q7 I;apply dV<;>intro J;have hu:gi M n=false:=(oP J);exact af (by rw[dH,if_neg R,h];exact if_pos hu) I;have hu:¬gi M n=false:=(oP J);rw[aq] at ak;refine fG (iI ak.cell (pW dbk) Ci ?_);rw[gq n (by have:=hn.1;have:=hn.2;omega)];refine DG (ad.q7 I) aa.ok fun s5 B5 w5 b5 f5 n5=>?_;apply dV<;>intro J;have he:(eA D n).2≠0:=(oP J);exact af (by rw[dH,if_neg R,h];exact (if_neg hu).trans (if_pos he)) (I.trans f5);have he:¬(eA D n).2≠0:=(oP J);have ay:=v8 aa.ok n;refine GL (b5.jw lr (S:=[]) oL) (hv.q7 (I.trans f5)) ay.1 oJ fun s6 B6 w6 b6 f6 n6=>?_;have E:dH D M n=eU n (eA D n).1:=by rw[dH,if_neg R,h];exact (if_neg hu).trans (if_neg he)
 have:=hk s6 w6 (fun G hG=>by rw[E];exact eP.jw lr b6 fun b hb hm=>by have:=n6 b hb;have:=hG b hm;have:=(I.trans f5).size;omega) ((I.trans f5).trans f6)
 rw[E] at this;exact this
end
section
open Go Go.Pt List
open Go.IntKind (wrap)
def lK.new{n:Nat}(h:n<=4096):lK (m8 n) 0:=⟨qzm h,by simp[m8],by simp[m8]⟩
def rA (n:Nat):List Int:=(fB n).take (eJ (fB n).length)
def nD (n:Nat):List Int:=(fB n).drop (eJ (fB n).length)
def kc (n:Nat):dZ:=iq (kC n) (rA n) (nD n) 1 false (nD n)
def qzj{n:Nat}(h:8<=n)(u:n<=4096):(kc n).Wf:=by have e:(kC n).2.getD 0 0=n:=(by show wrap .u32 (n:Int)=_;exact nX _ oJ);exact D6 (by rw[e];exact qnh) (by rw[e];omega) (E9 h u).u32
structure Made (D:dI) (n:Nat):Prop where
 quiet:eO D
 size:D.size=n
 Q7:D.Q7=[]
 opens:ph D (kC n) (rA n) (nD n)
 fmt:lz (m8 n)=(D,0)
 zero:view D 0=zs 512
end
section
open Go Go.Pt List
open Go.IntKind (wrap)
open Classical
variable {P:List Int} {t:Int}
def kF (t:Int) (s:(Int×Int)×dZ) (u h:Int):Int×dZ:=if s.1.2≠0 then (s.1.2,s.2) else eW s.2 t s.1.1 u h
noncomputable def rV (k v:Nat) (t:Int) (r:Int×Int×Int) (x:(Grown×Int)×dZ):Int×dZ:=
 if x.1.2≠0 then (x.1.2,x.2)
 else if x.1.1.x4≠0 then kF t (dO k v x.2 0 ⟨false,[x.1.1.key],[],[x.1.1.x5,x.1.1.x4]⟩) (if x.1.1.J8 then wrap .u32 (r.2.1+1) else r.2.1) (wrap .u32 (r.2.2+1))
 else eW x.2 t x.1.1.x5 (if x.1.1.J8 then wrap .u32 (r.2.1+1) else r.2.1) r.2.2
noncomputable def jC (D:dI) (k v:Nat) (t:Int) (key val:Key) (f:Nat) (M:dZ):Int×dZ:=
 if (dX M t).1=0 then kF t (dO k v M 0 (ef [(key,val)])) 1 1 else rV k v t (dX M t) (gY D k v key val f M (dX M t).1)
noncomputable def mq (k v:Nat) (t:Int) (r:Int×Int×Int) (x:(dL×Int)×dZ):Int×dZ:=
 if x.1.2≠0 then (x.1.2,x.2)
 else if x.1.1.Q4=true/\x.1.1.J6.length=0 then (if (fl x.2 r.1).1≠0 then ((fl x.2 r.1).1,(fl x.2 r.1).2) else eW (fl x.2 r.1).2 t 0 0 0)
 else if x.1.1.Q4=false/\x.1.1.J9.length=1 then (if (fl x.2 r.1).1≠0 then ((fl x.2 r.1).1,(fl x.2 r.1).2) else eW (fl x.2 r.1).2 t (x.1.1.J9.getD 0 0) (wrap .u32 (r.2.1-1)) (wrap .u32 (r.2.2-1)))
 else kF t (dO k v x.2 r.1 x.1.1) (wrap .u32 (r.2.1-1)) r.2.2
noncomputable def kQ (D:dI) (k v:Nat) (t:Int) (key:Key) (f:Nat) (M:dZ):Int×dZ:=mq k v t (dX M t) (ic D k v key f M (dX M t).1)
def fS (D:dI) (M:dZ) (k v:Nat) (t:Int) (L:fR) (P:List Int):Prop:=
 (dX M t=(0,0,0)/\L=[]/\P=[])\/∃h n p,p≠0/\dX M t=(p,(L.length:Int),((h+1:Nat):Int))/\Has D M k v h ⟨p,n,L,P⟩
structure nu (D:dI) (M M':dZ) (t:Int) (P P':List Int):Prop where
 step:Step D M { M' with Q2:=M.Q2 } P P'
 wf:M'.Wf
 len:M'.Q2.length=24
 others:∀ t':Int,t'≠t->dX M' t'=dX M t'
section
variable {D:dI} {M M':dZ} {k v:Nat}
def qyg{a b c:Int}(V:0<=t/\t<8)(I:M.Q3=false)(hr:M.Q2.length=24):∃R,eW M t a b c=(0,{ M with Q2:=R })/\R.length=24/\dX { M with Q2:=R } t=(a,b,c)/\(∀E:Int,E≠t->dX { M with Q2:=R } E=dX M E)/\∀x∈R,x∈M.Q2\/x=a\/x=b\/x=c:=by
 obtain⟨n,rfl⟩:∃n:Nat,t=n:=⟨t.toNat,oJ⟩;have hn:n<8:=oJ;have e:eW M n a b c=(0,{ M with Q2:=M.Q2.take (3*n)++[a,b,c]++M.Q2.drop (3*n+3) }):=by rw[eW,if_neg (by rw[I];decide),iN,zJ]
 have J:(M.Q2.take (3*n)).length=3*n:=(by rw[yL];omega);have h:∀i,(M.Q2.take (3*n)++[a,b,c]++M.Q2.drop (3*n+3)).getD i 0=if i=3*n then a else if i=3*n+1 then b else if i=3*n+2 then c else M.Q2.getD i 0:=fun i=>by rw[zV,yR];by_cases h1:i<3*n;rw[yZ oJ,xB,if_pos h1,iN,iN,iN,yR];rw[yY oJ,J];by_cases h2:i=3*n;rw[if_pos h2,h2,Nat.sub_self];rfl;rw[if_neg h2];by_cases h3:i=3*n+1;rw[if_pos h3,h3,show 3*n+1-3*n=1 by omega];rfl;rw[if_neg h3];by_cases h4:i=3*n+2;rw[if_pos h4,h4,show 3*n+2-3*n=2 by omega];rfl;rw[if_neg h4,yY oO,xA,yR];congr 2;simp;omega
 refine⟨_,e,?_,?_,fun E G=>?_,fun x u=>?_⟩;simp only[zF,yL,yC,yI,xK];omega;rw[dX,iN,zJ];dsimp only;rw[h,h,h,if_pos rfl,iN,if_pos rfl,iN,iN,if_pos rfl];unfold dX;by_cases hr':E<0\/E>7;rw[if_pos hr',if_pos hr'];rw[if_neg hr',if_neg hr'];dsimp only;have U:E.toNat≠n:=fun e=>G oJ;rw[h,h,h,iN,iN,iN,iN,iN,iN,iN,iN,iN];rcases zD.1 u with u|u;rcases zD.1 u with u|u;exact .inl (yV u);simp only[zG,xX,or_false] at u;exact .inr u;exact .inl (yU u)
def qsr{R:List Int}(h:M.Wf)(u:∀x∈R,gI x):({ M with Q2:=R }:dZ).Wf:=⟨h.n4,h.u32,u,h.cN,h.Q9,h.cU,h.qD,h.nodup,h.range,h.body⟩
def Has.Q2{h:Nat}{s:ie}{R:List Int}(u:Has D M k v h s):Has D { M with Q2:=R } k v h s:=u.q8 fun x _=>rfl
def Step.J5{P':List Int}{a b c:Int}(G:0<=t/\t<8)(I:M.Q2.length=24)(h:Step D M M' P P')(J:gI a)(U:gI b)(V:gI c): ∃R,eW M' t a b c=(0,{ M' with Q2:=R })/\nu D M { M' with Q2:=R } t P P'/\dX { M' with Q2:=R } t=(a,b,c):=by obtain⟨R,e,hl,h1,h2,h3⟩:=qyg (a:=a) (b:=b) (c:=c) G h.Q3 (by rw[h.Q2];exact I);refine⟨R,e,⟨?_,qsr h.wf fun x hx=>?_,hl,fun t' E=>?_⟩,h1⟩;have e':({ M' with Q2:=M.Q2 }:dZ)=M':=(by rw[<- h.Q2]);show Step D M { M' with Q2:=M.Q2 } P P';rw[e'];exact h;rcases h3 x hx with u|u|u|u;exact h.wf.Q2 x u;rw[u];exact J;rw[u];exact U;rw[u];exact V;rw[h2 t' E];unfold dX;rw[h.Q2]
def Has.counts:∀ {h:Nat} {s:ie},Has D M k v h s->h+1<=s.y4.length/\s.y5.length+1<=2*s.y4.length
 | 0,s,E=>by have J:=length_pos_iff.2 E.ne;rw[E.1];simp;omega
 | h+1,s,⟨G,h0,J,R,U,V,h5,h6,h7⟩=>by
  have h8:=V.right.x9.1;rw[R,U];have key:∀l:List gM,(∀e∈l,Has D M k v h e.2)->l.length*(h+1)<=(l.flatMap (·.2.y4)).length/\(l.flatMap (·.2.y5)).length+l.length<=2*(l.flatMap (·.2.y4)).length:=by
   intro l;induction l with
   | nil=>intro _;exact⟨oL,oL⟩
   | cons a l ih=>
    intro I;have i:=ih fun e u=>I e (zN _ u);have j:=(I a oL).counts;rw[yH,yH,zF,zF,yI,xU];omega
  have:=key G fun e u=>(h7 e u).1
  have h9:2*(h+1)<=G.length*(h+1):=Nat.mul_le_mul_right _ h8;rw[yI];omega
def qwp(hc:gZ k v){key val:Key}{L:fR}(ht:0<=t/\t<8)(hk:key.length=k/\eH key)(hv:val.length=v/\eH val)(hT:fS D M k v t L P)(hW:M.Wf)(ho:M.Q3=false)(hr:M.Q2.length=24)(hn:P.Nodup)(hL:L.length<=1000000)(hf:2*(dX M t).2.2.toNat+1<=M.Q1.length): ∃M' P',jC D k v t key val (dX M t).2.2.toNat M=(0,M')/\fS D M' k v t (fM key val L) P'/\nu D M M' t P P'/\M.Q1.length<=M'.Q1.length+(2*(dX M t).2.2.toNat+1):=by
 have a1:=AF (k:=k) (v:=v);rcases hT with ⟨e0,rfl,rfl⟩|⟨h,n,p,aM,er,hs⟩;unfold jC;rw[e0,if_pos rfl];have aN:mf k v [(key,val)]:=fun x hx=>by rw[zE.1 hx];exact⟨hk.1,hv.1,hk.2,hv.2⟩
 have hN:=BP (k:=k) (v:=v) aN (pairwise_singleton _ _) oL (by have:=hc.Q4;simp;omega);obtain⟨q,M1,e1,st,ah,hl,ai⟩:=Em (D:=D) hW ho hN (fun e=>by rw[e] at hf;simp at hf);have hu:=st.has q oL;have hq:=ur st.wf hu;obtain⟨R,e2,rs,E⟩:=st.J5 (a:=q) (b:=1) (c:=1) ht hr ⟨oJ,hq.2⟩ ⟨oM,oM⟩ ⟨oM,oM⟩;refine⟨{ M1 with Q2:=R },[q],?_,.inr ⟨0,1,q,ai,E,?_⟩,rs,by show M.Q1.length<=M1.Q1.length+_;omega⟩;unfold kF;rw[e1];dsimp only;rw[if_neg (fun h=>h rfl),e2]
 have:=AR hN ah
 exact this.Q2;rw[er] at hf;have aq:(((h+1:Nat):Int)).toNat=h+1:=zJ _;dsimp only at hf;rw[aq] at hf;have ar:=hs.counts;dsimp only at ar;obtain⟨g,M1,eg,ok⟩:=qt0 hc hk hv h M ⟨p,n,L,P⟩ hs hW ho hn (by
  have h9:=hs.load;obtain⟨N,R,_,hN,_⟩:=h9;show n<=1000;cases h with
  | zero=>have:=hN.2.2.2.2.2;dsimp only at this;omega
  | succ h=>obtain⟨_,_,_,_,_,_,_,_,h8,_⟩:=hN;dsimp only at h8;omega) oJ
 have au:=ok.Q1;have G:=ok.J8;dsimp only at eg G;have u:((fM key val L).length:Int)=if g.J8 then wrap .u32 ((L.length:Int)+1) else (L.length:Int):=by rw[G];by_cases hm:key∈dP L;rw[zU (fun h=>h hm),if_neg oM,DK hs.sort hm];rw[yA hm,if_pos rfl,Cn hm,nX _ oJ];omega
 have av:gI (if g.J8 then wrap .u32 ((L.length:Int)+1) else (L.length:Int)):=by
  rw[<- u];have h1:(fM key val L).length<=L.length+1:=by by_cases hm:key∈dP L;rw[DK (show fg L from hs.sort) hm];omega;rw[Cn hm];exact zM _
  exact⟨oJ,oJ⟩
 unfold jC;rw[er,if_neg (show ¬p=0 from aM)];dsimp only;rw[aq,eg];unfold rV;dsimp only;rw[if_neg (fun h=>h rfl)];rcases ok.CR with ⟨ak,n',P',hH,st,_⟩|⟨ak,n1,L1,J,n2,U,I,ab,ac,aw,aT,aU,ax,ay,aV,aW,st⟩;rw[if_neg (fun h=>h ak)];have hu:=hH.J4 st.Q3 g.x5 hH.mem;have hq:=ur st.wf hu;obtain⟨R,e2,rs,E⟩:=st.J5 (a:=g.x5) (b:=if g.J8 then wrap .u32 ((L.length:Int)+1) else (L.length:Int)) (c:=((h+1:Nat):Int)) ht hr ⟨oJ,hq.2⟩ av ⟨oJ,oJ⟩;rw[<- u] at E e2;refine⟨{ M1 with Q2:=R },P',?_,.inr ⟨h,n',g.x5,oJ,E,hH.Q2⟩,rs,by show M.Q1.length<=M1.Q1.length+_;omega⟩;rw[<- u];exact e2;rw[if_pos ak];have a7:=ur st.wf (ab.J4 st.Q3 g.x5 ab.mem);have a8:=ur st.wf (ac.J4 st.Q3 g.x4 ac.mem);have az:L1≠[]:=ab.ne;have aA:U≠[]:=ac.ne;have ag:fN [([],(⟨g.x5,n1,L1,J⟩:ie)),(g.key,⟨g.x4,n2,U,I⟩)]:=
  (fN.wZ (A:=[]) (B:=[]) (lo:=[]) (s:=⟨0,0,L1++U,[]⟩) (s1:=⟨g.x5,n1,L1,J⟩) (s2:=⟨g.x4,n2,U,I⟩) (m:=g.key) (EJ fun x _=>AQ _) rfl aT aU az aA)
 have hp:∀e∈[([],(⟨g.x5,n1,L1,J⟩:ie)),(g.key,⟨g.x4,n2,U,I⟩)],Has D M1 k v h e.2/\minOf k v h<=e.2.size:=fun e V=>by simp only[zG,xX,or_false] at V;rcases V with rfl|rfl;exact⟨ab,aV⟩;exact⟨ac,aW⟩
 have aX:gz k [([],(⟨g.x5,n1,L1,J⟩:ie)),(g.key,⟨g.x4,n2,U,I⟩)]:=fun e V=>by rw[zE.1 (show e∈[(g.key,(⟨g.x4,n2,U,I⟩:ie))] from V)];exact⟨ax,ay⟩
 have hN:=yj st.wf st.Q3 aX ag oL (by have:=hc.inner;simp;omega) fun e V=>(hp e V).1;obtain⟨q,M2,e1,ad,ah,a9,ai⟩:=Em (D:=D) st.wf st.Q3 hN (fun e=>by rw[e] at au;simp at au;omega);have aC:∀e∈[([],(⟨g.x5,n1,L1,J⟩:ie)),(g.key,⟨g.x4,n2,U,I⟩)],Has D M2 k v h e.2/\minOf k v h<=e.2.size:=fun e V=>
  ⟨(hp e V).1.q8 fun x hx=>(ad.rest x ((hp e V).1.J4 st.Q3 x hx) oL).1,(hp e V).2⟩
 have hI:=ye (h:=h) rfl hN ah ag aC;have aD:Step D M1 M2 (J++I) (q::(J++I)):=by
  have:=ad.beside (Z:=J++I) st.has (oP st.nodup)
  exact this.perm oL perm_append_comm
 have aE:=st.trans aD;have hq:=ur ad.wf (ad.has q oL);obtain⟨R,e2,rs,E⟩:=aE.J5 (a:=q) (b:=if g.J8 then wrap .u32 ((L.length:Int)+1) else (L.length:Int)) (c:=((h+1+1:Nat):Int)) ht hr ⟨oJ,hq.2⟩ av ⟨oJ,oJ⟩;have e3:dO k v M1 0 ⟨false,[g.key],[],[g.x5,g.x4]⟩=((q,0),M2):=e1;have aY:wrap .u32 ((((h+1:Nat):Int))+1)=((h+1+1:Nat):Int):=(by rw[nX _ oJ];omega);rw[<- u] at E e2;refine⟨{ M2 with Q2:=R },q::(J++I),?_,.inr ⟨h+1,2,q,ai,E,?_⟩,rs,by show M.Q1.length<=M2.Q1.length+_;omega⟩;unfold kF;rw[e3,aY,<- u];dsimp only;rw[if_neg (fun h=>h rfl),e2];have h9:=hI.Q2 (R:=R);have e5:[([],(⟨g.x5,n1,L1,J⟩:ie)),(g.key,⟨g.x4,n2,U,I⟩)].flatMap (·.2.y4)=fM key val L:=(by rw[<- aw];simp);have e6:[([],(⟨g.x5,n1,L1,J⟩:ie)),(g.key,⟨g.x4,n2,U,I⟩)].flatMap (·.2.y5)=J++I:=oL;rw[e5,e6] at h9;exact h9
def qwV(hc:gZ k v){key:Key}{L:fR}(ht:0<=t/\t<8)(hT:fS D M k v t L P)(J:key∈dP L)(hW:M.Wf)(ho:M.Q3=false)(hr:M.Q2.length=24)(hn:P.Nodup)(hL:L.length<=1000000)(hf:2*(dX M t).2.2.toNat+1<=M.Q1.length): ∃M' P',kQ D k v t key (dX M t).2.2.toNat M=(0,M')/\fS D M' k v t (gr key L) P'/\nu D M M' t P P'/\M.Q1.length<=M'.Q1.length+(2*(dX M t).2.2.toNat+1):=by
 rcases hT with ⟨e0,rfl,rfl⟩|⟨h,n,p,a2,er,hs⟩;cases J;rw[er] at hf;have ar:(((h+1:Nat):Int)).toNat=h+1:=zJ _;dsimp only at hf;rw[ar] at hf;have au:=hs.counts;dsimp only at au;obtain⟨N,m,M1,R,R',ec,hP,hN,st,aI,a3⟩:=E2 hc h M ⟨p,n,L,P⟩ hs hW ho hn J oJ;dsimp only at ec hP;subst hP;have I:=hs.sort;dsimp only at I;have aW:(gr key L).length+1=L.length:=by
  have hm:=(wH I).2 J;have hi:dN (dP L) key<L.length:=by
   have:=(zP.1 hm).1
   simpa using this
  rw[qm7 I J,zF,yL,yC];omega
 have aJ:wrap .u32 ((L.length:Int)-1)=((gr key L).length:Int):=(by rw[nX _ oJ];omega);have ak:gI ((gr key L).length:Int):=⟨oJ,oJ⟩;have al:dT M p:=hs.J4 ho p oL;have av:p∉R:=(nodup_cons.1 hn).1;have U:=(st.rest p al av).2.1;have V:=(st.rest p al av).2.2;have am:Step D M M1 (p::R) (p::R'):=st.beside (Z:=[p]) (fun x hx=>by rw[zE.1 hx];exact al) (oP hn);unfold kQ;rw[er];dsimp only;rw[ar,ec];unfold mq;dsimp only;rw[if_neg (fun h=>h rfl),aJ];have ah:∀ {a b c:Int},gI a->gI b->gI c->∃u RR,fl M1 p=(0,u)/\eW u t a b c=(0,{ u with Q2:=RR })/\nu D M { u with Q2:=RR } t (p::R) R'/\dX { u with Q2:=RR } t=(a,b,c)/\M1.Q1.length<=u.Q1.length/\∀x∈R',dH D u x=dH D M1 x:=fun ha hb aK=>by
  obtain⟨u,e2,E,ab⟩:=qpl (D:=D) st.wf st.Q3 U;have h9:=E.beside (Z:=R') (fun x hx=>st.has x hx) (by
   have:=am.nodup
   exact (perm_append_singleton p R').nodup_iff.2 this)
  rw[xH] at h9;have h8:=(am.perm (.refl _) (perm_append_singleton p R').symm).trans h9;obtain⟨RR,e3,rs,G⟩:=h8.J5 (t:=t) ht hr ha hb aK;exact⟨u,RR,e2,e3,rs,G,ab,fun x hx=>(E.rest x (st.has x hx) (fun hm=>V (by rw[<- zE.1 hm];exact hx))).1⟩
 cases h with
 | zero=>
  have an:=hN;have aL:R=[]:=(vC (show p::R=[p] from hs.1)).2;subst aL;obtain⟨rfl,hm,rfl,a7,aM,aw⟩:=hN;dsimp only at hm;have ac:(ef (gr key L)).J6.length=(gr key L).length:=zK _;by_cases hz:(gr key L).length=0;rw[if_pos ⟨rfl,by rw[ac];exact hz⟩];have ax:gr key L=[]:=eq_nil_of_length_eq_zero hz;obtain⟨u,RR,e2,e3,rs,G,ab,_⟩:=ah (a:=0) (b:=0) (c:=0) ⟨oM,oM⟩ ⟨oM,oM⟩ ⟨oM,oM⟩;rw[e2];dsimp only;rw[if_neg (fun h=>h rfl),e3];exact⟨_,[],rfl,.inl ⟨G,ax,rfl⟩,rs,by show M.Q1.length<=u.Q1.length+_;omega⟩;rw[if_neg (fun h=>hz (by rw[<- ac];exact h.2)),if_neg (fun h=>nomatch h.1)];obtain⟨q,u,e2,E,H2,ab⟩:=an.store st.wf st.Q3 (show 1<=m by omega) U V oJ;have ao:Step D M u [p] [q]:=am.trans E;have hq:=ur E.wf (E.has q oL);obtain⟨RR,e3,rs,G⟩:=ao.J5 (a:=q) (b:=((gr key L).length:Int)) (c:=((0+1:Nat):Int)) ht hr ⟨oJ,hq.2⟩ ak ⟨oM,oM⟩;refine⟨{ u with Q2:=RR },[q],?_,.inr ⟨0,m,q,oJ,G,H2.Q2⟩,rs,by show M.Q1.length<=u.Q1.length+_;omega⟩;unfold kF;rw[e2];dsimp only;rw[if_neg (fun h=>h rfl),e3]
 | succ h=>
  have an:=hN;obtain⟨es,hh,rfl,hm,aO,rfl,hk,aM,aw,hp⟩:=hN;have ac:(dM es).J9.length=es.length:=(by show (es.map _).length=_;rw[zK]);have aY:2<=n:=by
   obtain⟨a9,_,g1,_,_,g4,_⟩:=hs
   have:=g4.right.x9
   dsimp only at g1;omega
  dsimp only at aI;rw[if_neg (fun h=>nomatch h.1)];by_cases h1:es.length=1;rw[if_pos ⟨rfl,by rw[ac];exact h1⟩];obtain⟨e,rfl⟩:∃e,es=[e]:=by
   match es,h1 with
   | [e],_=>exact⟨e,rfl⟩
  have az:(dM [e]).J9.getD 0 0=e.2.x5:=rfl;rw[az];have he:=(hp e oL).1;have hq:=ur st.wf (he.J4 st.Q3 e.2.x5 he.mem);have aQ:wrap .u32 ((((h+1+1:Nat):Int))-1)=((h+1:Nat):Int):=(by rw[nX _ oJ];omega);rw[aQ];obtain⟨u,RR,e2,e3,rs,G,ab,aR⟩:=ah (a:=e.2.x5) (b:=((gr key L).length:Int)) (c:=((h+1:Nat):Int)) ⟨oJ,hq.2⟩ ak ⟨oJ,oJ⟩;rw[e2];dsimp only;rw[if_neg (fun h=>h rfl),e3];have aA:gr key L=e.2.y4:=(by rw[aO];simp);have aB:[e].flatMap (·.2.y5)=e.2.y5:=oL;refine⟨_,_,rfl,.inr ⟨h,e.2.size,e.2.x5,oJ,G,?_⟩,rs,by show M.Q1.length<=u.Q1.length+_;omega⟩;rw[aA,aB];exact (he.q8 fun x hx=>aR x (by rw[aB];exact hx)).Q2;rw[if_neg (fun h=>h1 (by rw[<- ac];exact h.2))];have h2:2<=m:=oJ;obtain⟨q,u,e2,E,H2,ab⟩:=an.store st.wf st.Q3 (show 2<=m from h2) U V oJ;have ao:Step D M u (p::R) ([q]++es.flatMap (·.2.y5)):=Step.kid (Q:=[q]) (hs.J4 ho) hn st E;have hq:=ur E.wf (E.has q oL);obtain⟨RR,e3,rs,G⟩:=ao.J5 (a:=q) (b:=((gr key L).length:Int)) (c:=((h+1+1:Nat):Int)) ht hr ⟨oJ,hq.2⟩ ak ⟨oJ,oJ⟩;refine⟨{ u with Q2:=RR },[q]++es.flatMap (·.2.y5),?_,.inr ⟨h+1,m,q,oJ,G,H2.Q2⟩,rs,by show M.Q1.length<=u.Q1.length+_;omega⟩;unfold kF;rw[e2];dsimp only;rw[if_neg (fun h=>h rfl),e3]
end
section
def qob{D:dI}{M:dZ}{k v:Nat}{L:fR}(E:fS D M k v t L P):(dX M t).2.2.toNat<=L.length/\P.length<=2*L.length/\(dX M t).2.1=L.length/\0<=(dX M t).2.2:=by
 rcases E with ⟨u,rfl,rfl⟩|⟨h,n,p,I,u,G⟩;rw[u];exact⟨zM _,zM _,rfl,Int.le_refl _⟩
 have:=G.counts
 dsimp only at this;rw[u];dsimp only;rw[zJ];omega
def fS.sort{D:dI}{M:dZ}{k v:Nat}{t:Int}{L:fR}{P:List Int}(E:fS D M k v t L P):fg L/\mf k v L:=by rcases E with ⟨_,rfl,_⟩|⟨h,n,p,I,J,u⟩;exact⟨.nil,fun x G=>nomatch G⟩;exact⟨u.sort,u.vZ⟩
def qzB(h:AD t):∃k v:Nat,rG t=((k:Int),(v:Int))/\gZ k v/\1<=k/\k<=24/\1<=v/\v<=108:=by obtain⟨u,E⟩:=h;have:t=0\/t=1\/t=2\/t=3\/t=4\/t=5\/t=6\/t=7:=oJ;rcases this with rfl|rfl|rfl|rfl|rfl|rfl|rfl|rfl;exact⟨16,88,rfl,⟨oM,oM⟩,oM,oM,oM,oM⟩;exact⟨16,108,rfl,⟨oM,oM⟩,oM,oM,oM,oM⟩;exact⟨16,1,rfl,⟨oM,oM⟩,oM,oM,oM,oM⟩;exact⟨16,16,rfl,⟨oM,oM⟩,oM,oM,oM,oM⟩;exact⟨24,16,rfl,⟨oM,oM⟩,oM,oM,oM,oM⟩;exact⟨24,16,rfl,⟨oM,oM⟩,oM,oM,oM,oM⟩;exact⟨24,65,rfl,⟨oM,oM⟩,oM,oM,oM,oM⟩;exact⟨1,8,rfl,⟨oM,oM⟩,oM,oM,oM,oM⟩
structure xn (D:dI) (M:dZ) (k v c:Nat) (t:Int) (L:fR) (P:List Int):Prop where
 J2:fS D M k v t L P
 wf:M.Wf
 Q3:M.Q3=false
 len:M.Q2.length=24
 nodup:P.Nodup
 Q9:M.y0
 many:M.Q9.length=c
 use:∀ x,dT M x->x∈P
section
variable {D:dI} {M M':dZ} {k v c:Nat} {t:Int} {L L':fR} {P P':List Int}
end
def qp9{D:dI}{n k v:Nat}(ht:0<=t/\t<8)(h8:8<=n)(h4:n<=4096)(U:(kc n).Wf):xn D (kc n) k v ((n-2)-eJ (n-2)) t [] []:=by
 have J:(kc n).Q2=zs 24:=rfl;have u:(zs 24).length=24:=(by simp[zs]);have G:∀i,(zs 24).getD i 0=0:=fun i=>by rw[yR];unfold zs;rw[List.getElem?_replicate];split<;>rfl
 refine⟨.inl ⟨?_,rfl,rfl⟩,U,rfl,by rw[J];exact u,.nil,qlo _ _ _ _ _,?_,fun x E=>?_⟩;unfold dX;split;rfl;rw[J,G,G,G];show (nD n).length=_;unfold nD;rw[yC,Ai];rcases E with E|E;cases E;obtain⟨V,R,h3,I,h5,_⟩:=rK.1 E;have e:(kc n).j9.2.getD 0 0=n:=(by show wrap .u32 (n:Int)=_;exact nX _ oJ);rw[e] at R;have h:=xu.2 ⟨V,R⟩;rw[<- xE (eJ (fB n).length) (fB n)] at h;rcases zD.1 h with h|h;exact absurd h h3;exact absurd h I
end
section
section
variable {D:dI} {M M':dZ} {k v c:Nat} {t:Int} {L L':fR} {P P':List Int}
def Has.qS(R:4<=(dW k v).1):∀ {h:Nat} {s:ie},Has D M k v h s->minOf k v h<=s.size->s.y5.length+1<=s.y4.length
 | 0,s,G,I=>by have J:(dW k v).1 / 2<=s.size:=I;rw[G.2.1] at J;rw[G.1,xM];omega
 | h+1,s,⟨U,h0,J,V,h3,u,h5,h6,h7⟩,I=>by
  have h8:=u.right.x9.1;rw[V,h3];have key:∀l:List gM,(∀e∈l,Has D M k v h e.2/\minOf k v h<=e.2.size)->(l.flatMap (·.2.y5)).length+l.length<=(l.flatMap (·.2.y4)).length:=by
   intro l;induction l with
   | nil=>intro _;simp
   | cons a l ih=>
    intro E;have i:=ih fun e he=>E e (zN _ he);have j:=Has.qS R (E a oL).1 (E a oL).2;rw[yH,yH,zF,zF,yI];omega
  have:=key U h7
  rw[yI];omega
def Has.cS(I:4<=(dW k v).1){h:Nat}{s:ie}(u:Has D M k v h s):s.y5.length<=s.y4.length:=by
 cases h with
 | zero=>
  have:=length_pos_iff.2 u.ne
  rw[u.1,xM];omega
 | succ h=>
  obtain⟨J,h0,h1,R,U,E,h5,h6,V⟩:=u;have h8:=E.right.x9.1;rw[R,U];have key:∀l:List gM,(∀e∈l,Has D M k v h e.2/\minOf k v h<=e.2.size)->(l.flatMap (·.2.y5)).length+l.length<=(l.flatMap (·.2.y4)).length:=by
   intro l;induction l with
   | nil=>intro _;simp
   | cons a l ih=>
    intro G;have i:=ih fun e he=>G e (zN _ he);have j:=Has.qS I (G a oL).1 (G a oL).2;rw[yH,yH,zF,zF,yI];omega
  have:=key J V
  rw[yI];omega
def fS.cS(u:4<=(dW k v).1)(E:fS D M k v t L P):P.length<=L.length:=by rcases E with ⟨G,rfl,rfl⟩|⟨h,n,p,J,G,I⟩;exact zM _;exact I.cS u
end
end
section
section
variable {D D':dI} {M M':dZ} {k v:Nat} {t:Int} {L:fR} {P:List Int}
def Has.cF:∀ {h:Nat} {s:ie},Has D M k v h s->(∀x∈s.y5,dH D' M' x=dH D M x)->Has D' M' k v h s
 | 0,s,⟨E,I,u,J⟩,G=>⟨E,I,u,by rw[G s.x5 (by rw[E];simp)];exact J⟩
 | h+1,s,⟨V,h0,E,I,u,J,h5,h6,U⟩,G=>⟨V,h0,E,I,u,J,by rw[G s.x5 (by rw[u];simp)];exact h5,h6,fun e R=>⟨(U e R).1.cF fun x hx=>G x (by rw[u];exact zN _ (yK.2 ⟨e,R,hx⟩)),(U e R).2⟩⟩
structure Calm (D:dI) (M:dZ) (b q:Nat):Prop where
 quiet:eO D
 Q7:D.Q7=[]
 size:D.size=b
 blocks:M.j9.2.getD 0 0=b
 b8:8<=b
 wf:M.Wf
 Q9:M.y0
 Q3:M.Q3=false
 len:M.Q2.length=24
 seq:0<=M.j9.1/\M.j9.1<=q
 x6:0<=M.x6/\M.x6<=q
structure Kept (D:dI) (M:dZ) (D':dI) (M':dZ):Prop where
 Q2:M'.Q2=M.Q2
 use:∀ x,dT M' x↔dT M x
 read:∀ x,dT M x->dH D' M' x=dH D M x
def fS.kept(h:fS D M k v t L P)(G:M.Q3=false)(u:Kept D M D' M'):fS D' M' k v t L P:=by have e:dX M' t=dX M t:=(by unfold dX;rw[u.Q2]);rcases h with ⟨I,J,R⟩|⟨h,n,p,U,V,E⟩;exact .inl ⟨e.trans I,J,R⟩;exact .inr ⟨h,n,p,U,e.trans V,E.cF fun x hx=>u.read x (E.J4 G x hx)⟩
def Calm.count{b q:Nat}(h:Calm D M b q)(G:∀x,dT M x->x∈P):b-2<=M.Q1.length+(M.J7.length+M.Q5.length)+P.length:=by
 have:(fB b).length<=(M.Q1++(M.J7++(M.Q5++P))).length:=by refine List.Nodup.length_le_of_subset (xm (CT b)) fun x E=>?_;have E:=xu.1 E;by_cases hm:x∈M.all;simp only[dZ.all,zD] at hm⊢;rcases hm with u|u|u|u;exact .inl u;exact .inr (.inl u);exact .inr (.inr (.inl u));exact .inr (.inr (.inr (G x (.inl u))));simp only[zD];exact .inr (.inr (.inr (G x (.inr (xg.2 ⟨by rw[h.blocks];exact E,hm⟩)))))
 rw[Ai,zF,zF,zF] at this;omega
def qnA{a b:Nat}(h:a<=b):eJ a<=eJ b:=by unfold eJ;split;exact yX _;rw[iN];have:(a-1) / 124<=(b-1) / 124:=Nat.div_le_div_right oJ;omega
def qq6{b q:Nat}(h:Calm D M b q)(hq:q<=1000000)(hu:∀x,dT M x->x∈P)(hf:eJ b<=M.Q1.length): ∃D' M',gG D M=((D',M'),0)/\Calm D' M' b (q+1)/\Kept D M D' M'/\(M'=M\/b-2<=M'.Q9.length+P.length+eJ b):=by
 have ab:M.Q1.length+(M.J7++M.Q5).length<=b:=by
  have:(M.Q1++(M.J7++M.Q5)).length<=(fB b).length:=by
   refine List.Nodup.length_le_of_subset ?_ fun x hx=>?_;have hn:=h.wf.nodup;refine hn.sublist ((List.Sublist.refl _).append ?_);rw[<- zV];exact sublist_append_left _ _
   have:=h.wf.range x (by simp only[zD] at hx⊢;rcases hx with J|J|J;exact .inl J;exact .inr (.inl J);exact .inr (.inr (.inl J)))
   rw[h.blocks] at this;exact xu.2 this
  rw[Ai,zF] at this;omega
 have hk:=qnA ab;have aj:=h.count hu;unfold gG;rw[if_neg (by rw[h.Q3];decide)];split;exact⟨D,M,rfl,⟨h.quiet,h.Q7,h.size,h.blocks,h.b8,h.wf,h.Q9,h.Q3,h.len,by have:=h.seq;omega,by have:=h.x6;omega⟩,⟨rfl,fun _=>.rfl,fun _ _=>rfl⟩,.inl rfl⟩;cases I:jA M with
 | none=>
  unfold jA at I;rw[iN] at I;cases I
 | some y=>
  obtain⟨y5,Q9⟩:=y;dsimp only;have ac:=h.seq;have aa:=qx2 (y5:=y5) (Q9:=Q9) h.wf I h.len ⟨ac.1,oJ⟩;have V:M.j9.2.getD 0 0=D.size:=(by rw[h.blocks,h.size]);have R:=h.quiet.uE h.wf V (by have:=h.size;have:=h.b8;omega) I aa.1;rw[if_neg (by rw[R.1];simp)];have hv:=qsN (qtn h.Q7) h.quiet.down h.wf I aa.1 R.1;have ae:=R.2.1;have hz:=R.2.2;clear R;generalize (gJ D M.J8 y5 Q9 (fP M y5 Q9)).1=D' at hv ae hz⊢;have E:∀x,x∈(iq (fP M y5 Q9) y5 Q9 (M.x6+1) false Q9).all↔x∈M.Q1\/x∈M.J7\/x∈M.Q5:=fun x=>by rw[<- EC I x];show x∈Q9++([]++(y5++[]))↔_;simp only[xI,xH,zD];exact Or.comm
  have af:∀x,gi (iq (fP M y5 Q9) y5 Q9 (M.x6+1) false Q9) x=true↔dT M x:=fun x=>by
   rw[xg,E];show (2<=x/\x<M.j9.2.getD 0 0)/\_↔_;unfold dT;rw[xg];constructor;rintro⟨J,h2⟩;by_cases hm:x∈M.J8.map (·.1);exact .inl hm;refine .inr ⟨J,fun u=>?_⟩;simp only[dZ.all,zD] at u;rcases u with u|u|u|u;exact h2 (.inl u);exact h2 (.inr (.inl u));exact h2 (.inr (.inr u));exact hm u;rintro (J|⟨J,h2⟩);refine⟨h.wf.J6 x J,fun u=>?_⟩
   have:=qnQ h.wf I x J
   rcases (EC I x).2 u with h3|h3;exact this.1 h3;exact this.2 h3;refine⟨J,fun u=>h2 ?_⟩;simp only[dZ.all,zD];rcases u with u|u|u;exact .inl u;exact .inr (.inl u);exact .inr (.inr (.inl u))
  refine⟨D',iq (fP M y5 Q9) y5 Q9 (M.x6+1) false Q9,rfl,⟨ae,hv.Q7,hz.trans h.size,h.blocks,h.b8,qtV h.wf I rfl (ET h.wf I),qlo _ _ _ _ _,rfl,h.len,?_,?_⟩,⟨rfl,fun x=>?_,fun x hx=>?_⟩,.inr ?_⟩;show 0<=(fP M y5 Q9).1/\(fP M y5 Q9).1<=_;rw[aa.2];omega;show 0<=M.x6+1/\M.x6+1<=_
  have:=h.x6
  omega;rw[<- af x];exact⟨fun h=>h.resolve_left (by simp[iq]),.inr⟩;have ah:=(af x).2 hx;have am:=(xg.1 ah).1;have U:=(xg.1 ah).2;have G:2<=x/\x<M.j9.2.getD 0 0:=am;rw[V] at G;rw[qp1 rfl hv.down ⟨G.1,by rw[hz];exact G.2⟩ (by rw[hz];exact V) U];by_cases hm:x∈M.J8.map (·.1);obtain⟨e,he,rfl⟩:=mem_map.1 hm;rw[qvc h.Q3 h.wf he,qsO h.wf hv.J8 he];have an:x∉y5:=fun ao=>U ((E x).2 ((EC I x).1 (.inl ao)));rw[hv.rest x oJ hm an oJ,qp1 h.Q3 h.quiet.down G V fun u=>?_];simp only[dZ.all,zD] at u;rcases u with u|u|u|u;exact U ((E x).2 (.inl u));exact U ((E x).2 (.inr (.inl u)));exact U ((E x).2 (.inr (.inr u)));exact hm u;show b-2<=Q9.length+P.length+eJ b;obtain⟨k,au,av,_,e⟩:=Cw I;have aw:Q9.length=(M.J7.length+M.Q5.length)+(M.Q1.length-k):=by rw[e,(EB (yM.1 (h.wf.pN k)).2.1).length_eq,zF,zF,yC]
  omega
end
end
end
section
open Go Go.Pt List
open Go.IntKind (wrap)
attribute [local irreducible] ld dK iF mK iY fq st new idx i3 ji fy jk iL lN gU nn call dU inv run eX iD join loop held ext jQ eu mr ma mv IntKind.wrap
variable {F':List Nat} {K:Int->WP} {body:List Int}
structure TW (dbk pb:Nat) (FD:List Nat) (D:dI) (j:Nat) (w:World) (Y F:List Nat) (M:dZ):Prop where
 cP:eQ w dbk FD D
 lim:lK D j
 x8:eF w (FD++HG::Y) pb (pu dbk M) F M
 hv:Hv w
 wf:M.Wf
 sep:∀ b∈Y,b∉FD/\b≠HG
abbrev Zo (FD Y F:List Nat):List Nat:=(FD++HG::Y)++F
section
variable {dbk pb j:Nat} {FD Y Y' F:List Nat} {D:dI} {w w':World} {M:dZ}
def TW.q7(h:TW dbk pb FD D j w Y F M)(f:Fr [] w w'):TW dbk pb FD D j w' Y F M:=⟨h.cP.q7 f,h.lim,h.x8.q7 f,h.hv.q7 f,h.wf,h.sep⟩
def TW.qx(h:TW dbk pb FD D j w Y F M):∀b∈Y,b<w.heap.size:=fun b u=>h.x8.ow b (by simp[u])
def TW.ve(h:TW dbk pb FD D j w Y F M):∀b∈Zo FD Y F,b<w.heap.size:=fun b u=>(zD.1 u).elim (h.x8.ow b) (h.x8.lt b)
def TW.yf(h:TW dbk pb FD D j w Y F M):∀b∈Y,b∉F:=fun b u=>h.x8.sep b (by simp[u])
def TW.cO(h:TW dbk pb FD D j w Y F M)(f:Fr Y w w')(R:∀b∈Y',b<w'.heap.size)(I:∀b∈Y',b∈Y\/w.heap.size<=b):TW dbk pb FD D j w' Y' F M where
 cP:=h.cP.q8 f fun b u G=>(h.sep b G).1 u
 lim:=h.lim
 x8:=h.x8.pg (f.mono fun b u _=>by simp[u]) (fun b u=>by
  rcases zD.1 u with u|u;exact yD (h.cP.lt b u) f.size;rcases zG.1 u with rfl|u;exact yD h.hv.lt f.size;exact R b u) fun b u=>by
  rcases zD.1 u with u|u;exact .inl (zH _ u);rcases zG.1 u with rfl|u;exact .inl oL;rcases I b u with E|E;exact .inl (by simp[E]);exact .inr E
 hv:=h.hv.q8 f fun G=>(h.sep _ G).2 rfl
 wf:=h.wf
 sep:=fun b u=>by rcases I b u with E|E;exact h.sep b E;exact⟨fun J=>by have:=h.cP.lt b J;omega,fun J=>by have:=h.hv.lt;omega⟩
def TW.y3(h:TW dbk pb FD D j w Y F M)(E:∀b∈Y',b∈Y):TW dbk pb FD D j w Y' F M:=h.cO (.refl _ _) (fun b u=>h.qx b (E b u)) fun b u=>.inl (E b u)
def TW.Bb{B:List Nat}{w0:World}(h:TW dbk pb FD D j w0 Y F M)(f:Fr Y w0 w)(E:∀b∈B,w0.heap.size<=b/\b<w.heap.size):TW dbk pb FD D j w (B++Y) F M:=
 h.cO f (fun b u=>(zD.1 u).elim (fun u=>(E b u).2) fun u=>yD (h.qx b u) f.size) fun b u=>(zD.1 u).elim (fun u=>.inr (E b u).1) .inl
def qwA(M:dZ)(kd:Int)(b:List Int):(gc M kd b).2.Q3=M.Q3:=by unfold gc;split;rfl;split;rfl;split<;>rfl
def qx9(M:dZ)(n kd:Int)(b:List Int):(jp M n kd b).2.Q3=M.Q3:=by unfold jp;split;rfl;split;rfl;split<;>rfl
def qv1(M:dZ)(n:Int):(fl M n).2.Q3=M.Q3:=by unfold fl;split;rfl;split;rfl;split<;>rfl
def qwY(M:dZ)(t a b c:Int):(eW M t a b c).2.Q3=M.Q3:=by unfold eW;split;rfl;split<;>rfl
def qvY{M M':dZ}(h:M'.Q3=M.Q3):pu dbk M'=pu dbk M:=by unfold pu;rw[h]
def TW.next{M':dZ}(h:TW dbk pb FD D j w Y F M)(u:M'.Q3=M.Q3)(E:M'.Wf)(G:eF w' (FD++HG::Y) pb (pu dbk M) F' M')(f:Fr F w w'):TW dbk pb FD D j w' Y F' M' where
 cP:=h.cP.q8 f fun b I=>h.x8.sep b (zH _ I)
 lim:=h.lim
 x8:=by rw[qvY u];exact G
 hv:=h.hv.q8 f (h.x8.sep HG oL)
 wf:=E
 sep:=h.sep
def TW.make{kind:Int}{s:Sl}{K:Int×Int->WP}(h:TW dbk pb FD D j w Y F M)(E:eE (Zo FD Y F) w s body)(G:body.length<=100000)(I:0<=kind/\kind<256)(J:eH body)(R:∀F' w',TW dbk pb FD D j w' Y F' (gc M kind body).2->Fr F w w'->(∀b∈F',b∈F\/w.heap.size<=b)->K (gc M kind body).1 w'): cW 164 [dF pb,.b kind,s.v] dt w K:=
 qxl h.x8 E G (by have:=h.wf.all;omega) fun F' w' U f V=>R F' w' (h.next (qwA M kind body) (qtO h.wf I J).1 U f) f V
def TW.put{n kind:Int}{s:Sl}(h:TW dbk pb FD D j w Y F M)(E:eE (Zo FD Y F) w s body)(G:body.length<=100000)(I:0<=kind/\kind<256)(J:eH body)(R:∀w',TW dbk pb FD D j w' Y F (jp M n kind body).2->Fr F w w'->K (jp M n kind body).1 w'): cW 163 [dF pb,.u n,.b kind,s.v] dj w K:=
 qyK h.x8 E G fun w' U f=>R w' (h.next (qx9 M n kind body) (qwP h.wf I J).1 U f) f
def TW.drop{n:Int}(h:TW dbk pb FD D j w Y F M)(E:∀F' w',TW dbk pb FD D j w' Y F' (fl M n).2->Fr F w w'->(∀b∈F',b∈F\/w.heap.size<=b)->K (fl M n).1 w'): cW 137 [dF pb,.u n] dj w K:=
 qxj h.x8 (by have:=h.wf.all;omega) (by have:=h.wf.all;omega) (by have:=h.wf.all;omega) fun F' w' G f I=>E F' w' (h.next (qv1 M n) (qtv h.wf) G f) f I
def TW.read{n:Int}{K:Int×Sl×Int->WP}(h:TW dbk pb FD D j w Y F M)(E:gI n)(I:∀s w',(∀G:List Nat,(∀b∈G,b<w.heap.size)->eE G w' s (dH D M n).2.1)->Fr [] w w'->K ((dH D M n).1,s,(dH D M n).2.2) w'): cW 117 [dF pb,.u n] dp w K:=
 qvC h.cP h.lim h.x8 h.hv E (by have:=h.wf.all;omega) (fun e J=>zL (h.wf.body e J).2.1 oM) I
def TW.J5{t:Int}{K:Int×Int×Int->WP}(h:TW dbk pb FD D j w Y F M)(E:∀w',Fr [] w w'->K (dX M t) w'): cW 46 [dF pb,.i t] [.agg [.u,.u,.u]] w K:=qxo h.x8 E
def qvo{t a b c:Int}(u:M.Wf)(E:gI a)(G:gI b)(I:gI c):(eW M t a b c).2.Wf:=by unfold eW;split;exact u;split;exact u;refine qsr u fun x h=>?_;simp only[zD,zG,xX,or_false] at h;rcases h with (h|rfl|rfl|rfl)|h;exact u.Q2 x (yV h);exact E;exact G;exact I;exact u.Q2 x (yU h)
def TW.qg{t a b c:Int}(h:TW dbk pb FD D j w Y F M)(E:gI a)(G:gI b)(I:gI c)(J:∀w',TW dbk pb FD D j w' Y F (eW M t a b c).2->Fr F w w'->K (eW M t a b c).1 w'): cW 131 [dF pb,.i t,.agg #[.u a,.u b,.u c]] dj w K:=
 qsy h.x8 fun w' R f=>J w' (h.next (qwY M t a b c) (qvo h.wf E G I) R f) f
def TW.room(h:TW dbk pb FD D j w Y F M)(u:K M.Q1.length w):cW 129 [dF pb] dj w K:=qxn h.x8 u
def TW.u9(h:∀b∈F',b∈F\/w.heap.size<=b):∀b∈Zo FD Y F',b∈Zo FD Y F\/w.heap.size<=b:=Aa h
def Dr(h:M.Wf)(t:Int):gI (dX M t).1/\gI (dX M t).2.1/\gI (dX M t).2.2:=by
 have key:∀n,gI (M.Q2.getD n 0):=fun n=>by
  rw[yR];cases e:M.Q2[n]? with
  | none=>exact⟨oM,oM⟩
  | some x=>exact h.Q2 x (yF e)
 unfold dX;split;exact⟨⟨oM,oM⟩,⟨oM,oM⟩,⟨oM,oM⟩⟩;exact⟨key _,key _,key _⟩
end
end
section
open Go Go.Pt List
open Go.IntKind (wrap)
open Classical
attribute [local irreducible] ld dK iF mK iY fq st new idx i3 ji fy jk iL lN gU nn call dU inv run eX iD join loop held ext jQ eu mr ma mv IntKind.wrap
variable {K:Sl->WP} {S T Z:List Nat} {b:List Int} {hi p:Int} {i k v:Nat} {l:Key} {n:dL} {ps:py} {s src:Sl} {w:World} {x:kj}
abbrev FC:=Int×Int×Int×Int×Option Addr×Int
def jD (k v pb:Nat) (t:Int):FC:=((k:Int),(v:Int),((dW k v).1:Int),((dW k v).2:Int),pW pb,t)
def nz (x:FC):Array Value:=#[.i x.1,.i x.2.1,.i x.2.2.1,.i x.2.2.2.1,.pointer x.2.2.2.2.1,.i x.2.2.2.2.2]
abbrev WK:TypeId:=195
def BV (k v:Nat):Int×Int×Int×Int:=((k:Int),(v:Int),((dW k v).1:Int),((dW k v).2:Int))
def FN (k v:Nat):Array Value:=#[.i k,.i v,.i (dW k v).1,.i (dW k v).2]
section
variable {S:List Nat} {w:World} {x:kj} {n:dL} {k v:Nat}
structure oc (x:kj) (n:dL):Prop where
 Q4:x.1=n.Q4
 J6:x.2.1.len=n.J6.length
 Q0:x.2.2.1.len=n.Q0.length
 J9:x.2.2.2.len=n.J9.length
def eB.lens(h:eB S w x n):oc x n:=by obtain⟨u,_,⟨pk,E,G⟩,⟨pv,I,J⟩,R⟩:=h;exact⟨u,by rw[E.len,<- G,zK],by rw[I.len,<- J,zK],R.1⟩
def FZ{K:Int×Int->WP}(h:oc x n)(E:∀w',Fr [] w w'->K (((eS n k v).1:Int),((eS n k v).2:Int)) w'): cW 198 [.agg (FN k v),.agg (eK x)] dm w K:=by refine qkA<|oB (oE [] w) fun J w1 e1 R I=>oB I fun U w2 V f2 I=>oA I 0 rfl x.1 rfl ?_;unfold eS at E;have u:=I.drew;apply dV<;>intro G;rw[h.Q4] at G;rw[if_pos G] at E;refine oA u 0 rfl x.2.1 rfl<|oA u 1 rfl ((dW k v).1:Int) rfl ?_;rw[h.J6];exact E _ u.fr;rw[h.Q4] at G;rw[if_neg (by rw[G];decide)] at E;refine oA u 0 rfl x.2.2.2 rfl<|oA u 1 rfl ((dW k v).2:Int) rfl ?_;rw[h.J9];exact E _ u.fr
def qps{n:dL}:wrap .i64 (Int.tdiv ((eS n k v).2:Int) 2)=(((eS n k v).2 / 2:Nat):Int):=by have h:=AF (k:=k) (v:=v);have u:(eS n k v).2<=498:=(by unfold eS;split<;>omega);rw[Int.tdiv_eq_ediv_of_nonneg oJ,gq _ oJ];rfl
def qz2{K:Bool->WP}(h:oc x n)(E:∀w',Fr [] w w'->K (decide (oQ n k v)) w'): cW 169 [.agg (FN k v),.agg (eK x)] dk w K:=by refine qlj<|oB (oE [] w) fun J w1 e1 R u=>oB u fun U w2 V f2 u=>oC u 1 rfl (BV k v) rfl<|oC u 0 rfl x rfl<|FZ (k:=k) (v:=v) h fun G I=>?_;dsimp only;rw[qps];have e:decide (((eS n k v).1:Int)<(((eS n k v).2 / 2:Nat):Int))=decide (oQ n k v):=decide_eq_decide.2 (by unfold oQ;omega);rw[e];exact E G (u.fr.trans I)
def qyl{K:Bool->WP}(h:oc x n)(E:∀w',Fr [] w w'->K (decide (iV n k v)) w'): cW 202 [.agg (FN k v),.agg (eK x)] dk w K:=by refine qjv<|oB (oE [] w) fun J w1 e1 R u=>oB u fun U w2 V f2 u=>oC u 1 rfl (BV k v) rfl<|oC u 0 rfl x rfl<|FZ (k:=k) (v:=v) h fun G I=>?_;dsimp only;rw[qps];have e:decide (((eS n k v).1:Int)>(((eS n k v).2 / 2:Nat):Int))=decide (iV n k v):=decide_eq_decide.2 (by unfold iV;omega);rw[e];exact E G (u.fr.trans I)
end
def CP{t:Int}{ks:Sl}{pb:Nat}{K:FC×Int->WP}(I:rG t=((k:Int),(v:Int)))(J:k=0->∀x w',Fr [] w w'->K (x,4) w')(R:k≠0->ks.len≠k->∀x w',Fr [] w w'->K (x,1) w')(U:k≠0->ks.len=k->∀w',Fr [] w w'->K (jD k v pb t,0) w'): cW 89 [dF pb,.i t,ks.v] [.agg iE,.one .i] w K:=by
 refine qqy<|oB (oE [] w) fun V w1 e1 f1 h=>qqV ?_;rw[I];apply dV<;>intro E;have E:((k:Nat):Int)=0:=yP.1 E;exact oD h 0 rfl (nz (0,0,0,0,none,0)) fun w2 h G=>oC h 0 rfl (0,0,0,0,none,0) rfl<|J oJ _ _ h.fr;have E:¬((k:Nat):Int)=0:=zR.1 E;apply dV<;>intro u;have u:¬((ks.len:Int)=(k:Int)):=zR.1 (oP u);exact oD h 0 rfl (nz (0,0,0,0,none,0)) fun w2 h G=>oC h 0 rfl (0,0,0,0,none,0) rfl<|R oJ oJ _ _ h.fr;have u:(ks.len:Int)=(k:Int):=by rw[yE] at u;exact yP.1 u
 refine Ep fun w2 G=>?_;have h:=h.q7 G;exact oD h 0 rfl (nz (jD k v pb t)) fun w3 h f3=>oC h 0 rfl (jD k v pb t) rfl<|U oJ oJ _ h.fr
section
variable {dbk pb j:Nat} {FD Y F:List Nat} {D:dI} {w:World} {M:dZ} {k v:Nat} {t:Int}
def Bu{K:kj×Int->WP}(h:TW dbk pb FD D j w Y F M)(hp:gI p)(U:∀x B w',TW dbk pb FD D j w' (B++Y) F M->fi (Zo FD (B++Y) F) w' x (dJ D M k v p).1 B->Fr [] w w'->(∀c∈B,w.heap.size<=c)->K (x,(dJ D M k v p).2) w'): cW 90 [.agg (nz (jD k v pb t)),.u p] [.agg dY,.one .i] w K:=by
 refine qlm<|oB (oE [] w) fun r1 w1 e1 f1 G=>oB G fun r3 w2 e2 f2 G=>oA G 1 rfl (pW pb) rfl ?_;have h2:=h.q7 G.fr;refine TW.read h2 hp fun s w7 hs f7=>?_;have G:=G.q7 f7;have af:=hs [] (fun _ h=>nomatch h);have hB:eH (dH D M p).2.1:=qhI h.lim.ok (fun e he=>(h.wf.body e he).2.2) p;unfold dJ at U;apply dV<;>intro E;have ah:(dH D M p).2.2≠0:=fun e=>by dsimp only at E;rw[e] at E;exact absurd E oM
 rw[if_pos ah] at U;exact oD G 0 rfl (eK fD) fun w8 G f8=>oC G 0 rfl fD rfl<|U fD [] w8 (h.q7 G.fr) (.zero _ _) G.fr (fun _ h=>nomatch h);have he:¬(dH D M p).2.2≠0:=fun e=>by dsimp only at E;rw[yE,yP] at E;exact e E
 rw[if_neg he] at U;refine oA G 1 rfl (k:Int) rfl<|oA G 1 rfl (v:Int) rfl<|EE (k:=k) (v:=v) af hB fun x B au hN ai R=>?_;have V:=G.q7 ai;have aa:=eV (G.at (i:=0) rfl);dsimp only at aa;have hr:∀c∈B,c∉[r3]:=fun c E hm=>by have:=R c E;rw[zE.1 hm] at this;omega
 refine oD V 0 rfl (eK x) fun ab I aj=>oC I 0 rfl x rfl ?_;have J:=hN.q8 aj hr (fun c E=>.inl (by rw[zE.1 E];simp[aa])) (fun c E=>.inl E);have ay:=h.q7 I.fr;have ac:=G.fr.size;have ad:TW dbk pb FD D j ab (B++Y) F M:=h.Bb (I.fr.mono fun _ h=>nomatch h) fun b hb=>⟨zL ac (R b hb),J.lt b hb⟩;refine U x B ab ad (J.j6 fun c E=>.inl ?_) I.fr (fun c E=>zL ac (R c E));have zl:=h.ve;rcases zD.1 E with E|E;rcases zD.1 E with E|E
 have:=zl c (by simp[E]);simp;omega
 rcases zG.1 E with E|E
 have:=zl c (by simp[E]);simp;omega
 rcases zD.1 E with E|E;simp[E]
 have:=zl c (by simp[E]);simp;omega
 have:=zl c (by simp[E]);simp;omega
def qu8{kd:Int}{n:Int}(h:(jp M n kd b).1=10):(jp M n kd b).2=M:=by unfold jp at h⊢;split;rfl;rename_i u;rw[if_neg u] at h;split;rfl;rename_i q E;rw[E] at h;dsimp only at h;split;rfl;rename_i G;rw[if_neg G] at h;cases h
def vd{K:Int×Int->WP}(h:TW dbk pb FD D j w Y F M)(hx:eB (Zo FD Y F) w x n)(h1:n.J6.length<=1000000)(h2:n.Q0.length<=1000000)(h3:n.J9.length<=1000000)(kk:∀F' w',TW dbk pb FD D j w' Y F' (dO k v M p n).2->Fr F w w'->(∀b∈F',b∈F\/w.heap.size<=b)->K (dO k v M p n).1 w'): cW 130 [.agg (nz (jD k v pb t)),.u p,.agg (eK x)] dt w K:=by
 refine qkC<|oB (oE [] w) fun r1 w1 e1 f1 J=>oB J fun r3 w2 e2 f2 J=>oC J 0 rfl x rfl<|oA J 1 rfl (k:Int) rfl<|oA J 1 rfl (v:Int) rfl<|qxs (x:=x) (k:=k) (v:=v) (hx.q7 J.fr) h1 h2 h3 fun s w9 hs f9=>?_;have J:=J.q7 f9;have h9:=h.q7 J.fr;have aq:eH (eN n k v).2.1:=by unfold eN;split;exact qo8 hx.2.1.1 hx.2.1.2.1;exact fun _ h=>nomatch h
 have ar:0<=(eN n k v).1/\(eN n k v).1<256:=(by unfold eN iH;split;dsimp only;split<;>exact⟨oM,oM⟩;exact⟨oM,oM⟩);have au:(eN n k v).2.1.length<=100000:=(by unfold eN;split;rename_i hr;have:=(CC hr).2;dsimp only;omega;exact yX _);unfold dO at kk;apply dV<;>intro E;have aF:(eN n k v).2.2≠0:=fun e=>by dsimp only at E;rw[e] at E;exact absurd E oM
 rw[if_pos aF] at kk;exact kk F w9 h9 (J.fr.mono fun _ h=>nomatch h) fun b V=>.inl V;have he:¬(eN n k v).2.2≠0:=fun e=>by dsimp only at E;rw[yE,yP] at E;exact e E
 rw[if_neg he] at kk;have aG:=eV (J.at (i:=1) rfl);dsimp only at aG;have af:=h.ve;have ah:r1∉F:=fun hm=>by have:=af r1 (by simp[hm]);omega
 have av:w.heap.size<=r1:=oJ;have aQ:=J.fr.size;have aj:∀G:List Nat,(∀b∈G,b<w.heap.size)->eE G w9 s (eN n k v).2.1:=fun G hG=>hs G fun b V=>yD (hG b V) (zL f1.size f2.size);have ak:dQ F w w9 [(r1,.cells (nz (jD k v pb t)) WK (0,0))]:=⟨fun q hq=>by rw[zE.1 hq];exact J.at (i:=1) rfl,oL,J.fr.mono (fun _ h=>nomatch h),fun q hq=>by rw[zE.1 hq];exact .inr av⟩;generalize a4:(eN n k v).1=kd at *
 generalize a5:(eN n k v).2.1=R at *
 refine hU (fun _ w'=>(p=0\/(jp M p kd R).1=10)/\TW dbk pb FD D j w' Y F M/\dQ F w w' [(r1,.cells (nz (jD k v pb t)) WK (0,0))]/\eE (Zo FD Y F) w' s R) ?_ ?_;apply dV<;>intro hp;have hp:p≠0:=by rw[zT] at hp;exact zR.1 hp
 refine oA ak 0 rfl (pW pb) rfl<|TW.put h9 (aj _ af) au ar aq fun aH am aw=>?_;have ai:=ak.q8 aw (fun i hi=>.inl hi) (fun q hq=>by rw[zE.1 hq];exact ah);apply dV<;>intro I;have I:(jp M p kd R).1≠10:=by rw[zT] at I;exact zR.1 I
 rw[if_pos ⟨hp,I⟩] at kk;exact kk F aH am ai.fr fun b V=>.inl V;have I:(jp M p kd R).1=10:=by rw[yE] at I;exact yP.1 I
 rw[qu8 I] at am;exact⟨.inr I,am,ai,(aj _ af).q8 (aw.mono fun b V _=>by simp[V]) fun b V=>.inl V⟩;have hp:p=0:=by rw[yE] at hp;exact yP.1 hp
 exact⟨.inl hp,h9,ak,aj _ af⟩;rintro _ a6 ⟨hp,aJ,ad,ax⟩;rw[if_neg (fun hh=>hp.elim hh.1 hh.2)] at kk;refine oA ad 0 rfl (pW pb) rfl<|TW.make aJ ax au ar aq fun F' aK ay aL aM=>?_;have U:=ad.q8 aL (fun i hi=>.inl hi) (fun q hq=>by rw[zE.1 hq];exact ah);have an:=ad.fr.size;have ae:∀b∈F',b∈F\/w.heap.size<=b:=fun b V=>(aM b V).imp id fun h=>zL an h;refine hU (fun e w'=>∃F2,e=(if (gc M kd R).1.2=0/\p≠0 then (fl (gc M kd R).2 p).1 else (gc M kd R).1.2)/\TW dbk pb FD D j w' Y F2 (if (gc M kd R).1.2=0/\p≠0 then (fl (gc M kd R).2 p).2 else (gc M kd R).2)/\Fr F w w'/\∀b∈F2,b∈F\/w.heap.size<=b) ?_ ?_;refine hU (fun d w'=>d=decide ((gc M kd R).1.2=0/\p≠0)/\w'=aK) ?_ ?_;refine dV (fun E=>⟨?_,rfl⟩) (fun E=>⟨?_,rfl⟩);have E:(gc M kd R).1.2=0:=yP.1 E;rw[Bool.eq_iff_iff,yN,zT,zR];exact⟨fun h=>⟨E,h⟩,fun h=>h.2⟩;have E:¬(gc M kd R).1.2=0:=zR.1 E;rw[zU (fun h=>E h.1)];rintro d a7 ⟨rfl,rfl⟩;apply dV<;>intro E;have E:=zC E;rw[if_pos E,if_pos E];refine oA U 0 rfl (pW pb) rfl<|TW.drop ay fun F2 a8 aN aO aP=>?_;have ao:=U.fr.size;refine⟨F2,rfl,aN,U.fr.j8 aO ae,fun b V=>?_⟩;rcases aP b V with h|h;exact ae b h;exact .inr (zL ao h);have E:=zB E;rw[if_neg E,if_neg E];exact⟨F',rfl,ay,U.fr,ae⟩;rintro e az ⟨F2,rfl,ag,aA,aB⟩;by_cases E:(gc M kd R).1.2=0/\p≠0;rw[if_pos E] at kk ag⊢;exact kk F2 az ag aA aB;rw[if_neg E] at kk ag⊢;exact kk F2 az ag aA aB
end
section
section
variable {S:List Nat} {w:World} {s:Sl} {ps:py}
def js.qH(h:js S w s ps)(b:Nat){K:Sl->Prop}(E:hi=b)(I:b<=ps.length)(J:∀u,js S w u (ps.take b)->K u):fy s none (some hi) (some hi) 1 K:=
 ed.tU h.1 b E (by rw[zK];exact I) fun u G=>J u ⟨by rw[<- xP] at G;exact G,fun p R=>h.2 p (yV R)⟩
def js.from(h:js S w s ps){lo:Int}(a:Nat){K:Sl->Prop}(E:lo=a)(I:a<=ps.length)(J:∀u,js S w u (ps.drop a)->K u):fy s (some lo) none none 1 K:=
 ed.part h.1 a ps.length E (by rw[xW,h.len]) I (by rw[zK];exact zM _) fun u _ G _=>J u ⟨by have e:(iy ps).take ps.length=iy ps:=zS (by rw[zK];exact zM _);rw[e,<- xQ] at G;exact G,fun p R=>h.2 p (yU R)⟩
def js.upto(h:js S w s ps)(b:Nat){K:Sl->Prop}(E:hi=b)(I:b<=ps.length)(J:∀u,js S w u (ps.take b)->K u):fy s none (some hi) none 1 K:=
 ed.part h.1 0 b rfl E (yX _) (by rw[zK];exact I) fun u _ G _=>J u ⟨by rw[xF,<- xP] at G;exact G,fun p R=>h.2 p (yV R)⟩
def yc(ps:py)(b:Nat):gf (ps.take b)=(gf ps).take b:=xP
def wM(ps:py)(b:Nat):gf (ps.drop b)=(gf ps).drop b:=xQ
def wu{ps:py}(hi:i<ps.length):(gf ps).getD i []=ps[i].2:=by rw[yR,zQ,zA hi];rfl
def ed.vM{α:Type}{enc:α->List Value}{l:List α}(h:ed enc 1 S w s l){lo:Int}(a:Nat){K:Sl->Prop}(E:lo=a)(I:a<=l.length)(J:∀u,ed enc 1 S w u (l.drop a)->K u):fy s (some lo) none none 1 K:=
 ed.part h a l.length E (by rw[xW,h.1]) I (zM _) fun u _ G _=>J u (by rw[xZ] at G;exact G)
def ed.A2{α:Type}{enc:α->List Value}{l:List α}(h:ed enc 1 S w s l)(b:Nat){K:Sl->Prop}(E:hi=b)(I:b<=l.length)(J:∀u,ed enc 1 S w u (l.take b)->K u):fy s none (some hi) none 1 K:=
 ed.part h 0 b rfl E (yX _) I fun u _ G _=>J u (by rw[xF] at G;exact G)
end
section
variable {S:List Nat} {w:World} {x:kj} {n:dL} {k v:Nat}
def oo (n:dL) (mid:Nat):Prop:=if n.Q4 then mid<n.J6.length/\mid<=n.Q0.length else 1<=mid/\mid<=n.J6.length/\mid<=n.J9.length
def qwf{mid:Nat}{K:kj×kj×Sl->WP}(hx:eB S w x n)(hm:oo n mid)(hl:mid<=1000000)(kk:∀xl xr ks w',eB S w' xl (ee n mid).1->eB S w' xr (ee n mid).2.1->eE S w' ks (ee n mid).2.2->Fr [] w w'->K (xl,xr,ks) w'): cW 199 [.agg (eK x),.i mid] [.agg dY,.agg dY,.one .slice] w K:=by
 have aI:=hx;obtain⟨h0,E,⟨pk,G,u⟩,⟨pv,ad,I⟩,U⟩:=hx;have l1:pk.length=n.J6.length:=(by rw[<- u,zK]);have l2:pv.length=n.Q0.length:=(by rw[<- I,zK]);refine qoZ ?_;have h:=oE [] w;refine oB h fun r1 w2 _ f h=>oB h fun r3 w4 _ f h=>oB h fun r5 w6 _ f h=>?_;have h:=oF h;refine⟨?a,?b⟩;case' a=>
  refine oC h 2 rfl x rfl<|oC h 2 rfl x rfl<|oB h fun r9 ay _ f h=>jU (h.cells 3 rfl rfl) (h.cells 3 rfl rfl)<|oB h fun az aA _ f h=>jU (h.cells 4 rfl rfl) (h.cells 4 rfl rfl)<|oD h 1 rfl (eK x) fun aB h f=>ig (h.cells 4 rfl rfl)<|oD h 0 rfl (eK x) fun aC h f=>?_
 case' b=>
  refine oC h 2 rfl x rfl<|oC h 2 rfl x rfl<|oB h fun az ay _ f h=>jU (h.cells 3 rfl rfl) (h.cells 3 rfl rfl)<|oB h fun r9 aA _ f h=>jU (h.cells 4 rfl rfl) (h.cells 4 rfl rfl)<|oD h 0 rfl (eK x) fun aB h f=>ig (h.cells 4 rfl rfl)<|oD h 1 rfl (eK x) fun aC h f=>?_;have h:=De h (List.Perm.swap _ _ _)
 all_goals
  refine oA h 4 rfl x.1 rfl ?_;apply dV<;>intro hc;rw[h0] at hc;unfold oo at hm;rw[if_pos hc] at hm;have hH:ee n mid=({ n with J6:=n.J6.take mid,Q0:=n.Q0.take mid },{ n with J6:=n.J6.drop mid,Q0:=n.Q0.drop mid },n.J6.getD mid []):=(by unfold ee;rw[if_pos hc]);rw[hH] at kk;have h:=oF h;refine oA h 4 rfl x.2.1 rfl<|js.qH G mid rfl oJ fun V ak=>oA h 4 rfl x.2.2.1 rfl<|js.qH ad mid rfl oJ fun ae al=>oD h 1 rfl (eK (x.1,V,x.2.2.1,x.2.2.2)) fun aK h f=>ig (h.cell 4 rfl rfl)<|oD h 1 rfl (eK (x.1,V,ae,x.2.2.2)) fun aL h f=>?_;have h:=oF h;refine oA h 4 rfl x.2.1 rfl<|js.from G mid rfl oJ fun aa am=>oA h 4 rfl x.2.2.1 rfl<|js.from ad mid rfl oJ fun af an=>oD h 0 rfl (eK (x.1,aa,x.2.2.1,x.2.2.2)) fun aM h f=>ig (h.cell 4 rfl rfl)<|oD h 0 rfl (eK (x.1,aa,af,x.2.2.2)) fun aN h f=>?_;have h:=oF h;refine oC h 1 rfl (x.1,V,ae,x.2.2.2) rfl<|oC h 0 rfl (x.1,aa,af,x.2.2.2) rfl<|oA h 4 rfl x.2.1 rfl ?_;have J:mid<pk.length:=oJ;refine js.get' (G.q7 h.fr) mid rfl J fun aO R hh=>oD h 3 rfl (eK (x.1,V,ae,x.2.2.2)) fun aP h f=>l9 (hh _ (G.q7 h.fr)) (h.cell 4 rfl rfl) (h.cells 0 rfl rfl)<|oD h 2 rfl (eK (x.1,aa,af,x.2.2.2)) fun aE h f=>jU (hh _ (G.q7 h.fr)) (h.cell 4 rfl rfl)<|oC h 3 rfl (x.1,V,ae,x.2.2.2) rfl<|oC h 2 rfl (x.1,aa,af,x.2.2.2) rfl<|kk _ _ _ aE ⟨h0,⟨fun a R=>E.1 a (yV R),fun a R=>E.2.1 a (yV R),E.2.2⟩,⟨pk.take mid,ak.q7 h.fr,by rw[yc,u]⟩,⟨pv.take mid,al.q7 h.fr,by rw[yc,I]⟩,U.q7 h.fr⟩
   ⟨h0,⟨fun a R=>E.1 a (yU R),fun a R=>E.2.1 a (yU R),E.2.2⟩,⟨pk.drop mid,am.q7 h.fr,by rw[wM,u]⟩,⟨pv.drop mid,an.q7 h.fr,by rw[wM,I]⟩,U.q7 h.fr⟩ ?_ h.fr
  rw[<- u,wu J];exact (G.2 _ (zX J)).q7 h.fr;rw[h0] at hc;have ap:¬n.Q4=true:=(by rw[hc];decide);unfold oo at hm;rw[if_neg ap] at hm;have hH:ee n mid=({ n with J9:=n.J9.take mid,J6:=n.J6.take (mid-1) },{ n with J9:=n.J9.drop mid,J6:=n.J6.drop mid },n.J6.getD (mid-1) []):=(by unfold ee;rw[if_neg ap]);rw[hH] at kk;have em:wrap .i64 ((mid:Int)-1)=((mid-1:Nat):Int):=(by rw[gq _ oJ];omega);have h:=oF h;refine oA h 4 rfl x.2.2.2 rfl<|ed.tU U mid rfl oJ fun ab aq=>oA h 4 rfl x.2.1 rfl<|js.qH G (mid-1) em oJ fun ag ar=>oD h 1 rfl (eK (x.1,x.2.1,x.2.2.1,ab)) fun aQ h f=>ig (h.cell 4 rfl rfl)<|oD h 1 rfl (eK (x.1,ag,x.2.2.1,ab)) fun aR h f=>?_;have h:=oF h;refine oA h 4 rfl x.2.2.2 rfl<|ed.vM U mid rfl oJ fun ac au=>oA h 4 rfl x.2.1 rfl<|js.from G mid rfl oJ fun ah av=>oD h 0 rfl (eK (x.1,x.2.1,x.2.2.1,ac)) fun aT h f=>ig (h.cell 4 rfl rfl)<|oD h 0 rfl (eK (x.1,ah,x.2.2.1,ac)) fun aU h f=>?_;have h:=oF h;refine oC h 1 rfl (x.1,ag,x.2.2.1,ab) rfl<|oC h 0 rfl (x.1,ah,x.2.2.1,ac) rfl<|oA h 4 rfl x.2.1 rfl ?_;have J:mid-1<pk.length:=oJ;refine js.get' (G.q7 h.fr) (mid-1) em J fun aV R hh=>oD h 3 rfl (eK (x.1,ag,x.2.2.1,ab)) fun aW h f=>l9 (hh _ (G.q7 h.fr)) (h.cell 4 rfl rfl) (h.cells 0 rfl rfl)<|oD h 2 rfl (eK (x.1,ah,x.2.2.1,ac)) fun aF h f=>jU (hh _ (G.q7 h.fr)) (h.cell 4 rfl rfl)<|oC h 3 rfl (x.1,ag,x.2.2.1,ab) rfl<|oC h 2 rfl (x.1,ah,x.2.2.1,ac) rfl<|kk _ _ _ aF ⟨h0,⟨fun a R=>E.1 a (yV R),E.2.1,fun a R=>E.2.2 a (yV R)⟩,⟨pk.take (mid-1),ar.q7 h.fr,by rw[yc,u]⟩,⟨pv,ad.q7 h.fr,I⟩,aq.q7 h.fr⟩
   ⟨h0,⟨fun a R=>E.1 a (yU R),E.2.1,fun a R=>E.2.2 a (yU R)⟩,⟨pk.drop mid,av.q7 h.fr,by rw[wM,u]⟩,⟨pv,ad.q7 h.fr,I⟩,au.q7 h.fr⟩ ?_ h.fr
  rw[<- u,wu J];exact (G.2 _ (zX J)).q7 h.fr
end
end
section
structure Sg (S0:List Nat) (w0 wa:World) (F T:List Nat):Prop where
 pY:Fr S0 w0 wa
 new:∀ b∈F,b∈S0\/w0.heap.size<=b
 own:∀ b∈T,b∈S0\/w0.heap.size<=b
abbrev fh (L:List (Nat×Obj)):List Nat:=L.map (·.1)
section
variable {dbk pb j:Nat} {FD S0 Y Y0 F0 F F' T:List Nat} {D:dI} {w0 wa w w':World} {M M':dZ} {L:List (Nat×Obj)}
def Sg.start(F:List Nat)(w:World):Sg F w w F []:=⟨.refl _ _,fun b u=>.inl u,fun _ h=>nomatch h⟩
def Sg.fr(g:Sg S0 w0 wa F T)(h:dQ T wa w L):Fr S0 w0 w:=g.pY.j8 h.fr g.own
def Sg.fh(g:Sg S0 w0 wa F T)(h:dQ T wa w L):∀b∈fh L,b∈S0\/w0.heap.size<=b:=fun b E=>by obtain⟨q,G,rfl⟩:=mem_map.1 E;rcases h.own q G with u|u;exact g.own _ u;exact .inr (zL g.pY.size u)
def ws(h:dQ T wa w L):∀b∈fh L,b<w.heap.size:=fun b u=>by obtain⟨q,E,rfl⟩:=mem_map.1 u;exact eV (h.eI q E)
def TW.J0(E:TW dbk pb FD D j wa (T++Y) F M)(h:dQ T wa w L):TW dbk pb FD D j w (fh L++Y) F M:=
 E.cO (h.fr.mono fun b u _=>by simp[u]) (fun b u=>(zD.1 u).elim (ws h b) fun u=>yD (E.qx b (by simp[u])) h.fr.size) fun b u=>(zD.1 u).elim (fun u=>by obtain⟨q,G,rfl⟩:=mem_map.1 u;exact (h.own q G).imp (fun h=>zH _ h) id) fun u=>.inl (zI _ u)
def TW.cD(u:TW dbk pb FD D j wa Y F M)(h:dQ [] wa w L):TW dbk pb FD D j w (fh L++Y) F M:=TW.J0 (T:=[]) u h
def pG(h:dQ T wa w L)(f:Fr S w w')(E:∀b∈fh L,b∉S):dQ (fh L) w' w' L:=
 ⟨fun q u=>by rw[f.block q.1 (eV (h.eI q u)) (E _ (zZ u))];exact h.eI q u,h.nodup,.refl _ _,fun q u=>.inl (zZ u)⟩
def TW.own(u:TW dbk pb FD D j w (fh L++Y) F M)(h:dQ T wa w L)(f:Fr F w w'):dQ (fh L) w' w' L:=pG h f fun b E=>u.yf b (by simp[E])
def Sg.next(g:Sg S0 w0 wa F T)(h:dQ T wa w L)(f:Fr F w w')(n:∀b∈F',b∈F\/w.heap.size<=b):Sg S0 w0 w' F' (Go.Proofs.YtpcmehldpoljfaaGreatDoor.fh L):=
 ⟨(g.fr h).j8 f g.new,fun b u=>(n b u).elim (g.new b) fun E=>.inr (zL (g.fr h).size E),g.fh h⟩
def Sg.cC(g:Sg S0 w0 wa F T)(h:dQ T wa w L)(f:Fr [] w w'):Sg S0 w0 w' F (Go.Proofs.YtpcmehldpoljfaaGreatDoor.fh L):=
 ⟨(g.fr h).j8 f fun _ h=>(nomatch h),g.new,g.fh h⟩
def DL(h:dQ T wa w L):∀b∈Zo FD (Go.Proofs.YtpcmehldpoljfaaGreatDoor.fh L++Y) F,b∈Zo FD (T++Y) F\/wa.heap.size<=b:=fun b u=>by rcases zD.1 u with u|u;rcases zD.1 u with u|u;exact .inl (by simp[u]);rcases zG.1 u with u|u;exact .inl (by simp[u]);rcases zD.1 u with u|u;obtain⟨q,E,rfl⟩:=mem_map.1 u;exact (h.own q E).imp (fun h=>by simp[h]) id;exact .inl (by simp[u]);exact .inl (by simp[u])
def yk:∀b∈Zo FD Y F,b∈Zo FD (S++Y) F:=fun b h=>by simp only[Zo,zD,zG] at h⊢;rcases h with (h|h|h)|h<;>simp[h]
def vh{b:Nat}(h:b∈F):b∈Zo FD Y F:=zI _ h
def eB.J0(u:eB (Zo FD (T++Y) F) wa x n)(h:dQ T wa w L):eB (Zo FD (fh L++Y) F) w x n:=u.q8 (h.fr.mono fun b E _=>by simp[E]) (DL h)
def eB.cD(u:eB (Zo FD Y F) wa x n)(h:dQ [] wa w L):eB (Zo FD (fh L++Y) F) w x n:=eB.J0 (T:=[]) u h
def eB.next(h:eB (Zo FD Y F) w x n)(f:Fr F w w')(u:∀b∈F',b∈F\/w.heap.size<=b):eB (Zo FD Y F') w' x n:=h.q8 (f.mono fun b E _=>vh E) (TW.u9 u)
def pU(u:eE (Zo FD (T++Y) F) wa s l)(h:dQ T wa w L):eE (Zo FD (fh L++Y) F) w s l:=u.q8 (h.fr.mono fun b E _=>by simp[E]) (DL h)
def uv(u:eE (Zo FD Y F) wa s l)(h:dQ [] wa w L):eE (Zo FD (fh L++Y) F) w s l:=pU (T:=[]) u h
def qr4(h:eE (Zo FD Y F) w s l)(f:Fr F w w')(u:∀b∈F',b∈F\/w.heap.size<=b):eE (Zo FD Y F') w' s l:=h.q8 (f.mono fun b E _=>vh E) (TW.u9 u)
def FJ(h:eE (Zo FD (S++Y) F) w s l):eE (Zo FD Y F) w s l:=h.q8 (.refl _ _) fun b u=>.inl (yk b u)
def TW.j7(h:TW dbk pb FD D j w (T++Y) F M):TW dbk pb FD D j w Y F M:=h.y3 fun b u=>zI _ u
abbrev CW:=Int×Bool×Sl×Int
def tj (g:Grown) (ks:Sl):CW:=(g.x5,g.J8,ks,g.x4)
abbrev GR:TypeId:=252
def pL (x:CW):Array Value:=#[.u x.1,.bool x.2.1,x.2.2.1.v,.u x.2.2.2]
def ui:gI 0:=⟨oM,oM⟩
def qrG{k:Int}(h:M.Wf):gI (gc M k b).1.1:=by
 unfold gc;split;exact ui;split;exact ui;split;exact ui;rename_i n r u
 have:=h.range n (by rw[u];simp)
 have:=h.n4
 exact⟨by dsimp only;omega,by dsimp only;omega⟩
def uH(h:M.Wf)(u:gI p):gI (dO k v M p n).1.1:=by unfold dO;split;exact ui;split;exact u;split;exact qrG h;exact qrG h
structure GZ (g:Grown):Prop where
 x5:gI g.x5
 x4:gI g.x4
 key:eH g.key
def eH.nil:eH []:=fun _ h=>nomatch h
def FK:GZ oj:=⟨⟨oM,oM⟩,⟨oM,oM⟩,.nil⟩
def tk{l:List Key}(h:∀a∈l,eH a)(i:Nat):eH (l.getD i []):=by
 rw[yR];cases e:l[i]? with
 | none=>exact .nil
 | some a=>exact h a (yF e)
def qqb{t:Int}{J8:Bool}{K:CW×Int->WP}(hT:TW dbk pb FD D j w0 Y F M)(hx:eB (Zo FD Y F) w0 x n)(h1:n.J6.length<=100000)(h2:n.Q0.length<=100000)(h3:n.J9.length<=100000)(hm:(eS n k v).1>(eS n k v).2->oo n ((eS n k v).1 / 2))(hp:gI p)(kk:∀ks F' w',GZ (gb k v M p n J8).1.1->TW dbk pb FD D j w' Y F' (gb k v M p n J8).2->eE (Zo FD Y F') w' ks (gb k v M p n J8).1.1.key->Fr F w0 w'->(∀b∈F',b∈F\/w0.heap.size<=b)->K (tj (gb k v M p n J8).1.1 ks,(gb k v M p n J8).1.2) w'): cW 166 [.agg (nz (jD k v pb t)),.u p,.agg (eK x),.bool J8] [.agg pX,.one .i] w0 K:=by
 refine qkB ?_;have h:=oE [] w0;have g:=Sg.start F w0;have hl:=hx.lens;have aH:(eS n k v).1<=100000:=(by unfold eS;split<;>assumption);refine oB h fun r1 w2 _ f h=>oB h fun r3 w4 _ f h=>oB h fun r5 w6 _ f h=>oB h fun r7 w8 _ f h=>oD h 0 rfl (pL (0,J8,dG,0)) fun w9 h f=>oC h 3 rfl (BV k v) rfl<|oC h 2 rfl x rfl<|FZ (k:=k) (v:=v) hl fun aM ao=>?_;have h:=h.q7 ao;refine hU (fun _ w'=>∃(x':kj) (n':dL) (ks:Sl) (key:Key) (o:Int) (F' T:List Nat) (wa:World) (M':dZ),Sg F w0 wa F' T/\TW dbk pb FD D j wa (T++Y) F' M'/\dQ T wa w' [(r7,.cells (pL (0,J8,ks,o)) GR (0,0)),(r5,.cells (pL (0,false,dG,0)) GR (0,0)),(r3,.cells (eK x') ND (0,0)),(r1,.cells (nz (jD k v pb t)) WK (0,0))]/\
   eB (Zo FD (T++Y) F') wa x' n'/\eE (Zo FD (T++Y) F') wa ks key/\n'.J6.length<=100000/\n'.Q0.length<=100000/\n'.J9.length<=100000/\gI o/\eH key/\gb k v M p n J8=((⟨(dO k v M' p n').1.1,J8,key,o⟩,(dO k v M' p n').1.2),(dO k v M' p n').2)) ?_ ?_
 apply dV<;>intro J;have J:(eS n k v).1>(eS n k v).2:=(by have:=zC J;dsimp only at this;omega);have ai:=hm J;have U:wrap .i64 (Int.tdiv ((eS n k v).1:Int) 2)=(((eS n k v).1 / 2:Nat):Int):=(by rw[Int.tdiv_eq_ediv_of_nonneg oJ,gq _ oJ];rfl);generalize aj:(eS n k v).1 / 2=E at ai U;refine oC h 2 rfl x rfl ?_;dsimp only;rw[U];have G:=hT.cD h;refine qwf (hx.cD h) ai oJ fun xl xr ks aN ap aq ab ac=>?_;have V:=G.q7 ac;have g:=g.cC h ac;have h:=pG h ac fun _ _ h=>nomatch h;refine oB h fun aO aP _ f h=>oB h fun aQ aR _ f h=>oD h 1 rfl (eK xl) fun aT h f=>oD h 0 rfl (eK xr) fun aU h f=>oC h 5 rfl (jD k v pb t) rfl<|oC h 0 rfl xr rfl ?_;have hH:(ee n E).1.J6.length<=100000/\(ee n E).1.Q0.length<=100000/\(ee n E).1.J9.length<=100000/\(ee n E).2.1.J6.length<=100000/\(ee n E).2.1.Q0.length<=100000/\(ee n E).2.1.J9.length<=100000:=by unfold ee;split<;>simp only[yL,yC]<;>omega
 refine vd (V.J0 h) (aq.J0 h) oJ oJ oJ fun F1 av aa R ad=>?_;have ae:=(ap.J0 h).next R ad
 have af:=qr4 (pU ab h) R ad;have g:=g.next h R ad
 have h:=(V.J0 h).own h R;apply dV<;>intro I;have aw:(dO k v M 0 (ee n E).2.1).1.2≠0:=by rw[zT] at I;exact zR.1 I
 have e:gb k v M p n J8=((oj,(dO k v M 0 (ee n E).2.1).1.2),(dO k v M 0 (ee n E).2.1).2):=(by unfold gb;rw[if_pos J,aj,if_pos aw]);rw[e] at kk;exact oD h 3 rfl (pL (0,false,dG,0)) fun ax h f=>oC h 3 rfl (0,false,dG,0) rfl<|kk dG F1 ax FK (aa.J0 h).j7 (.nil _ _ _ _) (g.fr h) g.new;have he:¬(dO k v M 0 (ee n E).2.1).1.2≠0:=fun e=>by rw[yE,yP] at I;exact e I
 refine oC h 1 rfl xl rfl<|oD h 4 rfl (eK xl) fun aW h f=>oG h 2 rfl (pL (0,J8,dG,(dO k v M 0 (ee n E).2.1).1.1)) rfl rfl (zO rfl) fun aX h f=>oG h 2 rfl (pL (0,J8,ks,(dO k v M 0 (ee n E).2.1).1.1)) rfl rfl (zO rfl) fun aY h f=>⟨xl,(ee n E).1,ks,(ee n E).2.2,_,F1,_,av,_,g,aa,h.sub (.cons _ (.cons _ (.refl _))),ae,af,hH.1,hH.2.1,hH.2.2.1,uH hT.wf ⟨oM,oM⟩,?_,?_⟩;unfold ee;split;exact tk hx.2.1.1 _;exact tk hx.2.1.1 _;unfold gb;rw[if_pos J,aj,if_neg he];have J:¬(eS n k v).1>(eS n k v).2:=(by have:=zB J;dsimp only at this;omega);refine⟨x,n,dG,[],0,F,[],w0,M,g,hT,h,hx,.nil _ _ _ _,h1,h2,h3,⟨oM,oM⟩,.nil,?_⟩;unfold gb;rw[if_neg J];rintro aZ a0 ⟨x',n',ks,key,o,F1,T,wa,M',g,G,h,ay,az,l1,l2,l3,uo,bk,e⟩;rw[e] at kk;refine oC h 3 rfl (jD k v pb t) rfl<|oC h 2 rfl x' rfl<|vd (G.J0 h) (ay.J0 h) oJ oJ oJ fun F2 a3 ak ag al=>?_;have ab:=qr4 (pU az h) ag al;have g:=g.next h ag al
 have h:=(G.J0 h).own h ag;exact oD h 0 rfl (pL ((dO k v M' p n').1.1,J8,ks,o)) fun a4 h f=>oC h 0 rfl ((dO k v M' p n').1.1,J8,ks,o) rfl<|oD h 1 rfl (pL ((dO k v M' p n').1.1,J8,ks,o)) fun aA h f=>oC h 1 rfl ((dO k v M' p n').1.1,J8,ks,o) rfl<|kk ks F2 aA ⟨uH G.wf hp,uo,bk⟩ (ak.J0 h).j7 (FJ (pU ab h)) (g.fr h) g.new
end
end
section
section
variable {Z:List Nat} {w w':World} {s:Sl} {l:List Key} {B:List Nat}
def qpv{α β:Type}(f:α->β)(l:List α)(i:Nat)(x:α):(fK l i x).map f=fK (l.map f) i (f x):=by unfold fK;rw[xN,xN,xP,xQ];rfl
def qpi{α β:Type}(f:α->β)(l:List α)(i:Nat):(gR l i).map f=gR (l.map f) i:=by unfold gR;rw[xN,xP,xQ]
def Cx{α:Type}{l:List α}{y:α}(h:y∈gR l i):y∈l:=by unfold gR at h;exact (zD.1 h).elim yV yU
abbrev mB (Z:List Nat) (w:World) (Z':List Nat):Prop:=∀b∈Z',b∈Z\/w.heap.size<=b
def Bp{pk pk':py}{Z':List Nat}{G:Sl}{B':List Nat}{l':List Key}(I:∀p∈pk,eE Z w p.1 p.2)(u:eP gx 1 w' G (iy pk') B')(e:gf pk'=l')(f:Fr B w w')(E:∀b∈B,b∈Z)(J:mB Z w Z')(R:∀p∈pk',p∈pk\/eE Z w p.1 p.2):i6 Z' w' G l' B':=
 ⟨pk',u,e,fun p h=>((R p h).elim (I p) id).q8 (f.mono fun b u _=>E b u) J⟩
def i6.ins{ii:Int}{ks:Sl}{key:Key}{vb:Nat}{T':TypeId}(h:i6 Z w s l B)(E:∀b∈B,b∈Z)(hi:i<=l.length)(R:ii=i)(J:l.length<=100000)(U:w.heap[vb]?=some (.cells #[fU ks] T' (0,0)))(G:vb∉B)(V:eE Z w ks key)(kk:∀u B' w',(∀Z',mB Z w Z'->i6 Z' w' u (fK l i key) B')->Fr B w w'->(∀b∈B',b∈B\/w.heap.size<=b)->K u w'): cW 165 [s.v,.i ii,.slice (pW vb) 1 1] di w K:=by obtain⟨pk,hb,rfl,I⟩:=h;rw[zK] at hi J;refine qt8 hb (by rw[zK];exact hi) R (by rw[zK];exact J) U G fun u B' w' b' f n=>kk u B' w' (fun Z' hZ=>Bp (pk':=fK pk i (ks,key)) I (by rw[show iy (fK pk i (ks,key))=fK (iy pk) i ks from qpv _ _ _ _];exact b') (qpv _ _ _ _) f E hZ fun p I=>?_) f n;rcases Dk I with rfl|h;exact .inr V;exact .inl h
def i6.del{ii jj:Int}(h:i6 Z w s l B)(E:∀b∈B,b∈Z)(hi:i<l.length)(J:ii=i)(R:jj=((i+1:Nat):Int))(I:l.length<=100000)(U:∀u w',(∀Z',mB Z w Z'->i6 Z' w' u (gR l i) B)->Fr B w w'->K u w'): cW 168 [s.v,.i ii,.i jj] di w K:=by obtain⟨pk,V,rfl,G⟩:=h;rw[zK] at hi I;exact qt5 V (by rw[zK];exact hi) J R (by rw[zK];exact I) fun u w' b' f=>U u w' (fun Z' hZ=>Bp (pk':=gR pk i) G (by rw[show iy (gR pk i)=gR (iy pk) i from qpi _ _ _];exact b') (qpi _ _ _) f E hZ fun p G=>.inl (Cx G)) f
def i6.set{i:Nat}{ii:Int}{ks:Sl}{key:Key}{K:WP}(h:i6 Z w s l B)(u:∀b∈B,b∈Z)(hi:i<l.length)(I:ii=i)(J:eE Z w ks key)(R:∀w',(∀Z',mB Z w Z'->i6 Z' w' s (l.set i key) B)->Fr B w w'->K w'):idx s ii 1 fun a=>st a [ks.v] w K:=by obtain⟨pk,G,rfl,E⟩:=h;rw[zK] at hi;refine eP.vu G I (by rw[zK];exact hi) fun b U=>?_;subst U;refine eP.Bw (e:=fU) (x:=ks) (fun _=>rfl) G (by rw[zK];exact hi) rfl rfl fun w' b' f=>R w' (fun Z' V=>Bp (pk':=pk.set i (ks,key)) E (by rw[show iy (pk.set i (ks,key))=(iy pk).set i ks from map_set];exact b') (map_set) f u V fun p E=>?_) f;rcases mem_or_eq_of_mem_set E with h|rfl;exact .inl h;exact .inr J
def i6.B0{ks:Sl}{key:Key}{vb:Nat}{T':TypeId}(h:i6 Z w s l B)(E:∀b∈B,b∈Z)(I:l.length<=100000)(J:w.heap[vb]?=some (.cells #[fU ks] T' (0,0)))(R:eE Z w ks key)(U:∀u B' w',(∀Z',mB Z w Z'->i6 Z' w' u (l++[key]) B')->Fr B w w'->(∀b∈B',b∈B\/w.heap.size<=b)->K u w'): Pt.run di ((Builtin.append_ #[171,171] 171 #[s.v,.slice (pW vb) 1 1]).run prog w) K:=by obtain⟨pk,V,rfl,G⟩:=h;rw[zK] at I;refine pF V (by rw[zK];exact I) J fun u B' w' b' f n=>U u B' w' (fun Z' hZ=>Bp (pk':=pk++[(ks,key)]) G (by rw[show iy (pk++[(ks,key)])=iy pk++[ks] by simp];exact b') oL f E hZ fun p G=>?_) f n;rcases zD.1 G with h|h;exact .inl h;rw[zE.1 h];exact .inr R
def i6.ud(h:i6 Z w s l B)(G:∀b∈B,b∈Z)(hl:l.length+ps.length<=100000)(u:ed gx 1 S w src (iy ps))(I:∀p∈ps,eE Z w p.1 p.2)(kk:∀E B' w',(∀Z',mB Z w Z'->i6 Z' w' E (l++gf ps) B')->Fr B w w'->(∀b∈B',b∈B\/w.heap.size<=b)->K E w'): Pt.run di ((Builtin.append_ #[171,171] 171 #[s.v,src.v]).run prog w) K:=by obtain⟨pk,hb,rfl,J⟩:=h;rw[zK] at hl;obtain⟨ad,R,hz,U,V⟩:=Dq;refine eP.j1 (ys:=iy ps) (e:=101) hb vr oK R hz U rfl (uk (e':=101) u vr qv6 oK) u.1 (by rw[V,zK,u.1,zK];omega) (by rw[zK,u.1,zK];omega) fun E B' w' b' f n _=>kk E B' w' (fun Z' hZ=>Bp (pk':=pk++ps) J (by rw[show iy (pk++ps)=iy pk++iy ps by simp];exact b') oL f G hZ fun p J=>?_) f n;rcases zD.1 J with h|h;exact .inl h;exact .inr (I p h)
def qyQ{l ys:List Int}(h:eP iz 1 w s l B)(hl:l.length+ys.length<=100000)(E:ed iz 1 S w src ys)(U:∀G B' w',eP iz 1 w' G (l++ys) B'->Fr B w w'->(∀b∈B',b∈B\/w.heap.size<=b)->K G w'): Pt.run di ((Builtin.append_ #[172,172] 172 #[s.v,src.v]).run prog w) K:=by obtain⟨V,I,hz,J,R⟩:=vU;exact eP.j1 (ys:=ys) (e:=63) h qZ oK I hz J rfl (uk (e':=63) E qZ (fun x u hu=>by rw[zE.1 hu];rfl) oK) E.1 (by rw[R,E.1];omega) (by rw[E.1];omega) fun G B' w' b' f n _=>U G B' w' b' f n
def qAE{l:List Int}{ii x:Int}{K:WP}(h:eP iz 1 w s l B)(hi:i<l.length)(E:ii=i)(G:∀w',eP iz 1 w' s (l.set i x) B->Fr B w w'->K w'):idx s ii 1 fun a=>st a [.u x] w K:=by refine eP.vu h E hi fun b I=>?_;subst I;exact eP.Bw (e:=nj) (x:=x) (fun _=>rfl) h hi rfl rfl G
end
section
variable {Z:List Nat} {w:World} {x:kj} {n:dL} {B:List Nat}
def fi.rh(h:fi Z w x n B):∃Bk,i6 Z w x.2.1 n.J6 Bk/\(∀b∈Bk,b∈B)/\∀I G Bk' w',Fr Bk w w'->(∀b∈Bk,b∈Z)->(∀b∈Bk',b∈Bk\/w.heap.size<=b)->(∀a∈G,eH a)-> ∃B',(∀b∈B',b∈B\/w.heap.size<=b)/\∀Z',mB Z w Z'->i6 Z' w' I G Bk'->fi Z' w' (x.1,I,x.2.2) { n with J6:=G } B':=by
 obtain⟨h0,J,Bk,Bv,Bi,rfl,R,hk,hv,hi⟩:=h;obtain⟨n1,n2,U⟩:=yM.1 R;refine⟨Bk,hk,fun b u=>by simp[u],fun I G Bk' w' f hz nk hl=>⟨Bk'++(Bv++Bi),fun b u=>?_,fun Z' hZ E=>⟨h0,⟨hl,J.2⟩,Bk',Bv,Bi,rfl,?_,E,hv.q8 f (fun b u V=>U b V b (by simp[u]) rfl) (fun b u=>.inl (hz b u)) hZ,hi.q8 f fun b u V=>U b V b (by simp[u]) rfl⟩⟩⟩;rcases zD.1 u with u|u;exact (nk b u).imp (fun h=>by simp[h]) id;exact .inl (zI _ u);have aa:Bk'.Nodup:=(by obtain⟨_,u,_⟩:=E;exact zz u);refine yM.2 ⟨aa,n2,fun a ha b u e=>?_⟩;subst e;rcases nk a ha with h1|h1;exact U a h1 a u rfl;rcases zD.1 u with u|u
 have:=hv.lt a u;omega
 have:=hi.lt a u;omega
def fi.qQ(h:fi Z w x n B):∃G,i6 Z w x.2.2.1 n.Q0 G/\(∀b∈G,b∈B)/\∀s' V E w',Fr G w w'->(∀b∈G,b∈Z)->(∀b∈E,b∈G\/w.heap.size<=b)->(∀a∈V,eH a)-> ∃B',(∀b∈B',b∈B\/w.heap.size<=b)/\∀Z',mB Z w Z'->i6 Z' w' s' V E->fi Z' w' (x.1,x.2.1,s',x.2.2.2) { n with Q0:=V } B':=by
 obtain⟨h0,I,Bk,G,Bi,rfl,ab,hk,hv,hi⟩:=h;obtain⟨n1,n2,n3⟩:=yM.1 ab;obtain⟨m1,m2,m3⟩:=yM.1 n2;refine⟨G,hv,fun b u=>by simp[u],fun s' V E w' f hz nv hl=>⟨Bk++(E++Bi),fun b u=>?_,fun Z' hZ J=>⟨h0,⟨I.1,hl,I.2.2⟩,Bk,E,Bi,rfl,?_,hk.q8 f (fun b u hm=>n3 b u b (by simp[hm]) rfl) (fun b u=>.inl (hz b u)) hZ,J,hi.q8 f fun b u hm=>m3 b hm b u rfl⟩⟩⟩;simp only[zD] at u⊢;rcases u with u|u|u;exact .inl (.inl u);exact (nv b u).imp (fun h=>.inr (.inl h)) id;exact .inl (.inr (.inr u));have af:E.Nodup:=(by obtain⟨_,u,_⟩:=J;exact zz u);refine yM.2 ⟨n1,yM.2 ⟨af,m2,fun a R b u e=>?_⟩,fun a R b u e=>?_⟩;subst e;rcases nv a R with U|U;exact m3 a U a u rfl
 have:=hi.lt a u;omega
 subst e;rcases zD.1 u with u|u;rcases nv a u with U|U;exact n3 a R a (by simp[U]) rfl
 have:=hk.lt a R;omega
 exact n3 a R a (by simp[u]) rfl
def fi.qR(h:fi Z w x n B):∃G,eP iz 1 w x.2.2.2 n.J9 G/\(∀b∈G,b∈B)/\∀s' V E w',Fr G w w'->(∀b∈G,b∈Z)->(∀b∈E,b∈G\/w.heap.size<=b)->(∀a∈V,gI a)-> ∃B',(∀b∈B',b∈B\/w.heap.size<=b)/\∀Z',mB Z w Z'->eP iz 1 w' s' V E->fi Z' w' (x.1,x.2.1,x.2.2.1,s') { n with J9:=V } B':=by
 obtain⟨h0,J,Bk,Bv,G,rfl,ab,hk,hv,hi⟩:=h;obtain⟨n1,n2,n3⟩:=yM.1 ab;obtain⟨m1,m2,m3⟩:=yM.1 n2;refine⟨G,hi,fun b u=>by simp[u],fun s' V E w' f hz ni hl=>⟨Bk++(Bv++E),fun b u=>?_,fun Z' hZ R=>⟨h0,⟨J.1,J.2.1,hl⟩,Bk,Bv,E,rfl,?_,hk.q8 f (fun b u hm=>n3 b u b (by simp[hm]) rfl) (fun b u=>.inl (hz b u)) hZ,hv.q8 f (fun b u hm=>m3 b u b hm rfl) (fun b u=>.inl (hz b u)) hZ,R⟩⟩⟩;simp only[zD] at u⊢;rcases u with u|u|u;exact .inl (.inl u);exact .inl (.inr (.inl u));exact (ni b u).imp (fun h=>.inr (.inr h)) id;refine yM.2 ⟨n1,yM.2 ⟨m1,zz R,fun a I b u e=>?_⟩,fun a I b u e=>?_⟩;subst e;rcases ni a u with U|U;exact m3 a I a U rfl
 have:=hv.lt a I;omega
 subst e;rcases zD.1 u with u|u;exact n3 a I a (by simp[u]) rfl;rcases ni a u with U|U;exact n3 a I a (by simp[U]) rfl
 have:=hk.lt a I;omega
end
structure Ed (dbk pb:Nat) (FD:List Nat) (D:dI) (j:Nat) (S0 N0:List Nat) (w0 wa:World) (T Y F:List Nat) (M:dZ) (x:kj) (n:dL) (B:List Nat):Prop where
 sg:Sg S0 w0 wa F T
 tw:TW dbk pb FD D j wa (T++(B++Y)) F M
 node:fi (Zo FD (T++(B++Y)) F) wa x n B
 sep:∀ b∈T,b∉B
 cG:∀ b∈B,b∈N0\/w0.heap.size<=b
 cT:∀ b∈N0,b∈S0
 cM:∀ b∈B,b∉Y
section
variable {dbk pb j:Nat} {FD S0 N0 Y F F' T B B':List Nat} {D:dI} {w0 wa w w':World} {M M':dZ} {L:List (Nat×Obj)} {x x':kj} {n n':dL}
def Ed.J0(e:Ed dbk pb FD D j S0 N0 w0 wa T Y F M x n B)(h:dQ T wa w L):Ed dbk pb FD D j S0 N0 w0 w (fh L) Y F M x n B where
 sg:=⟨e.sg.fr h,e.sg.new,e.sg.fh h⟩
 tw:=e.tw.J0 h
 node:=e.node.q8 h.fr (fun b u E=>e.sep b E u) (fun b u=>.inl (by simp[u])) (DL h)
 sep:=fun b u E=>by
  obtain⟨q,I,rfl⟩:=mem_map.1 u;rcases h.own q I with G|G;exact e.sep _ G E
  have:=e.node.lt _ E;omega
 cG:=e.cG
 cT:=e.cT
 cM:=e.cM
def Ed.rd(e:Ed dbk pb FD D j S0 N0 w0 wa T Y F M x n B):∀b∈B,b∈Zo FD (T++(B++Y)) F:=fun b h=>by simp[h]
def Ed.na{Bk:List Nat}(e:Ed dbk pb FD D j S0 N0 w0 w (fh L) Y F M x n B)(h:dQ T wa w L)(I:∀b∈Bk,b∈B)(f:Fr Bk w w')(R:fi (Zo FD (fh L++(B'++Y)) F) w' x' n' B')(G:∀b∈B',b∈B\/w.heap.size<=b):Ed dbk pb FD D j S0 N0 w0 w' (fh L) Y F M x' n' B'/\dQ (fh L) w' w' L:=by
 refine⟨⟨⟨e.sg.pY.j8 f fun b u=>(e.cG b (I b u)).imp (e.cT b) id,e.sg.new,e.sg.own⟩,e.tw.cO (f.mono fun b u _=>by simp[I b u]) (fun b u=>?_) (fun b u=>?_),R,fun b u J=>?_,fun b u=>(G b u).elim (e.cG b) fun E=>.inr (zL e.sg.pY.size E),e.cT,fun b u U=>?_⟩,pG h f fun b u J=>e.sep b u (I b J)⟩;rcases zD.1 u with u|u;exact yD (e.tw.qx b (by simp[u])) f.size;rcases zD.1 u with u|u;exact R.lt b u;exact yD (e.tw.qx b (by simp[u])) f.size;rcases zD.1 u with u|u;exact .inl (by simp[u]);rcases zD.1 u with u|u;exact (G b u).imp (fun h=>by simp[h]) id;exact .inl (by simp[u]);rcases G b J with E|E;exact e.sep b u E
 have:=e.tw.qx b (by simp[u]);omega
 rcases G b u with E|E;exact e.cM b E U
 have:=e.tw.qx b (by simp[U]);omega
def Ed.fq(e:Ed dbk pb FD D j S0 N0 w0 w T Y F M x n B)(E:∀b∈B',b∈B\/w.heap.size<=b):mB (Zo FD (T++(B++Y)) F) w (Zo FD (T++(B'++Y)) F):=fun b u=>by simp only[Zo,zD,zG] at u⊢;rcases u with (u|u|u|u|u)|u;simp[u];simp[u];simp[u];exact (E b u).imp (fun h=>by simp[h]) id;simp[u];simp[u]
def Ed.next(e:Ed dbk pb FD D j S0 N0 w0 w (fh L) Y F M x n B)(h:dQ T wa w L)(G:TW dbk pb FD D j w' (fh L++(B++Y)) F' M')(f:Fr F w w')(E:∀b∈F',b∈F\/w.heap.size<=b):Ed dbk pb FD D j S0 N0 w0 w' (fh L) Y F' M' x n B/\dQ (fh L) w' w' L:=by have I:∀b∈fh L,b∉F:=fun b u=>e.tw.yf b (by simp[u]);refine⟨⟨⟨e.sg.pY.j8 f e.sg.new,fun b u=>(E b u).elim (e.sg.new b) fun J=>.inr (zL e.sg.pY.size J),e.sg.own⟩,G,e.node.q8 f (fun b u=>e.tw.yf b (by simp[u])) (fun b u=>.inl (vh u)) (TW.u9 E),e.sep,e.cG,e.cT,e.cM⟩,pG h f I⟩
def Ed.cC(e:Ed dbk pb FD D j S0 N0 w0 w (fh L) Y F M x n B)(h:dQ T wa w L)(f:Fr [] w w'):Ed dbk pb FD D j S0 N0 w0 w' (fh L) Y F M x n B/\dQ (fh L) w' w' L:=
 e.next h (e.tw.q7 f) (f.mono fun _ h=>nomatch h) fun b u=>.inl u
def Ed.cB(e:Ed dbk pb FD D j S0 N0 w0 w T Y F M x n B):eB (Zo FD (T++Y) F) w x n:=
 e.node.rd (fun b h u=>by
  simp only[Zo,zD,zG] at u;have E:=e.tw.sep b (by simp[h]);rcases u with (u|u|u|u)|u;exact E.1 u;exact E.2 u;exact e.sep b u h;exact e.cM b h u;exact e.tw.yf b (by simp[h]) u) fun b h=>.inl (by
  simp only[Zo,zD,zG] at h⊢;rcases h with (h|h|h|h)|h<;>simp[h])
def Ed.qA(e:Ed dbk pb FD D j S0 N0 w0 w T Y F M x n B):TW dbk pb FD D j w (T++Y) F M:=e.tw.y3 fun b u=>(zD.1 u).elim (fun h=>by simp[h]) fun h=>by simp[h]
end
end
section
section
variable {dbk pb j:Nat} {FD S0 N0 Y F F' F0 T T1 B B' Bk Bk':List Nat} {D:dI} {w0 wa w w':World} {M M':dZ} {L:List (Nat×Obj)} {x x':kj} {n n':dL} {i q:Nat} {ii jj:Int} {ks:Sl} {key:Key} {vb:Nat} {T':TypeId}
structure mG (FD Y F B B':List Nat) (T:List Nat) (w w':World):Prop where
 cV:∀ s l,eE (Zo FD (T++(B++Y)) F) w s l->eE (Zo FD (T++(B'++Y)) F) w' s l
 node:∀ x n,eB (Zo FD (T++(B++Y)) F) w x n->eB (Zo FD (T++(B'++Y)) F) w' x n
def Ed.jS(e:Ed dbk pb FD D j S0 N0 w0 w T Y F M x n B)(E:∀b∈Bk,b∈B)(f:Fr Bk w w')(G:∀b∈B',b∈B\/w.heap.size<=b):mG FD Y F B B' T w w':=⟨fun s l h=>h.q8 (f.mono fun b u _=>by simp[E b u]) (e.fq G),fun x n h=>h.q8 (f.mono fun b u _=>by simp[E b u]) (e.fq G)⟩
def Ed.cV(e:Ed dbk pb FD D j F0 N0 w0 w T Y F M x n B)(E:eE (Zo FD Y F0) w0 s l):eE (Zo FD (T++(B++Y)) F) w s l:=
 E.q8 (e.sg.pY.mono fun b u _=>vh u) fun b u=>by rcases zD.1 u with u|u;rcases zD.1 u with u|u;exact .inl (by simp[u]);rcases zG.1 u with u|u;exact .inl (by simp[u]);rcases zD.1 u with u|u;exact (e.sg.own b u).imp (fun h=>vh h) id;rcases zD.1 u with u|u;exact (e.cG b u).imp (fun h=>vh (e.cT b h)) id;exact .inl (by simp[u]);exact (e.sg.new b u).imp (fun h=>vh h) id
def Ed.sub(e:Ed dbk pb FD D j S0 N0 w0 w T Y F M x n B)(E:∀b∈T1,b∈T):Ed dbk pb FD D j S0 N0 w0 w T1 Y F M x n B where
 sg:=⟨e.sg.pY,e.sg.new,fun b u=>e.sg.own b (E b u)⟩
 tw:=e.tw.y3 fun b u=>(zD.1 u).elim (fun h=>zH _ (E b h)) fun h=>zI _ h
 node:=e.node.j6 fun b u=>.inl (by simp only[Zo,zD,zG] at u⊢;rcases u with (u|u|u|u)|u;simp[u];simp[u];simp[E b u];simp[u];simp[u])
 sep:=fun b u=>e.sep b (E b u)
 cG:=e.cG
 cT:=e.cT
 cM:=e.cM
def GC{L:List (Nat×Obj)}{q vb:Nat}{o:Obj}(h:L[q]?=some (vb,o)):vb∈fh L:=mem_map.2 ⟨_,yF h,rfl⟩
def Ed.cQ(e:Ed dbk pb FD D j S0 N0 w0 w (fh L) Y F M x n B)(h:dQ T wa w L)(hi:i<=n.J6.length)(U:ii=i)(V:n.J6.length<=100000)(q:Nat)(R:L[q]?=some (vb,.cells #[fU ks] T' (0,0)))(hk:eE (Zo FD (fh L++(B++Y)) F) w ks key)(hB:eH key)(kk:∀E B' w',Ed dbk pb FD D j S0 N0 w0 w' (fh L) Y F M (x.1,E,x.2.2) { n with J6:=fK n.J6 i key } B'->dQ (fh L) w' w' L->mG FD Y F B B' (fh L) w w'->K E w'): cW 165 [x.2.1.v,.i ii,.slice (pW vb) 1 1] di w K:=by obtain⟨Bk,G,u,J⟩:=e.node.rh;refine G.ins (fun b G=>e.rd b (u b G)) hi U V (h.at R) (fun hm=>e.sep vb (GC R) (u vb hm)) hk fun E Bk' w' hz f nk=>?_;obtain⟨B',I,hN⟩:=J E _ Bk' w' f (fun b G=>e.rd b (u b G)) nk fun a ha=>(Dk ha).elim (fun h=>by rw[h];exact hB) (e.node.2.1.1 a);obtain⟨e',h'⟩:=e.na h u f (hN _ (e.fq I) (hz _ (e.fq I))) I;exact kk E B' w' e' h' (e.jS u f I)
def Ed.sQ(e:Ed dbk pb FD D j S0 N0 w0 w (fh L) Y F M x n B)(h:dQ T wa w L)(hi:i<=n.Q0.length)(U:ii=i)(V:n.Q0.length<=100000)(q:Nat)(R:L[q]?=some (vb,.cells #[fU ks] T' (0,0)))(hk:eE (Zo FD (fh L++(B++Y)) F) w ks key)(hB:eH key)(kk:∀E B' w',Ed dbk pb FD D j S0 N0 w0 w' (fh L) Y F M (x.1,x.2.1,E,x.2.2.2) { n with Q0:=fK n.Q0 i key } B'->dQ (fh L) w' w' L->mG FD Y F B B' (fh L) w w'->K E w'): cW 165 [x.2.2.1.v,.i ii,.slice (pW vb) 1 1] di w K:=by obtain⟨Bk,G,u,J⟩:=e.node.qQ;refine G.ins (fun b G=>e.rd b (u b G)) hi U V (h.at R) (fun hm=>e.sep vb (GC R) (u vb hm)) hk fun E Bk' w' hz f nk=>?_;obtain⟨B',I,hN⟩:=J E _ Bk' w' f (fun b G=>e.rd b (u b G)) nk fun a ha=>(Dk ha).elim (fun h=>by rw[h];exact hB) (e.node.2.1.2.1 a);obtain⟨e',h'⟩:=e.na h u f (hN _ (e.fq I) (hz _ (e.fq I))) I;exact kk E B' w' e' h' (e.jS u f I)
def Ed.sK{I:Int}(e:Ed dbk pb FD D j S0 N0 w0 w (fh L) Y F M x n B)(h:dQ T wa w L)(hi:i<=n.J9.length)(he:ii=i)(hl:n.J9.length<=100000)(q:Nat)(V:L[q]?=some (vb,.cells #[.u I] T' (0,0)))(hB:gI I)(kk:∀G B' w',Ed dbk pb FD D j S0 N0 w0 w' (fh L) Y F M (x.1,x.2.1,x.2.2.1,G) { n with J9:=fK n.J9 i I } B'->dQ (fh L) w' w' L->mG FD Y F B B' (fh L) w w'->K G w'): cW 167 [x.2.2.2.v,.i ii,.slice (pW vb) 1 1] di w K:=by obtain⟨Bk,J,E,R⟩:=e.node.qR;refine qt9 J hi he hl (h.at V) (fun hm=>e.sep vb (GC V) (E vb hm)) fun G Bk' w' hz f nk=>?_;obtain⟨B',U,hN⟩:=R G _ Bk' w' f (fun b J=>e.rd b (E b J)) nk fun a ha=>(Dk ha).elim (fun h=>by rw[h];exact hB) (e.node.2.1.2.2 a);obtain⟨e',h'⟩:=e.na h E f (hN _ (e.fq U) hz) U;exact kk G B' w' e' h' (e.jS E f U)
def Ed.A3(e:Ed dbk pb FD D j S0 N0 w0 w (fh L) Y F M x n B)(h:dQ T wa w L)(hi:i<n.J6.length)(R:ii=i)(U:jj=((i+1:Nat):Int))(V:n.J6.length<=100000)(kk:∀G B' w',Ed dbk pb FD D j S0 N0 w0 w' (fh L) Y F M (x.1,G,x.2.2) { n with J6:=gR n.J6 i } B'->dQ (fh L) w' w' L->mG FD Y F B B' (fh L) w w'->K G w'): cW 168 [x.2.1.v,.i ii,.i jj] di w K:=by obtain⟨Bk,E,u,J⟩:=e.node.rh;refine E.del (fun b E=>e.rd b (u b E)) hi R U V fun G w' hz f=>?_;obtain⟨B',I,hN⟩:=J G _ Bk w' f (fun b E=>e.rd b (u b E)) (fun b E=>.inl E) fun a ha=>e.node.2.1.1 a (Cx ha);obtain⟨e',h'⟩:=e.na h u f (hN _ (e.fq I) (hz _ (e.fq I))) I;exact kk G B' w' e' h' (e.jS u f I)
def Ed.Ey(e:Ed dbk pb FD D j S0 N0 w0 w (fh L) Y F M x n B)(h:dQ T wa w L)(hi:i<n.Q0.length)(R:ii=i)(U:jj=((i+1:Nat):Int))(V:n.Q0.length<=100000)(kk:∀G B' w',Ed dbk pb FD D j S0 N0 w0 w' (fh L) Y F M (x.1,x.2.1,G,x.2.2.2) { n with Q0:=gR n.Q0 i } B'->dQ (fh L) w' w' L->mG FD Y F B B' (fh L) w w'->K G w'): cW 168 [x.2.2.1.v,.i ii,.i jj] di w K:=by obtain⟨Bk,E,u,J⟩:=e.node.qQ;refine E.del (fun b E=>e.rd b (u b E)) hi R U V fun G w' hz f=>?_;obtain⟨B',I,hN⟩:=J G _ Bk w' f (fun b E=>e.rd b (u b E)) (fun b E=>.inl E) fun a ha=>e.node.2.1.2.1 a (Cx ha);obtain⟨e',h'⟩:=e.na h u f (hN _ (e.fq I) (hz _ (e.fq I))) I;exact kk G B' w' e' h' (e.jS u f I)
def Ed.GO(e:Ed dbk pb FD D j S0 N0 w0 w (fh L) Y F M x n B)(h:dQ T wa w L)(hi:i<n.J9.length)(R:ii=i)(U:jj=((i+1:Nat):Int))(V:n.J9.length<=100000)(kk:∀E B' w',Ed dbk pb FD D j S0 N0 w0 w' (fh L) Y F M (x.1,x.2.1,x.2.2.1,E) { n with J9:=gR n.J9 i } B'->dQ (fh L) w' w' L->mG FD Y F B B' (fh L) w w'->K E w'): cW 239 [x.2.2.2.v,.i ii,.i jj] di w K:=by obtain⟨Bk,G,u,I⟩:=e.node.qR;refine qt6 G hi R U V fun E w' hz f=>?_;obtain⟨B',J,hN⟩:=I E _ Bk w' f (fun b G=>e.rd b (u b G)) (fun b G=>.inl G) fun a ha=>e.node.2.1.2.2 a (Cx ha);obtain⟨e',h'⟩:=e.na h u f (hN _ (e.fq J) hz) J;exact kk E B' w' e' h' (e.jS u f J)
def Ed.AG{K:WP}(e:Ed dbk pb FD D j S0 N0 w0 w (fh L) Y F M x n B)(h:dQ T wa w L)(hi:i<n.J6.length)(J:ii=i)(R:eE (Zo FD (fh L++(B++Y)) F) w ks key)(U:eH key)(V:∀B' w',Ed dbk pb FD D j S0 N0 w0 w' (fh L) Y F M (x.1,x.2.1,x.2.2) { n with J6:=n.J6.set i key } B'->dQ (fh L) w' w' L->mG FD Y F B B' (fh L) w w'->K w'): idx x.2.1 ii 1 fun a=>st a [ks.v] w K:=by
 obtain⟨Bk,E,u,I⟩:=e.node.rh;refine E.set (fun b E=>e.rd b (u b E)) hi J R fun w' hz f=>?_;obtain⟨B',G,hN⟩:=I x.2.1 _ Bk w' f (fun b E=>e.rd b (u b E)) (fun b E=>.inl E) fun a ha=>(mem_or_eq_of_mem_set ha).elim (e.node.2.1.1 a) fun h=>by rw[h];exact U
 obtain⟨e',h'⟩:=e.na h u f (hN _ (e.fq G) (hz _ (e.fq G))) G;exact V B' w' e' h' (e.jS u f G)
def Ed.E5{K:WP}(e:Ed dbk pb FD D j S0 N0 w0 w (fh L) Y F M x n B)(h:dQ T wa w L)(hi:i<n.Q0.length)(J:ii=i)(R:eE (Zo FD (fh L++(B++Y)) F) w ks key)(U:eH key)(V:∀B' w',Ed dbk pb FD D j S0 N0 w0 w' (fh L) Y F M (x.1,x.2.1,x.2.2.1,x.2.2.2) { n with Q0:=n.Q0.set i key } B'->dQ (fh L) w' w' L->mG FD Y F B B' (fh L) w w'->K w'): idx x.2.2.1 ii 1 fun a=>st a [ks.v] w K:=by
 obtain⟨Bk,E,u,I⟩:=e.node.qQ;refine E.set (fun b E=>e.rd b (u b E)) hi J R fun w' hz f=>?_;obtain⟨B',G,hN⟩:=I x.2.2.1 _ Bk w' f (fun b E=>e.rd b (u b E)) (fun b E=>.inl E) fun a ha=>(mem_or_eq_of_mem_set ha).elim (e.node.2.1.2.1 a) fun h=>by rw[h];exact U
 obtain⟨e',h'⟩:=e.na h u f (hN _ (e.fq G) (hz _ (e.fq G))) G;exact V B' w' e' h' (e.jS u f G)
def Ed.t6{I:Int}{K:WP}(e:Ed dbk pb FD D j S0 N0 w0 w (fh L) Y F M x n B)(h:dQ T wa w L)(hi:i<n.J9.length)(U:ii=i)(V:gI I)(kk:∀B' w',Ed dbk pb FD D j S0 N0 w0 w' (fh L) Y F M (x.1,x.2.1,x.2.2.1,x.2.2.2) { n with J9:=n.J9.set i I } B'->dQ (fh L) w' w' L->mG FD Y F B B' (fh L) w w'->K w'): idx x.2.2.2 ii 1 fun a=>st a [.u I] w K:=by
 obtain⟨Bk,G,E,J⟩:=e.node.qR;refine qAE G hi U fun w' hz f=>?_;obtain⟨B',R,hN⟩:=J x.2.2.2 _ Bk w' f (fun b G=>e.rd b (E b G)) (fun b G=>.inl G) fun a ha=>(mem_or_eq_of_mem_set ha).elim (e.node.2.1.2.2 a) fun h=>by rw[h];exact V
 obtain⟨e',h'⟩:=e.na h E f (hN _ (e.fq R) hz) R;exact kk B' w' e' h' (e.jS E f R)
def Ed.pF(e:Ed dbk pb FD D j S0 N0 w0 w (fh L) Y F M x n B)(h:dQ T wa w L)(R:n.J6.length<=100000)(q:Nat)(U:L[q]?=some (vb,.cells #[fU ks] T' (0,0)))(V:eE (Zo FD (fh L++(B++Y)) F) w ks key)(hB:eH key)(kk:∀E B' w',Ed dbk pb FD D j S0 N0 w0 w' (fh L) Y F M (x.1,E,x.2.2) { n with J6:=n.J6++[key] } B'->dQ (fh L) w' w' L->mG FD Y F B B' (fh L) w w'->K E w'): Pt.run di ((Builtin.append_ #[171,171] 171 #[x.2.1.v,.slice (pW vb) 1 1]).run prog w) K:=by
 obtain⟨Bk,G,u,J⟩:=e.node.rh;refine G.B0 (fun b G=>e.rd b (u b G)) R (h.at U) V fun E Bk' w' hz f nk=>?_;obtain⟨B',I,hN⟩:=J E _ Bk' w' f (fun b G=>e.rd b (u b G)) nk fun a ha=>(zD.1 ha).elim (e.node.2.1.1 a) fun h=>by rw[zE.1 h];exact hB
 obtain⟨e',h'⟩:=e.na h u f (hN _ (e.fq I) (hz _ (e.fq I))) I;exact kk E B' w' e' h' (e.jS u f I)
def Ed.wI(e:Ed dbk pb FD D j S0 N0 w0 w (fh L) Y F M x n B)(h:dQ T wa w L)(R:n.Q0.length<=100000)(q:Nat)(U:L[q]?=some (vb,.cells #[fU ks] T' (0,0)))(V:eE (Zo FD (fh L++(B++Y)) F) w ks key)(hB:eH key)(kk:∀E B' w',Ed dbk pb FD D j S0 N0 w0 w' (fh L) Y F M (x.1,x.2.1,E,x.2.2.2) { n with Q0:=n.Q0++[key] } B'->dQ (fh L) w' w' L->mG FD Y F B B' (fh L) w w'->K E w'): Pt.run di ((Builtin.append_ #[171,171] 171 #[x.2.2.1.v,.slice (pW vb) 1 1]).run prog w) K:=by
 obtain⟨Bk,G,u,J⟩:=e.node.qQ;refine G.B0 (fun b G=>e.rd b (u b G)) R (h.at U) V fun E Bk' w' hz f nk=>?_;obtain⟨B',I,hN⟩:=J E _ Bk' w' f (fun b G=>e.rd b (u b G)) nk fun a ha=>(zD.1 ha).elim (e.node.2.1.2.1 a) fun h=>by rw[zE.1 h];exact hB
 obtain⟨e',h'⟩:=e.na h u f (hN _ (e.fq I) (hz _ (e.fq I))) I;exact kk E B' w' e' h' (e.jS u f I)
def Ed.wo{I:Int}(e:Ed dbk pb FD D j S0 N0 w0 w (fh L) Y F M x n B)(h:dQ T wa w L)(V:n.J9.length<=100000)(q:Nat)(hv:L[q]?=some (vb,.cells #[.u I] T' (0,0)))(hB:gI I)(kk:∀G B' w',Ed dbk pb FD D j S0 N0 w0 w' (fh L) Y F M (x.1,x.2.1,x.2.2.1,G) { n with J9:=n.J9++[I] } B'->dQ (fh L) w' w' L->mG FD Y F B B' (fh L) w w'->K G w'): Pt.run di ((Builtin.append_ #[172,172] 172 #[x.2.2.2.v,.slice (pW vb) 1 1]).run prog w) K:=by
 obtain⟨Bk,J,E,R⟩:=e.node.qR;refine qtl J V (h.at hv) fun G Bk' w' hz f nk=>?_;obtain⟨B',U,hN⟩:=R G _ Bk' w' f (fun b J=>e.rd b (E b J)) nk fun a ha=>(zD.1 ha).elim (e.node.2.1.2.2 a) fun h=>by rw[zE.1 h];exact hB
 obtain⟨e',h'⟩:=e.na h E f (hN _ (e.fq U) hz) U;exact kk G B' w' e' h' (e.jS E f U)
def Ed.vo(e:Ed dbk pb FD D j S0 N0 w0 w (fh L) Y F M x n B)(h:dQ T wa w L)(U:n.J6.length+ps.length<=100000)(V:ed gx 1 S w src (iy ps))(J:∀p∈ps,eE (Zo FD (fh L++(B++Y)) F) w p.1 p.2)(hB:∀a∈gf ps,eH a)(kk:∀E B' w',Ed dbk pb FD D j S0 N0 w0 w' (fh L) Y F M (x.1,E,x.2.2) { n with J6:=n.J6++gf ps } B'->dQ (fh L) w' w' L->mG FD Y F B B' (fh L) w w'->K E w'): Pt.run di ((Builtin.append_ #[171,171] 171 #[x.2.1.v,src.v]).run prog w) K:=by obtain⟨Bk,G,u,R⟩:=e.node.rh;refine G.ud (fun b G=>e.rd b (u b G)) U V J fun E Bk' w' hz f nk=>?_;obtain⟨B',I,hN⟩:=R E _ Bk' w' f (fun b G=>e.rd b (u b G)) nk fun a ha=>(zD.1 ha).elim (e.node.2.1.1 a) (hB a);obtain⟨e',h'⟩:=e.na h u f (hN _ (e.fq I) (hz _ (e.fq I))) I;exact kk E B' w' e' h' (e.jS u f I)
def Ed.uU(e:Ed dbk pb FD D j S0 N0 w0 w (fh L) Y F M x n B)(h:dQ T wa w L)(U:n.Q0.length+ps.length<=100000)(V:ed gx 1 S w src (iy ps))(J:∀p∈ps,eE (Zo FD (fh L++(B++Y)) F) w p.1 p.2)(hB:∀a∈gf ps,eH a)(kk:∀E B' w',Ed dbk pb FD D j S0 N0 w0 w' (fh L) Y F M (x.1,x.2.1,E,x.2.2.2) { n with Q0:=n.Q0++gf ps } B'->dQ (fh L) w' w' L->mG FD Y F B B' (fh L) w w'->K E w'): Pt.run di ((Builtin.append_ #[171,171] 171 #[x.2.2.1.v,src.v]).run prog w) K:=by obtain⟨Bk,G,u,R⟩:=e.node.qQ;refine G.ud (fun b G=>e.rd b (u b G)) U V J fun E Bk' w' hz f nk=>?_;obtain⟨B',I,hN⟩:=R E _ Bk' w' f (fun b G=>e.rd b (u b G)) nk fun a ha=>(zD.1 ha).elim (e.node.2.1.2.1 a) (hB a);obtain⟨e',h'⟩:=e.na h u f (hN _ (e.fq I) (hz _ (e.fq I))) I;exact kk E B' w' e' h' (e.jS u f I)
def Ed.vc{ys:List Int}(e:Ed dbk pb FD D j S0 N0 w0 w (fh L) Y F M x n B)(h:dQ T wa w L)(R:n.J9.length+ys.length<=100000)(U:ed iz 1 S w src ys)(V:∀y∈ys,gI y)(kk:∀E B' w',Ed dbk pb FD D j S0 N0 w0 w' (fh L) Y F M (x.1,x.2.1,x.2.2.1,E) { n with J9:=n.J9++ys } B'->dQ (fh L) w' w' L->mG FD Y F B B' (fh L) w w'->K E w'): Pt.run di ((Builtin.append_ #[172,172] 172 #[x.2.2.2.v,src.v]).run prog w) K:=by obtain⟨Bk,G,u,I⟩:=e.node.qR;refine qyQ G R U fun E Bk' w' hz f nk=>?_;obtain⟨B',J,hN⟩:=I E _ Bk' w' f (fun b G=>e.rd b (u b G)) nk fun a ha=>(zD.1 ha).elim (e.node.2.1.2.2 a) (V a);obtain⟨e',h'⟩:=e.na h u f (hN _ (e.fq J) hz) J;exact kk E B' w' e' h' (e.jS u f J)
end
end
section
def BY{D:dI}{M:dZ}(h:dJ D M k v p=(n,0)):fJ n k v:=by
 unfold dJ at h;split at h;rename_i u;exact absurd (congrArg (·.2) h) u
 have:=qr5 (kind:=(dH D M p).1) (b:=(dH D M p).2.1) (k:=k) (v:=v) (by rw[h])
 rw[h] at this;exact this
def uV(h:fJ n k v):n.J6.length<=498/\n.Q0.length<=498/\n.J9.length<=498/\(n.Q4=true->n.Q0.length=n.J6.length/\n.J6.length<=(dW k v).1)/\(n.Q4=false->n.J6.length+1=n.J9.length/\n.J9.length<=(dW k v).2/\2<=n.J9.length):=by
 have U:=AF (k:=k) (v:=v);obtain⟨_,_,_,u⟩:=h;cases J:n.Q4 with
 | true=>
  rw[J,if_pos rfl] at u;obtain⟨E,R,G,I⟩:=u;rw[E];exact⟨oJ,oJ,oL,fun _=>⟨I,G⟩,fun h=>nomatch h⟩
 | false=>
  rw[J,if_neg oM] at u;obtain⟨_,E,R,G,I⟩:=u;rw[E];exact⟨oJ,oL,oJ,fun h=>(nomatch h),fun _=>⟨I,G,R⟩⟩
section
variable {D:dI} {M M1:dZ} {k v f:Nat} {key val:Key} {p e0 e1:Int} {n:dL} {g:Grown}
def qx7(h:dJ D M k v p=(n,e0))(u:e0≠0):gY D k v key val (f+1) M p=((oj,e0),M):=by unfold gY;rw[h,if_pos u]
def qx8(h:dJ D M k v p=(n,0))(u:n.Q4=true)(E:n.J6[dN n.J6 key]?=some key):gY D k v key val (f+1) M p=gb k v M p { n with Q0:=n.Q0.set (dN n.J6 key) val } false:=by unfold gY;rw[h,if_neg (fun h=>h rfl),if_pos u,if_pos E]
def qwL(h:dJ D M k v p=(n,0))(u:n.Q4=true)(E:¬n.J6[dN n.J6 key]?=some key):gY D k v key val (f+1) M p=gb k v M p { n with J6:=fK n.J6 (dN n.J6 key) key,Q0:=fK n.Q0 (dN n.J6 key) val } true:=by unfold gY;rw[h,if_neg (fun h=>h rfl),if_pos u,if_neg E]
def qpY(h:dJ D M k v p=(n,0))(u:¬n.Q4=true)(E:gY D k v key val f M (n.J9.getD (eh n.J6 key) 0)=((g,e1),M1))(G:e1≠0):gY D k v key val (f+1) M p=((oj,e1),M1):=by unfold gY;rw[h,if_neg (fun h=>h rfl),if_neg u];dsimp only;rw[E,if_pos G]
def qwM(h:dJ D M k v p=(n,0))(u:¬n.Q4=true)(E:gY D k v key val f M (n.J9.getD (eh n.J6 key) 0)=((g,0),M1))(G:g.x5=n.J9.getD (eh n.J6 key) 0/\g.x4=0):gY D k v key val (f+1) M p=((⟨p,g.J8,[],0⟩,0),M1):=by unfold gY;rw[h,if_neg (fun h=>h rfl),if_neg u];dsimp only;rw[E,if_neg (fun h=>h rfl),if_pos G]
def qzw(h:dJ D M k v p=(n,0))(u:¬n.Q4=true)(E:gY D k v key val f M (n.J9.getD (eh n.J6 key) 0)=((g,0),M1))(G:¬(g.x5=n.J9.getD (eh n.J6 key) 0/\g.x4=0)):gY D k v key val (f+1) M p=gb k v M1 p (gB n (eh n.J6 key) g) g.J8:=by unfold gY;rw[h,if_neg (fun h=>h rfl),if_neg u];dsimp only;rw[E,if_neg (fun h=>h rfl),if_neg G]
end
def qxZ(u:n.Q4=true)(E:n.Q0.length=n.J6.length):(eS n k v).1>(eS n k v).2->oo n ((eS n k v).1 / 2):=fun h=>by unfold oo;have e:(eS n k v).1=n.J6.length:=(by unfold eS;rw[if_pos u]);rw[if_pos u,E];rw[e] at h⊢;omega
def qwD(u:¬n.Q4=true)(E:n.J6.length+1=n.J9.length)(G:2<=n.J9.length):(eS n k v).1>(eS n k v).2->oo n ((eS n k v).1 / 2):=fun h=>by unfold oo;have e:(eS n k v).1=n.J9.length:=(by unfold eS;rw[if_neg u]);rw[if_neg u];rw[e] at h⊢;omega
def AP{α:Type}{l:List α}{x:α}(h:i<=l.length):(fK l i x).length=l.length+1:=by unfold fK;simp;omega
def ed.cR{l:List Int}{i:Int}{K:Addr->Int->Prop}(h:ed iz 1 S w s l)(n:Nat)(hi:i=n)(U:n<l.length)(V:∀a,(∀S' w',ed iz 1 S' w' s l->w'.cell? a=some (.u l[n]))->K a l[n]):idx s i 1 fun a=>ld .u a w fun y=>K a y:=by
 subst hi;have J:l[n]?=some l[n]:=zA U;obtain⟨hl,b,o,R,_,cs,T,fr,hb,hc⟩:=h.at n J;refine qv R ⟨oJ,oJ⟩ ?_;rw[zJ];have key:∀S' w',ed iz 1 S' w' s l->w'.cell? ⟨b,o+n*1,none⟩=some (.u l[n]):=fun S' w' h'=>by
  obtain⟨_,b',o',E,_,ab,T',ac,G,I⟩:=h'.at n J;rw[R] at E;cases E;rw[jq G]
  have:=congrArg (·[0]?) I
  simpa[iz] using this
 exact pK l[n] (key S w h) (V _ key)
section
variable {dbk pb j:Nat} {FD S0 N0 Y F F' F0 T B:List Nat} {D:dI} {w0 wa w w':World} {M M':dZ} {L:List (Nat×Obj)} {x:kj} {n:dL} {k v:Nat} {t:Int}
def Ed.load{w7:World}(E:∀b∈N0,b∈S0)(g:Sg S0 w0 wa F T)(h:dQ T wa w L)(I:TW dbk pb FD D j w7 (B++(fh L++Y)) F M)(J:fi (Zo FD (B++(fh L++Y)) F) w7 x n B)(f:Fr [] w w7)(G:∀c∈B,w.heap.size<=c)(R:∀b∈Y,b<w.heap.size): Ed dbk pb FD D j S0 N0 w0 w7 (fh L) Y F M x n B/\dQ (fh L) w7 w7 L:=by
 refine⟨⟨g.cC h f,I.y3 fun b u=>?_,J.j6 fun b u=>.inl ?_,fun b u U=>?_,fun b u=>.inr (zL (g.fr h).size (G b u)),E,fun b u V=>?_⟩,pG h f fun _ _ h=>nomatch h⟩;simp only[zD] at u⊢;rcases u with u|u|u<;>simp[u];simp only[Zo,zD,zG] at u⊢;rcases u with (u|u|u|u|u)|u<;>simp[u]
 have:=ws h b u;have:=G b U;omega
 have:=R b V;have:=G b u;omega
def Ed.y7(e:Ed dbk pb FD D j S0 N0 w0 w T Y F M x n B):ed iz 1 (Zo FD (T++Y) F) w x.2.2.2 n.J9:=e.cB.2.2.2.2
def Ed.fr(e:Ed dbk pb FD D j S0 N0 w0 w T Y F M x n B):Fr S0 w0 w:=e.sg.pY
def lL{L':List (Nat×Obj)}(h:dQ T wa w L)(u:L'.Sublist L):dQ (fh L') w w L':=(h.sub u).ls
def GW{ks vs:Sl}{key val:Key}(ag:eH key)(aj:eH val):∀(f:Nat) {Y F:List Nat} {w0:World} {M:dZ} {p:Int} {K:CW×Int->WP} (hT:TW dbk pb FD D j w0 Y F M) (hp:gI p) (hk:eE (Zo FD Y F) w0 ks key) (hv:eE (Zo FD Y F) w0 vs val) (an:(gY D k v key val f M p).1.2≠-1) (kk:∀gs F' w',GZ (gY D k v key val f M p).1.1->TW dbk pb FD D j w' Y F' (gY D k v key val f M p).2->eE (Zo FD Y F') w' gs (gY D k v key val f M p).1.1.key->Fr F w0 w'->(∀b∈F',b∈F\/w0.heap.size<=b)->K (tj (gY D k v key val f M p).1.1 gs,(gY D k v key val f M p).1.2) w'), cW 132 [.agg (nz (jD k v pb t)),.u p,ks.v,vs.v] [.agg pX,.one .i] w0 K
 | 0,_,_,_,_,_,_,_,_,_,_,an,_=>absurd rfl an
 | f+1,Y,F,w0,M,p,K,hT,hp,hk,hv,an,kk=>by
  refine qmO ?_;unfold Cu Ej Cq;have h:=oE [] w0;have g:=Sg.start F w0;refine oB h fun r1 w2 _ _ h=>oB h fun r3 w4 _ _ h=>oC h 1 rfl (jD k v pb t) rfl ?_;rcases U:dJ D M k v p with ⟨n,e0⟩;refine Bu (k:=k) (v:=v) (hT.cD h) hp fun x B w7 bh aM f7 bi=>?_;rw[U] at aM⊢;dsimp only at aM;obtain⟨e,h⟩:=Ed.load (N0:=[]) (fun _ h=>nomatch h) g h bh aM f7 bi fun b hb=>yD (hT.qx b hb) h.fr.size;refine oB h fun r8 w9 _ _ h=>oD h 0 rfl (eK x) fun bU h _=>dV (fun hc=>?_) (fun hc=>?_);have aX:e0≠0:=by rw[zT] at hc;exact zR.1 hc
  rw[qx7 U aX] at kk;exact oD h 1 rfl (pL (0,false,dG,0)) fun bj h _=>oC h 1 rfl (0,false,dG,0) rfl<|kk dG F bj FK (e.J0 h).qA.j7 (.nil _ _ _ _) (e.J0 h).fr (e.J0 h).sg.new;have bk:e0=0:=by rw[yE] at hc;exact yP.1 hc
  subst bk;have hr:=BY U;obtain⟨l1,l2,l3,l4,l5⟩:=uV hr;have e:=e.J0 h;have h:=lL h (.refl _);have aY:x.1=n.Q4:=e.node.1;refine oA h 0 rfl x.1 rfl<|dV (fun hc=>?_) (fun hc=>?_);rw[aY] at hc;obtain⟨l6,l7⟩:=l4 hc;refine oC h 0 rfl x rfl<|Cj e.cB (e.cV hk) ag hr.2.2.1 oJ fun bY bn=>?_;obtain⟨e,h⟩:=e.cC h bn;have ap:=FP n.J6 key;refine hU (fun _ w'=>∃x' n' B',dQ [r8,r3,r1] w' w' [(r8,.cells (eK x') ND (0,0)),(r3,.cells (pL (0,false,dG,0)) GR (0,0)),(r1,.cells (nz (jD k v pb t)) WK (0,0))]/\Ed dbk pb FD D j F [] w0 w' [r8,r3,r1] Y F M x' n' B'/\
   gY D k v key val (f+1) M p=gb k v M p n' (!decide (n.J6[dN n.J6 key]?=some key))/\n'.Q4=true/\n'.Q0.length=n'.J6.length/\n'.J6.length<=1000/\n'.J9.length<=1000) ?_ ?_
  refine dV (fun V=>?_) (fun V=>?_);have aO:=zC V;have bZ:=(zP.1 aO).1;refine oA h 0 rfl x.2.2.1 rfl<|e.E5 h (i:=dN n.J6 key) oJ rfl (e.cV hv) aj fun B' b0 e h _=>⟨x,_,B',h,e,?_,hc,by dsimp only;rw[xG];exact l6,by dsimp only;omega,by dsimp only;omega⟩;rw[qx8 U hc aO,yA aO];rfl;have aD:=zB V;have J:gY D k v key val (f+1) M p=gb k v M p { n with J6:=fK n.J6 (dN n.J6 key) key,Q0:=fK n.Q0 (dN n.J6 key) val } (!decide (n.J6[dN n.J6 key]?=some key)):=by rw[qwL U hc aD,zU aD];rfl
  have aq:(fK n.Q0 (dN n.J6 key) val).length=(fK n.J6 (dN n.J6 key) key).length:=(by rw[AP oJ,AP ap,l6]);have ar:(fK n.J6 (dN n.J6 key) key).length<=1000:=(by rw[AP ap];omega);refine⟨?_,?_,?_⟩;have h:=oF h;refine oA h 0 rfl x.2.1 rfl<|oA h 0 rfl x.2.2.1 rfl<|oB h fun b1 b2 _ _ h=>jU (h.cell 1 rfl rfl) (h.cell 1 rfl rfl) ?_;have e:=e.J0 h;refine e.cQ h (i:=dN n.J6 key) ap rfl oJ 0 rfl (e.cV hk) ag fun ac B1 aZ e h _=>ig (h.cell 1 rfl rfl)<|oB h fun b3 b4 _ _ h=>jU (h.cell 2 rfl rfl) (h.cell 2 rfl rfl) ?_;have e:=e.J0 h;exact e.sQ h (i:=dN n.J6 key) oN rfl oN 0 rfl (e.cV hv) aj fun au B2 a0 e h _=>oD h 2 rfl (eK (x.1,ac,x.2.2.1,x.2.2.2)) fun a1 h _=>oD h 2 rfl (eK (x.1,ac,au,x.2.2.2)) fun a2 h _=>⟨_,_,B2,lL h (.cons _ (.cons _ (.refl _))),(e.J0 h).sub oL,J,hc,aq,ar,by dsimp only;omega⟩;have h:=oF h;refine oA h 0 rfl x.2.1 rfl<|oA h 0 rfl x.2.2.1 rfl<|oB h fun b5 b6 _ _ h=>jU (h.cell 1 rfl rfl) (h.cell 1 rfl rfl)<|oB h fun b7 b8 _ _ h=>jU (h.cell 2 rfl rfl) (h.cell 2 rfl rfl) ?_;have e:=e.J0 h;exact e.cQ h (i:=dN n.J6 key) ap rfl oJ 1 rfl (e.cV hk) ag fun ac B1 aZ e h _=>ig (h.cell 2 rfl rfl)<|e.sQ h (i:=dN n.J6 key) oN rfl oN 0 rfl (e.cV hv) aj fun au B2 a0 e h _=>oD h 2 rfl (eK (x.1,ac,x.2.2.1,x.2.2.2)) fun a1 h _=>oD h 2 rfl (eK (x.1,ac,au,x.2.2.2)) fun a2 h _=>⟨_,_,B2,lL h (.cons _ (.cons _ (.refl _))),(e.J0 h).sub oL,J,hc,aq,ar,by dsimp only;omega⟩;have h:=oF h;refine oA h 0 rfl x.2.1 rfl<|oA h 0 rfl x.2.2.1 rfl<|oB h fun b9 ca _ _ h=>jU (h.cell 1 rfl rfl) (h.cell 1 rfl rfl)<|oB h fun cc cd _ _ h=>jU (h.cell 2 rfl rfl) (h.cell 2 rfl rfl) ?_;have e:=e.J0 h;exact e.cQ h (i:=dN n.J6 key) ap rfl oJ 0 rfl (e.cV hk) ag fun ac B1 aZ e h _=>ig (h.cell 2 rfl rfl)<|e.sQ h (i:=dN n.J6 key) oN rfl oN 1 rfl (e.cV hv) aj fun au B2 a0 e h _=>oD h 2 rfl (eK (x.1,ac,x.2.2.1,x.2.2.2)) fun a1 h _=>oD h 2 rfl (eK (x.1,ac,au,x.2.2.2)) fun a2 h _=>⟨_,_,B2,lL h (.cons _ (.cons _ (.refl _))),(e.J0 h).sub oL,J,hc,aq,ar,by dsimp only;omega⟩;rintro _ ce ⟨x',n',B',h,e,J,m0,m1,m2,m3⟩;rw[J] at kk;refine oC h 2 rfl (jD k v pb t) rfl<|oC h 0 rfl x' rfl<|qqb (Y:=[r8,r3,r1]++Y) e.qA e.cB oJ oJ oJ (qxZ m0 m1) hp fun gs F' ch hG a3 E a4 bo=>?_;have g:=e.sg.next h a4 bo
  have h:=pG h a4 fun b hb=>e.qA.yf b (by simp at hb⊢;rcases hb with h|h|h<;>simp[h]);exact oG h 1 rfl (pL (tj (gb k v M p n' (!decide (n.J6[dN n.J6 key]?=some key))).1.1 gs)) rfl rfl (zO rfl) fun bp h _=>oC h 1 rfl (tj (gb k v M p n' (!decide (n.J6[dN n.J6 key]?=some key))).1.1 gs) rfl<|kk gs F' bp hG (a3.J0 h).j7 (FJ (pU E h)) (g.fr h) g.new
  ·rw[aY] at hc;have ak:¬n.Q4=true:=(by rw[hc];decide);obtain⟨l6,l7,l8⟩:=l5 hc;refine oC h 0 rfl x rfl<|Bm e.cB (e.cV hk) ag hr.2.2.1 oJ fun ci bq=>?_;obtain⟨e,h⟩:=e.cC h bq;have av:=Ak n.J6 key;generalize ay:eh n.J6 key=c at av⊢;have al:c<n.J9.length:=oJ;have aP:n.J9.getD c 0=n.J9[c]:=(by rw[yR,zA al];rfl);have hu:gI n.J9[c]:=e.node.2.1.2.2 _ (zX al);rcases aw:gY D k v key val f M n.J9[c] with ⟨⟨G,e1⟩,M1⟩;have ad:gY D k v key val f M (n.J9.getD (eh n.J6 key) 0)=((G,e1),M1):=(by rw[ay,aP];exact aw);have aF:e1≠-1:=fun h1=>by rw[h1] at ad;rw[qpY U ak ad oM] at an;exact an rfl
   refine⟨?a,?b⟩;case' a=>
    have h:=oF h;have e:=e.J0 h;refine oC h 2 rfl (jD k v pb t) rfl<|oA h 0 rfl x.2.2.2 rfl<|ed.cR e.y7 c rfl al fun bt hh=>GW ag aj f e.tw hu (e.cV hk) (e.cV hv) (by rw[aw];exact aF) fun gs F1 bu hG ae E aQ aR=>?_;rw[aw] at hG ae E⊢;obtain⟨e,h⟩:=e.next h ae aQ aR
    refine oB h fun ax bv _ _ h=>l9 (hh _ _ (e.J0 h).y7) (h.cell 1 rfl rfl) (h.cells 3 rfl rfl)<|oD h 0 rfl (pL (tj G gs)) fun a6 h _=>?_;have E:=pU E h;have e:=e.J0 h;have h:=lL h (.refl _)
   case' b=>
    have h:=oF h;have e:=e.J0 h;have h:=lL h (.refl _);refine oC h 2 rfl (jD k v pb t) rfl<|oA h 0 rfl x.2.2.2 rfl<|ed.cR e.y7 c rfl al fun bt hh=>oB h fun ax bv _ _ h=>?_;have e:=e.J0 h;refine l9 (hh _ _ e.y7) (h.cell 1 rfl rfl) (h.cells 3 rfl rfl)<|GW ag aj f e.tw hu (e.cV hk) (e.cV hv) (by rw[aw];exact aF) fun gs F1 bu hG ae E aQ aR=>?_;rw[aw] at hG ae E⊢;obtain⟨e,h⟩:=e.next h ae aQ aR
    refine oD h 0 rfl (pL (tj G gs)) fun a6 h _=>?_;have E:=pU E h;have e:=e.J0 h;have h:=lL h (.refl _)
   all_goals
    refine dV (fun V=>?_) (fun V=>?_);have a7:e1≠0:=by rw[zT] at V;exact zR.1 V
    rw[qpY U ak ad a7] at kk;exact oD h 2 rfl (pL (0,false,dG,0)) fun bx h _=>oC h 2 rfl (0,false,dG,0) rfl<|kk dG F1 bx FK (e.J0 h).qA.j7 (.nil _ _ _ _) (e.J0 h).fr (e.J0 h).sg.new;have bz:e1=0:=by rw[yE] at V;exact yP.1 V
    subst bz;refine hU (fun b w'=>b=decide (G.x5=n.J9[c]/\G.x4=0)/\w'=a6.drew) ?_ ?_;have h:=oF h;refine oA h 0 rfl G.x5 rfl<|oA h 1 rfl x.2.2.2 rfl<|ed.get (e.J0 h).y7 c rfl (zA al) (y:=n.J9[c]) rfl<|dV (fun I=>?_) (fun I=>?_);have I:G.x5=n.J9[c]:=yP.1 I;refine oA h 0 rfl G.x4 rfl ⟨?_,rfl⟩;rw[Bool.eq_iff_iff,yP,yN];exact⟨fun h=>⟨I,h⟩,fun h=>h.2⟩;have I:G.x5≠n.J9[c]:=zR.1 I;exact⟨(zU fun h=>I h.1).symm,rfl⟩;rintro bC bD ⟨rfl,rfl⟩;have h:=oF h;have E:=pU E h;have e:=e.J0 h;have h:=lL h (.refl _);refine dV (fun I=>?_) (fun I=>?_);have I:=zC I;rw[<- aP,<- ay] at I;rw[qwM U ak ad I] at kk;exact oA h 0 rfl G.J8 rfl<|oD h 2 rfl (pL (p,G.J8,dG,0)) fun a8 h _=>oC h 2 rfl (p,G.J8,dG,0) rfl<|kk dG F1 a8 ⟨hp,ui,.nil⟩ (e.J0 h).qA.j7 (.nil _ _ _ _) (e.J0 h).fr (e.J0 h).sg.new;have I:=zB I;rw[<- aP,<- ay] at I;have J:=qzw U ak ad I;rw[ay] at J;rw[J] at kk;refine oA h 1 rfl x.2.2.2 rfl<|oA h 0 rfl G.x5 rfl<|e.t6 h (i:=c) al rfl hG.x5 fun B1 bE e h kp=>?_;have E:=kp.cV _ _ E;refine hU (fun _ w'=>∃x' B',dQ [ax,r8,r3,r1] w' w' [(ax,.cells (pL (tj G gs)) GR (0,0)),(r8,.cells (eK x') ND (0,0)),(r3,.cells (pL (0,false,dG,0)) GR (0,0)),(r1,.cells (nz (jD k v pb t)) WK (0,0))]/\Ed dbk pb FD D j F [] w0 w' [ax,r8,r3,r1] Y F1 M1 x' (gB n c G) B'/\
     ¬(gB n c G).Q4=true/\(gB n c G).J6.length+1=(gB n c G).J9.length/\2<=(gB n c G).J9.length/\(gB n c G).J9.length<=1000/\(gB n c G).Q0.length<=1000) ?_ ?_
    refine oA h 0 rfl G.x4 rfl<|dV (fun aa=>?_) (fun aa=>?_);have aa:G.x4≠0:=by rw[zT] at aa;exact zR.1 aa
    have eg:gB n c G={ n with J9:=fK (n.J9.set c G.x5) (c+1) G.x4,J6:=fK n.J6 c G.key }:=(by unfold gB;rw[if_pos aa]);have ai:¬(gB n c G).Q4=true/\(gB n c G).J6.length+1=(gB n c G).J9.length/\2<=(gB n c G).J9.length/\(gB n c G).J9.length<=1000/\(gB n c G).Q0.length<=1000:=(by rw[eg];dsimp only;rw[AP av,AP (l:=n.J9.set c G.x5) (by rw[xG];omega),xG];exact⟨ak,oJ,oJ,oJ,oJ⟩);rw[eg] at ai⊢;have ew:wrap .i64 ((c:Int)+1)=((c+1:Nat):Int):=rz oJ;rw[ew];refine⟨?_,?_,?_⟩;have h:=oF h;refine oA h 1 rfl x.2.2.2 rfl<|oA h 0 rfl G.x4 rfl<|oA h 1 rfl x.2.1 rfl<|oA h 0 rfl gs rfl<|oB h fun bF bG _ _ h=>l9 (h.cell 1 rfl rfl) (h.cell 2 rfl rfl) (h.cell 2 rfl rfl) ?_;have E:=pU E h;have e:=e.J0 h;refine e.sK h (i:=c+1) (by dsimp only;rw[xG];omega) rfl (by dsimp only;rw[xG];omega) 0 rfl hG.x4 fun R B2 aG e h kp=>?_;have E:=kp.cV _ _ E;refine jU (h.cell 1 rfl rfl) (h.cell 2 rfl rfl)<|oB h fun bH bI _ _ h=>l9 (h.cell 3 rfl rfl) (h.cell 2 rfl rfl) (h.cell 3 rfl rfl) ?_;have E:=pU E h;have e:=e.J0 h;exact e.cQ h (i:=c) av rfl oN 0 rfl E hG.key fun af B3 aH e h _=>oD h 3 rfl (eK (x.1,x.2.1,x.2.2.1,R)) fun aI h _=>oD h 3 rfl (eK (x.1,af,x.2.2.1,R)) fun aJ h _=>⟨_,B3,lL h (.cons _ (.cons _ (.refl _))),(e.J0 h).sub oL,ai⟩;have h:=oF h;refine oA h 1 rfl x.2.2.2 rfl<|oA h 0 rfl G.x4 rfl<|oA h 1 rfl x.2.1 rfl<|oA h 0 rfl gs rfl<|oB h fun bJ bK _ _ h=>l9 (h.cell 1 rfl rfl) (h.cell 2 rfl rfl) (h.cell 2 rfl rfl)<|oB h fun bL bM _ _ h=>l9 (h.cell 3 rfl rfl) (h.cell 2 rfl rfl) (h.cell 3 rfl rfl) ?_;have E:=pU E h;have e:=e.J0 h;refine e.sK h (i:=c+1) (by dsimp only;rw[xG];omega) rfl (by dsimp only;rw[xG];omega) 1 rfl hG.x4 fun R B2 aG e h kp=>?_;have E:=kp.cV _ _ E;exact jU (h.cell 2 rfl rfl) (h.cell 3 rfl rfl)<|e.cQ h (i:=c) av rfl oN 0 rfl E hG.key fun af B3 aH e h _=>oD h 3 rfl (eK (x.1,x.2.1,x.2.2.1,R)) fun aI h _=>oD h 3 rfl (eK (x.1,af,x.2.2.1,R)) fun aJ h _=>⟨_,B3,lL h (.cons _ (.cons _ (.refl _))),(e.J0 h).sub oL,ai⟩;have h:=oF h;refine oA h 1 rfl x.2.2.2 rfl<|oA h 0 rfl G.x4 rfl<|oA h 1 rfl x.2.1 rfl<|oA h 0 rfl gs rfl<|oB h fun bN bO _ _ h=>l9 (h.cell 2 rfl rfl) (h.cell 1 rfl rfl) (h.cell 2 rfl rfl)<|oB h fun bP bQ _ _ h=>l9 (h.cell 2 rfl rfl) (h.cell 3 rfl rfl) (h.cell 3 rfl rfl) ?_;have E:=pU E h;have e:=e.J0 h;refine e.sK h (i:=c+1) (by dsimp only;rw[xG];omega) rfl (by dsimp only;rw[xG];omega) 0 rfl hG.x4 fun R B2 aG e h kp=>?_;have E:=kp.cV _ _ E;exact jU (h.cell 2 rfl rfl) (h.cell 3 rfl rfl)<|e.cQ h (i:=c) av rfl oN 1 rfl E hG.key fun af B3 aH e h _=>oD h 3 rfl (eK (x.1,x.2.1,x.2.2.1,R)) fun aI h _=>oD h 3 rfl (eK (x.1,af,x.2.2.1,R)) fun aJ h _=>⟨_,B3,lL h (.cons _ (.cons _ (.refl _))),(e.J0 h).sub oL,ai⟩;have aa:¬G.x4≠0:=(by rw[yE] at aa;exact fun hh=>hh (yP.1 aa));have eg:gB n c G={ n with J9:=n.J9.set c G.x5 }:=(by unfold gB;rw[if_neg aa]);rw[eg];exact⟨x,B1,h,e,ak,by dsimp only;rw[xG];omega,by dsimp only;rw[xG];omega,by dsimp only;rw[xG];omega,by dsimp only;omega⟩;rintro _ bR ⟨x',B',h,e,q1,q2,q3,q4,q5⟩;refine oC h 3 rfl (jD k v pb t) rfl<|oC h 1 rfl x' rfl<|oA h 0 rfl G.J8 rfl<|qqb (Y:=[ax,r8,r3,r1]++Y) e.qA e.cB oJ oJ oJ (qwD q1 q2 q3) hp fun aU F2 bS bA aV a' aK ba=>?_;have g:=e.sg.next h aK ba
    have h:=pG h aK fun b hb=>e.qA.yf b (by simp at hb⊢;rcases hb with h|h|h|h<;>simp[h]);exact oG h 2 rfl (pL (tj (gb k v M1 p (gB n c G) G.J8).1.1 aU)) rfl rfl (zO rfl) fun bb h _=>oC h 2 rfl (tj (gb k v M1 p (gB n c G) G.J8).1.1 aU) rfl<|kk aU F2 bb bA (aV.J0 h).j7 (FJ (pU a' h)) (g.fr h) g.new
end
end
section
def qw{H u E G:WP}{K:Prop}(h:H w)(I:u w)(J:E w)(R:G w)(k:K):held [H,u,E,G] w K:=by unfold held;exact⟨⟨h,I,J,R⟩,k⟩
structure pO (S0 Z:List Nat) (w:World) (x:kj) (n:dL) (pk pv:py):Prop where
 lens:oc x n
 nb:NB n
 J6:gf pk=n.J6
 Q0:gf pv=n.Q0
 rk:ed gx 1 S0 w x.2.1 (iy pk)
 rv:ed gx 1 S0 w x.2.2.1 (iy pv)
 ri:ed iz 1 S0 w x.2.2.2 n.J9
 ek:∀ p∈pk,eE Z w p.1 p.2
 ev:∀ p∈pv,eE Z w p.1 p.2
section
variable {S S0 S0' Z Z' B:List Nat} {w w':World} {x:kj} {n:dL} {pk pv:py}
def fi.A7(h:fi Z w x n B)(E:∀b∈B,b∉S0):∃pk pv,pO S0 Z w x n pk pv:=by have I:eB [] w x n:=h.rd (fun _ _ h=>(nomatch h)) fun _ h=>nomatch h;have J:=I.lens;obtain⟨h0,G,Bk,Bv,Bi,rfl,R,⟨pk,U,V,k3⟩,⟨pv,v1,v2,v3⟩,hi⟩:=h;exact⟨pk,pv,J,G,V,v2,U.jw vr fun b u=>E b (by simp[u]),v1.jw vr fun b u=>E b (by simp[u]),hi.jw qZ fun b u=>E b (by simp[u]),k3,v3⟩
def pO.q8(h:pO S0 Z w x n pk pv)(f:Fr S w w')(I:∀b∈S,b∈S0)(G:∀b∈S,b∈Z)(E:mB S0 w S0')(R:mB Z w Z'):pO S0' Z' w' x n pk pv where
 lens:=h.lens
 nb:=h.nb
 J6:=h.J6
 Q0:=h.Q0
 rk:=h.rk.q8 (f.mono fun b u _=>I b u) E
 rv:=h.rv.q8 (f.mono fun b u _=>I b u) E
 ri:=h.ri.q8 (f.mono fun b u _=>I b u) E
 ek:=fun p J=>(h.ek p J).q8 (f.mono fun b u _=>G b u) R
 ev:=fun p J=>(h.ev p J).q8 (f.mono fun b u _=>G b u) R
def pO.tA(h:pO S0 Z w x n pk pv):pk.length=n.J6.length:=by rw[<- h.J6,zK]
def pO.wJ(h:pO S0 Z w x n pk pv):pv.length=n.Q0.length:=by rw[<- h.Q0,zK]
def pO.rdK(h:pO S0 Z w x n pk pv)(u:∀b∈S0,b∈Z):js S0 w x.2.1 pk:=⟨h.rk,fun p E=>(h.ek p E).q8 (.refl _ _) fun b G=>.inl (u b G)⟩
def pO.rdV(h:pO S0 Z w x n pk pv)(u:∀b∈S0,b∈Z):js S0 w x.2.2.1 pv:=⟨h.rv,fun p E=>(h.ev p E).q8 (.refl _ _) fun b G=>.inl (u b G)⟩
def ed.cK{i:Int}{K:Addr->Sl->Prop}(h:ed gx 1 S w s (iy ps))(n:Nat)(hi:i=n)(R:n<ps.length)(U:∀a,(∀S' w',ed gx 1 S' w' s (iy ps)->w'.cell? a=some (.slice ps[n].1.a ps[n].1.len ps[n].1.cap))->K a ps[n].1):idx s i 1 fun a=>ld .slice a w fun y=>K a y:=by
 subst hi;have I:(iy ps)[n]?=some ps[n].1:=(by rw[zQ,zA R];rfl);obtain⟨hl,b,o,J,_,cs,T,fr,hb,hc⟩:=h.at n I;refine qv J ⟨oJ,oJ⟩ ?_;rw[zJ];have key:∀S' w',ed gx 1 S' w' s (iy ps)->w'.cell? ⟨b,o+n*1,none⟩=some (.slice ps[n].1.a ps[n].1.len ps[n].1.cap):=fun S' w' V=>by
  obtain⟨_,b',o',u,_,aa,T',ab,E,G⟩:=V.at n I;rw[J] at u;cases u;rw[jq E]
  have:=congrArg (·[0]?) G
  simpa[gx] using this
 exact pK ps[n].1 (key S w h) (U _ key)
def pO.mV(h:pO S0 Z w x n pk pv)(hi:i<pk.length):n.J6.getD i []=pk[i].2:=by rw[<- h.J6,wu hi]
def pO.rY(h:pO S0 Z w x n pk pv)(hi:i<pv.length):n.Q0.getD i []=pv[i].2:=by rw[<- h.Q0,wu hi]
def uy{n:dL}(hi:i<n.J9.length):n.J9.getD i 0=n.J9[i]:=by rw[yR,zA hi];rfl
end
structure gK (n:dL):Prop where
 Q4:n.Q4=true->n.Q0.length=n.J6.length
 inner:n.Q4=false->n.J9.length=n.J6.length+1
 J6:n.J6.length<=2000
 Q0:n.Q0.length<=2000
 J9:n.J9.length<=2000
section
variable {dbk pb j:Nat} {FD Y F Bl Br:List Nat} {D:dI} {w0:World} {M:dZ} {xl xr:kj} {nl nr:dL} {ks:Sl} {key:Key}
def zoT{b:Nat}(h:b∈T):b∈Zo FD (T++Y) F:=by simp[h]
def A1:∀b∈Zo FD Y F,b∈Zo FD (T++(Bl++Y)) F:=fun b h=>by simp only[Zo,zD,zG] at h⊢;rcases h with (h|h|h)|h<;>simp[h]
def zi{α:Type}(l:List α)(x:α):fK l 0 x=x::l:=by unfold fK;simp
def qxO{K:kj×kj×Sl->WP}(hT:TW dbk pb FD D j w0 (Br++(Bl++Y)) F M)(hl:fi (Zo FD (Br++(Bl++Y)) F) w0 xl nl Bl)(hr:fi (Zo FD (Br++(Bl++Y)) F) w0 xr nr Br)(d1:∀b∈Br,b∉Bl)(d2:∀b∈Br,b∉Y)(d3:∀b∈Bl,b∉Y)(hk:eE (Zo FD (Br++(Bl++Y)) F) w0 ks key)(ax:eH key)(bf:nl.Q4=nr.Q4)(h1:1<=nl.J6.length)(sl:gK nl)(sr:gK nr)(kk:∀yl yr aD w',TW dbk pb FD D j w' Y F M->eB (Zo FD Y F) w' yl (iX nl nr key).1->eB (Zo FD Y F) w' yr (iX nl nr key).2.1->eE (Zo FD Y F) w' aD (iX nl nr key).2.2->Fr (Br++F) w0 w'->K (yl,yr,aD) w'): cW 204 [.agg (eK xl),.agg (eK xr),ks.v] [.agg dY,.agg dY,.one .slice] w0 K:=by
 refine qso ?_;unfold DE DC;obtain⟨pk,pv,o⟩:=hl.A7 (S0:=Br++Zo FD Y F) fun b u hm=>by rcases zD.1 hm with hm|hm;exact d1 b hm u;have h0:=hT.sep b (by simp[u]);simp only[Zo,zD,zG] at hm;rcases hm with (hm|hm|hm)|hm;exact h0.1 hm;exact h0.2 hm;exact d3 b u hm;exact hT.yf b (by simp[u]) hm
 have e0:Ed dbk pb FD D j (Br++F) Br w0 w0 [] (Bl++Y) F M xr nr Br:=⟨⟨.refl _ _,fun b u=>.inl (by simp[u]),fun _ h=>nomatch h⟩,hT,hr,fun _ h=>(nomatch h),fun b u=>.inl u,fun b u=>by simp[u],fun b u hm=>(zD.1 hm).elim (d1 b u) (d2 b u)⟩;have ae:∀b∈Br++Zo FD Y F,b∈Zo FD (Br++(Bl++Y)) F:=fun b u=>by simp only[Zo,zD,zG] at u⊢;rcases u with u|(u|u|u)|u<;>simp[u]
 have af:∀b∈Br++F,b∈Br++Zo FD Y F:=fun b u=>by simp only[Zo,zD,zG] at u⊢;rcases u with u|u<;>simp[u]
 have nZ:∀ {w' T x' n' B'},Ed dbk pb FD D j (Br++F) Br w0 w' T (Bl++Y) F M x' n' B'->mB (Zo FD (Br++(Bl++Y)) F) w0 (Zo FD (T++(B'++(Bl++Y))) F):=fun e b u=>by simp only[Zo,zD,zG] at u;rcases u with (u|u|u|u|u|u)|u;exact .inl (by simp[u]);exact .inl (by simp[u]);exact (e.sg.own b u).imp (fun h=>ae b (af b h)) id;exact (e.cG b u).imp (fun h=>ae b (af b (e.cT b h))) id;exact .inl (by simp[u]);exact .inl (by simp[u]);exact .inl (by simp[u])
 have U:∀ {w' T x' n' B'},Ed dbk pb FD D j (Br++F) Br w0 w' T (Bl++Y) F M x' n' B'->pO (Br++Zo FD Y F) (Zo FD (T++(B'++(Bl++Y))) F) w' xl nl pk pv:=fun e=>o.q8 e.fr af (fun b u=>ae b (af b u)) (fun b u=>.inl u) (nZ e);have aE:=o.rdK ae;have aF:=o.rdV ae;have ag:∀ {w' T x' n' B'},Ed dbk pb FD D j (Br++F) Br w0 w' T (Bl++Y) F M x' n' B'->Fr (Br++Zo FD Y F) w0 w':=fun e=>e.fr.mono fun b u _=>af b u;have ah:∀b∈Zo FD Y F,b∈Br++Zo FD Y F\/w0.heap.size<=b:=fun b u=>.inl (zI _ u);have V:=o.lens;have kl:=o.tA;have vl:=o.wJ;have sk:=sl.J6;have bg:=sr.J6;have bh:=sr.Q0;have bi:=sr.J9;have aP:wrap .i64 ((xl.2.1.len:Int)-1)=((nl.J6.length-1:Nat):Int):=(by rw[V.J6,gq _ oJ];omega);have h:=oE [] w0;refine oB h fun r1 w2 _ _ h=>oB h fun r3 w4 _ _ h=>oB h fun r5 w6 _ _ h=>oB h fun r7 w8 _ _ h=>oA h 3 rfl xl.2.1 rfl<|oA h 3 rfl xl.1 rfl ?_;rw[aP];apply dV<;>intro hc
 ·rw[V.Q4] at hc;have bj:=sl.Q4 hc;have hG:iX nl nr key=({ nl with J6:=nl.J6.take (nl.J6.length-1),Q0:=nl.Q0.take (nl.J6.length-1) },{ nr with J6:=nl.J6.getD (nl.J6.length-1) []::nr.J6,Q0:=nl.Q0.getD (nl.J6.length-1) []::nr.Q0 },nl.J6.getD (nl.J6.length-1) []):=(by unfold iX;rw[if_pos hc]);have hi:nl.J6.length-1<pk.length:=oJ;have aa:nl.J6.length-1<pv.length:=oJ;rw[hG,o.mV hi,o.rY aa] at kk;have ad:eH pk[nl.J6.length-1].2:=(by rw[<- o.mV hi];exact tk o.nb.1 _);have az:eH pv[nl.J6.length-1].2:=(by rw[<- o.rY aa];exact tk o.nb.2.1 _);refine⟨?a1,?a2,?a3⟩;case' a1=>
   have h:=oF h;refine oA h 2 rfl xr.2.1 rfl<|oA h 3 rfl xl.2.1 rfl<|ed.cK ((o.rk).q7 h.fr) (nl.J6.length-1) rfl hi fun aj I=>oA h 2 rfl xr.2.2.1 rfl<|oA h 3 rfl xl.2.2.1 rfl<|ed.cK ((o.rv).q7 h.fr) (nl.J6.length-1) rfl aa fun aG ab=>oB h fun ak al _ _ h=>?_;have e:=e0.J0 h;refine qw (ab _ _ (U e).rv) (h.cell 4 rfl rfl) (h.cell 3 rfl rfl) (h.cell 3 rfl rfl)<|e.cQ h (i:=0) (yX _) rfl oJ 0 rfl ((U e).ek _ (zX hi)) ad fun E B1 am e h _=>l9 (ab _ _ (U e).rv) (h.cell 4 rfl rfl) (h.cell 3 rfl rfl)<|oB h fun an ao _ _ h=>?_;have e:=e.J0 h;refine qw (h.cell 4 rfl rfl) (I _ _ (U e).rk) (h.cell 5 rfl rfl) (h.cell 4 rfl rfl)<|e.sQ h (i:=0) (yX _) rfl oN 0 rfl ((U e).ev _ (zX aa)) az fun G B2 ap e h _=>?_
  case' a2=>
   have h:=oF h;refine oA h 2 rfl xr.2.1 rfl<|oA h 3 rfl xl.2.1 rfl<|ed.cK ((o.rk).q7 h.fr) (nl.J6.length-1) rfl hi fun aj I=>oA h 2 rfl xr.2.2.1 rfl<|oA h 3 rfl xl.2.2.1 rfl<|ed.cK ((o.rv).q7 h.fr) (nl.J6.length-1) rfl aa fun aG ab=>oB h fun ak al _ _ h=>qw (ab _ _ (U (e0.J0 h)).rv) (h.cell 4 rfl rfl) (h.cell 3 rfl rfl) (h.cell 3 rfl rfl)<|oB h fun an ao _ _ h=>?_;have e:=e0.J0 h;refine qw (h.cell 4 rfl rfl) (I _ _ (U e).rk) (h.cell 5 rfl rfl) (h.cell 4 rfl rfl)<|e.cQ h (i:=0) (yX _) rfl oJ 1 rfl ((U e).ek _ (zX hi)) ad fun E B1 am e h _=>l9 (ab _ _ (U e).rv) (h.cell 5 rfl rfl) (h.cell 4 rfl rfl)<|e.sQ h (i:=0) (yX _) rfl oN 0 rfl ((U e).ev _ (zX aa)) az fun G B2 ap e h _=>?_
  case' a3=>
   have h:=oF h;refine oA h 2 rfl xr.2.1 rfl<|oA h 3 rfl xl.2.1 rfl<|ed.cK ((o.rk).q7 h.fr) (nl.J6.length-1) rfl hi fun aj I=>oA h 2 rfl xr.2.2.1 rfl<|oA h 3 rfl xl.2.2.1 rfl<|ed.cK ((o.rv).q7 h.fr) (nl.J6.length-1) rfl aa fun aG ab=>oB h fun ak al _ _ h=>qw (h.cell 3 rfl rfl) (I _ _ (U (e0.J0 h)).rk) (h.cell 4 rfl rfl) (h.cell 3 rfl rfl)<|oB h fun an ao _ _ h=>?_;have e:=e0.J0 h;refine qw (ab _ _ (U e).rv) (h.cell 5 rfl rfl) (h.cell 4 rfl rfl) (h.cell 4 rfl rfl)<|e.cQ h (i:=0) (yX _) rfl oJ 0 rfl ((U e).ek _ (zX hi)) ad fun E B1 am e h _=>l9 (ab _ _ (U e).rv) (h.cell 5 rfl rfl) (h.cell 4 rfl rfl)<|e.sQ h (i:=0) (yX _) rfl oN 1 rfl ((U e).ev _ (zX aa)) az fun G B2 ap e h _=>?_
  all_goals
   refine oD h 4 rfl (eK (xr.1,E,xr.2.2.1,xr.2.2.2)) fun aR h _=>oD h 4 rfl (eK (xr.1,E,G,xr.2.2.2)) fun aT h _=>?_;have h:=oF h;refine oA h 5 rfl xl.2.1 rfl<|js.upto aE (nl.J6.length-1) rfl oJ fun J aq=>oA h 5 rfl xl.2.2.1 rfl<|js.upto aF (nl.J6.length-1) rfl oJ fun R ar=>oD h 5 rfl (eK (xl.1,J,xl.2.2.1,xl.2.2.2)) fun aU h _=>oD h 5 rfl (eK (xl.1,J,R,xl.2.2.2)) fun aV h _=>?_;have h:=oF h;refine oC h 5 rfl (xl.1,J,R,xl.2.2.2) rfl<|oC h 4 rfl (xr.1,E,G,xr.2.2.2) rfl<|oA h 4 rfl E rfl ?_;have e:=e.J0 h;have h:=lL h (.refl _);obtain⟨q0,qN,⟨qk,av,aJ⟩,q4,q5⟩:=e.cB;have aA:0<qk.length:=by
    have:=congrArg List.length aJ
    dsimp only at this;rw[zi,zK,yI] at this;omega
   have aW:qk[0].2=pk[nl.J6.length-1].2:=(by rw[<- wu aA,aJ];dsimp only;rw[zi];rfl);refine ed.cK av.1 0 rfl aA fun bk aK=>oD h 3 rfl (eK (xl.1,J,R,xl.2.2.2)) fun aX h _=>l9 (aK [] _ (av.1.q8 (h.fr.mono fun b u _=>zoT u) fun _ h=>nomatch h)) (h.cell 4 rfl rfl) (h.cells 4 rfl rfl)<|oD h 2 rfl (eK (xr.1,E,G,xr.2.2.2)) fun aB h _=>jU (aK [] _ (av.1.q8 (h.fr.mono fun b u _=>zoT u) fun _ h=>nomatch h)) (h.cell 4 rfl rfl)<|oC h 3 rfl (xl.1,J,R,xl.2.2.2) rfl<|oC h 2 rfl (xr.1,E,G,xr.2.2.2) rfl ?_;have aw:=pU (av.2 _ (zX aA)) h;rw[aW] at aw;have e:=e.J0 h;have hR:=e.cB.j6 (S':=Zo FD Y F) fun b u=>.inl (A1 b u);rw[zi,zi] at hR;exact kk (xl.1,J,R,xl.2.2.2) (xr.1,E,G,xr.2.2.2) _ aB (e.qA.y3 fun b u=>by simp[u]) ⟨V.Q4,⟨fun a ha=>o.nb.1 a (yV ha),fun a ha=>o.nb.2.1 a (yV ha),o.nb.2.2⟩,⟨_,aq.q8 (ag e) ah,by rw[yc,o.J6]⟩,⟨_,ar.q8 (ag e) ah,by rw[yc,o.Q0]⟩,o.ri.q8 (ag e) ah⟩
    hR (aw.q8 (.refl _ _) fun b u=>.inl (A1 b u)) e.fr
 ·rw[V.Q4] at hc;have aY:¬nl.Q4=true:=(by rw[hc];decide);have il:=sl.inner hc;have hG:iX nl nr key=({ nl with J6:=nl.J6.take (nl.J6.length-1),J9:=nl.J9.take (nl.J6.length-1+1) },{ nr with J6:=key::nr.J6,J9:=nl.J9.getD (nl.J6.length-1+1) 0::nr.J9 },nl.J6.getD (nl.J6.length-1) []):=(by unfold iX;rw[if_neg aY]);have hi:nl.J6.length-1<pk.length:=oJ;have au:nl.J6.length-1+1<nl.J9.length:=oJ;rw[hG,o.mV hi,uy au] at kk;have ad:gI nl.J9[nl.J6.length-1+1]:=o.nb.2.2 _ (zX au);have aZ:wrap .i64 (((nl.J6.length-1:Nat):Int)+1)=((nl.J6.length-1+1:Nat):Int):=rz oJ;rw[aZ];have kw:∀ {w' T x' n' B'},Ed dbk pb FD D j (Br++F) Br w0 w' T (Bl++Y) F M x' n' B'->eE (Zo FD (T++(B'++(Bl++Y))) F) w' ks key:=fun e=>hk.q8 (e.fr.mono fun b u _=>ae b (af b u)) (nZ e);refine oA h 3 rfl xl.2.1 rfl<|ed.cK ((o.rk).q7 h.fr) (nl.J6.length-1) rfl hi fun a' ba=>⟨?b1,?b2,?b3⟩;case' b1=>
   have h:=oF h;refine oA h 2 rfl xr.2.1 rfl<|oA h 2 rfl xr.2.2.2 rfl<|oA h 3 rfl xl.2.2.2 rfl<|ed.cR ((o.ri).q7 h.fr) (nl.J6.length-1+1) rfl au fun aj I=>oB h fun ak al _ _ h=>?_;have e:=e0.J0 h;refine qw (I _ _ (U e).ri) (h.cell 4 rfl rfl) (h.cell 3 rfl rfl) (h.cell 3 rfl rfl)<|e.cQ h (i:=0) (yX _) rfl oJ 0 rfl (kw e) ax fun E B1 am e h _=>l9 (I _ _ (U e).ri) (h.cell 4 rfl rfl) (h.cell 3 rfl rfl)<|oB h fun an ao _ _ h=>?_;have e:=e.J0 h;refine jU (h.cell 4 rfl rfl) (h.cell 4 rfl rfl)<|e.sK h (i:=0) (yX _) rfl oN 0 rfl ad fun G B2 ap e h _=>?_
  case' b2=>
   have h:=oF h;refine oA h 2 rfl xr.2.1 rfl<|oA h 2 rfl xr.2.2.2 rfl<|oA h 3 rfl xl.2.2.2 rfl<|ed.cR ((o.ri).q7 h.fr) (nl.J6.length-1+1) rfl au fun aj I=>oB h fun ak al _ _ h=>qw (I _ _ (U (e0.J0 h)).ri) (h.cell 4 rfl rfl) (h.cell 3 rfl rfl) (h.cell 3 rfl rfl)<|oB h fun an ao _ _ h=>?_;have e:=e0.J0 h;refine jU (h.cell 4 rfl rfl) (h.cell 4 rfl rfl)<|e.cQ h (i:=0) (yX _) rfl oJ 1 rfl (kw e) ax fun E B1 am e h _=>l9 (I _ _ (U e).ri) (h.cell 5 rfl rfl) (h.cell 4 rfl rfl)<|e.sK h (i:=0) (yX _) rfl oN 0 rfl ad fun G B2 ap e h _=>?_
  case' b3=>
   have h:=oF h;refine oA h 2 rfl xr.2.1 rfl<|oA h 2 rfl xr.2.2.2 rfl<|oA h 3 rfl xl.2.2.2 rfl<|ed.cR ((o.ri).q7 h.fr) (nl.J6.length-1+1) rfl au fun aj I=>oB h fun ak al _ _ h=>jU (h.cell 3 rfl rfl) (h.cell 3 rfl rfl)<|oB h fun an ao _ _ h=>?_;have e:=e0.J0 h;refine qw (I _ _ (U e).ri) (h.cell 5 rfl rfl) (h.cell 4 rfl rfl) (h.cell 4 rfl rfl)<|e.cQ h (i:=0) (yX _) rfl oJ 0 rfl (kw e) ax fun E B1 am e h _=>l9 (I _ _ (U e).ri) (h.cell 5 rfl rfl) (h.cell 4 rfl rfl)<|e.sK h (i:=0) (yX _) rfl oN 1 rfl ad fun G B2 ap e h _=>?_
  all_goals
   refine oD h 4 rfl (eK (xr.1,E,xr.2.2.1,xr.2.2.2)) fun aR h _=>oD h 4 rfl (eK (xr.1,E,xr.2.2.1,G)) fun aT h _=>?_;have h:=oF h;refine oA h 5 rfl xl.2.1 rfl<|js.upto aE (nl.J6.length-1) rfl oJ fun J aq=>oA h 5 rfl xl.2.2.2 rfl<|ed.A2 o.ri (nl.J6.length-1+1) rfl oJ fun R ar=>oD h 5 rfl (eK (xl.1,J,xl.2.2.1,xl.2.2.2)) fun aU h _=>oD h 5 rfl (eK (xl.1,J,xl.2.2.1,R)) fun aV h _=>?_;have h:=oF h;refine oC h 5 rfl (xl.1,J,xl.2.2.1,R) rfl<|oC h 4 rfl (xr.1,E,xr.2.2.1,G) rfl<|oD h 3 rfl (eK (xl.1,J,xl.2.2.1,R)) fun aX h _=>ig (h.cells 4 rfl rfl)<|oD h 2 rfl (eK (xr.1,E,xr.2.2.1,G)) fun aB h _=>oC h 3 rfl (xl.1,J,xl.2.2.1,R) rfl<|oC h 2 rfl (xr.1,E,xr.2.2.1,G) rfl ?_;have e:=e.J0 h;have hR:=e.cB.j6 (S':=Zo FD Y F) fun b u=>.inl (A1 b u);rw[zi,zi] at hR;exact kk (xl.1,J,xl.2.2.1,R) (xr.1,E,xr.2.2.1,G) _ aB (e.qA.y3 fun b u=>by simp[u]) ⟨V.Q4,⟨fun a ha=>o.nb.1 a (yV ha),o.nb.2.1,fun a ha=>o.nb.2.2 a (yV ha)⟩,⟨_,aq.q8 (ag e) ah,by rw[yc,o.J6]⟩,⟨_,aF.q8 (ag e) ah,o.Q0⟩,ar.q8 (ag e) ah⟩
    hR (((U e).ek _ (zX hi)).q8 (.refl _ _) fun b u=>.inl (by simp only[Zo,zD,zG] at u⊢;rcases u with (u|u|u)|u<;>simp[u])) e.fr
end
end
section
section
variable {dbk pb j:Nat} {FD Y F Bl Br:List Nat} {D:dI} {w0:World} {M:dZ} {xl xr:kj} {nl nr:dL} {ks:Sl} {key:Key}
def qyn{K:kj×kj×Sl->WP}(hT:TW dbk pb FD D j w0 (Bl++(Br++Y)) F M)(hl:fi (Zo FD (Bl++(Br++Y)) F) w0 xl nl Bl)(hr:fi (Zo FD (Bl++(Br++Y)) F) w0 xr nr Br)(d1:∀b∈Bl,b∉Br)(d2:∀b∈Bl,b∉Y)(d3:∀b∈Br,b∉Y)(hk:eE (Zo FD (Bl++(Br++Y)) F) w0 ks key)(av:eH key)(aB:nl.Q4=nr.Q4)(h1:1<=nr.J6.length)(h2:nr.Q4=true->2<=nr.J6.length)(sl:gK nl)(sr:gK nr)(kk:∀yl yr aC w',TW dbk pb FD D j w' Y F M->eB (Zo FD Y F) w' yl (takeN nl nr key).1->eB (Zo FD Y F) w' yr (takeN nl nr key).2.1->eE (Zo FD Y F) w' aC (takeN nl nr key).2.2->Fr (Bl++F) w0 w'->K (yl,yr,aC) w'): cW 205 [.agg (eK xl),.agg (eK xr),ks.v] [.agg dY,.agg dY,.one .slice] w0 K:=by
 refine qsp ?_;unfold C1 Di;obtain⟨pk,pv,o⟩:=hr.A7 (S0:=Bl++Zo FD Y F) fun b u hm=>by rcases zD.1 hm with hm|hm;exact d1 b hm u;have h0:=hT.sep b (by simp[u]);simp only[Zo,zD,zG] at hm;rcases hm with (hm|hm|hm)|hm;exact h0.1 hm;exact h0.2 hm;exact d3 b u hm;exact hT.yf b (by simp[u]) hm
 have e0:Ed dbk pb FD D j (Bl++F) Bl w0 w0 [] (Br++Y) F M xl nl Bl:=⟨⟨.refl _ _,fun b u=>.inl (by simp[u]),fun _ h=>nomatch h⟩,hT,hl,fun _ h=>(nomatch h),fun b u=>.inl u,fun b u=>by simp[u],fun b u hm=>(zD.1 hm).elim (d1 b u) (d2 b u)⟩;have af:∀b∈Bl++Zo FD Y F,b∈Zo FD (Bl++(Br++Y)) F:=fun b u=>by simp only[Zo,zD,zG] at u⊢;rcases u with u|(u|u|u)|u<;>simp[u]
 have ag:∀b∈Bl++F,b∈Bl++Zo FD Y F:=fun b u=>by simp only[Zo,zD,zG] at u⊢;rcases u with u|u<;>simp[u]
 have nZ:∀ {w' T x' n' B'},Ed dbk pb FD D j (Bl++F) Bl w0 w' T (Br++Y) F M x' n' B'->mB (Zo FD (Bl++(Br++Y)) F) w0 (Zo FD (T++(B'++(Br++Y))) F):=fun e b u=>by simp only[Zo,zD,zG] at u;rcases u with (u|u|u|u|u|u)|u;exact .inl (by simp[u]);exact .inl (by simp[u]);exact (e.sg.own b u).imp (fun h=>af b (ag b h)) id;exact (e.cG b u).imp (fun h=>af b (ag b (e.cT b h))) id;exact .inl (by simp[u]);exact .inl (by simp[u]);exact .inl (by simp[u])
 have R:∀ {w' T x' n' B'},Ed dbk pb FD D j (Bl++F) Bl w0 w' T (Br++Y) F M x' n' B'->pO (Bl++Zo FD Y F) (Zo FD (T++(B'++(Br++Y))) F) w' xr nr pk pv:=fun e=>o.q8 e.fr ag (fun b u=>af b (ag b u)) (fun b u=>.inl u) (nZ e);have aD:=o.rdK af;have aE:=o.rdV af;have V:∀ {w' T x' n' B'},Ed dbk pb FD D j (Bl++F) Bl w0 w' T (Br++Y) F M x' n' B'->Fr (Bl++Zo FD Y F) w0 w':=fun e=>e.fr.mono fun b u _=>ag b u;have ah:∀b∈Zo FD Y F,b∈Bl++Zo FD Y F\/w0.heap.size<=b:=fun b u=>.inl (zI _ u);have ao:=o.lens;have kl:=o.tA;have vl:=o.wJ;have sk:=sr.J6;have bk:=sl.J6;have bl:=sl.Q0;have bm:=sl.J9;have h:=oE [] w0;refine oB h fun r1 w2 _ _ h=>oB h fun r3 w4 _ _ h=>oB h fun r5 w6 _ _ h=>oB h fun r7 w8 _ _ h=>oA h 3 rfl xl.1 rfl ?_;apply dV<;>intro hc
 ·rw[hl.1] at hc;have aF:nr.Q4=true:=(by rw[<- aB];exact hc);have h2:=h2 aF;have bn:=sr.Q4 aF;have hG:takeN nl nr key=({ nl with J6:=nl.J6++[nr.J6.getD 0 []],Q0:=nl.Q0++[nr.Q0.getD 0 []] },{ nr with J6:=nr.J6.drop 1,Q0:=nr.Q0.drop 1 },(nr.J6.drop 1).getD 0 []):=(by unfold takeN;rw[if_pos hc]);have hi:0<pk.length:=oJ;have aa:0<pv.length:=oJ;have ax:0<(pk.drop 1).length:=(by rw[yC];omega);have aZ:(nr.J6.drop 1).getD 0 []=(pk.drop 1)[0].2:=(by rw[<- o.J6,<- wM,wu ax]);rw[hG,o.mV hi,o.rY aa,aZ] at kk;have ae:eH pk[0].2:=(by rw[<- o.mV hi];exact tk o.nb.1 _);have ay:eH pv[0].2:=(by rw[<- o.rY aa];exact tk o.nb.2.1 _);refine⟨?a1,?a2,?a3⟩;case' a1=>
   have h:=oF h;refine oA h 3 rfl xl.2.1 rfl<|oA h 2 rfl xr.2.1 rfl<|ed.cK ((o.rk).q7 h.fr) 0 rfl hi fun aG aj=>oA h 3 rfl xl.2.2.1 rfl<|oA h 2 rfl xr.2.2.1 rfl<|ed.cK ((o.rv).q7 h.fr) 0 rfl aa fun aH ab=>oB h fun aI aJ _ _ h=>?_;have e:=e0.J0 h;refine qw (ab _ _ (R e).rv) (h.cell 3 rfl rfl) (h.cell 4 rfl rfl) (h.cell 4 rfl rfl)<|e.pF h oJ 0 rfl ((R e).ek _ (zX hi)) ae fun E B1 aL e h _=>l9 (ab _ _ (R e).rv) (h.cell 3 rfl rfl) (h.cell 4 rfl rfl)<|oB h fun aM aN _ _ h=>?_;have e:=e.J0 h;refine qw (h.cell 5 rfl rfl) (aj _ _ (R e).rk) (h.cell 4 rfl rfl) (h.cell 5 rfl rfl)<|e.wI h oN 0 rfl ((R e).ev _ (zX aa)) ay fun G B2 aP e h _=>?_
  case' a2=>
   have h:=oF h;refine oA h 3 rfl xl.2.1 rfl<|oA h 2 rfl xr.2.1 rfl<|ed.cK ((o.rk).q7 h.fr) 0 rfl hi fun aG aj=>oA h 3 rfl xl.2.2.1 rfl<|oA h 2 rfl xr.2.2.1 rfl<|ed.cK ((o.rv).q7 h.fr) 0 rfl aa fun aH ab=>oB h fun aI aJ _ _ h=>qw (ab _ _ (R (e0.J0 h)).rv) (h.cell 3 rfl rfl) (h.cell 4 rfl rfl) (h.cell 4 rfl rfl)<|oB h fun aM aN _ _ h=>?_;have e:=e0.J0 h;refine qw (h.cell 5 rfl rfl) (aj _ _ (R e).rk) (h.cell 4 rfl rfl) (h.cell 5 rfl rfl)<|e.pF h oJ 1 rfl ((R e).ek _ (zX hi)) ae fun E B1 aL e h _=>l9 (ab _ _ (R e).rv) (h.cell 4 rfl rfl) (h.cell 5 rfl rfl)<|e.wI h oN 0 rfl ((R e).ev _ (zX aa)) ay fun G B2 aP e h _=>?_
  case' a3=>
   have h:=oF h;refine oA h 3 rfl xl.2.1 rfl<|oA h 2 rfl xr.2.1 rfl<|ed.cK ((o.rk).q7 h.fr) 0 rfl hi fun aG aj=>oA h 3 rfl xl.2.2.1 rfl<|oA h 2 rfl xr.2.2.1 rfl<|ed.cK ((o.rv).q7 h.fr) 0 rfl aa fun aH ab=>oB h fun aI aJ _ _ h=>qw (h.cell 4 rfl rfl) (aj _ _ (R (e0.J0 h)).rk) (h.cell 3 rfl rfl) (h.cell 4 rfl rfl)<|oB h fun aM aN _ _ h=>?_;have e:=e0.J0 h;refine qw (ab _ _ (R e).rv) (h.cell 4 rfl rfl) (h.cell 5 rfl rfl) (h.cell 5 rfl rfl)<|e.pF h oJ 0 rfl ((R e).ek _ (zX hi)) ae fun E B1 aL e h _=>l9 (ab _ _ (R e).rv) (h.cell 4 rfl rfl) (h.cell 5 rfl rfl)<|e.wI h oN 1 rfl ((R e).ev _ (zX aa)) ay fun G B2 aP e h _=>?_
  all_goals
   refine oD h 5 rfl (eK (xl.1,E,xl.2.2.1,xl.2.2.2)) fun an h _=>oD h 5 rfl (eK (xl.1,E,G,xl.2.2.2)) fun a0 h _=>?_;have h:=oF h;refine oA h 4 rfl xr.2.1 rfl<|js.from aD 1 rfl oJ fun I U=>oA h 4 rfl xr.2.2.1 rfl<|js.from aE 1 rfl oJ fun J ak=>oD h 4 rfl (eK (xr.1,I,xr.2.2.1,xr.2.2.2)) fun a4 h _=>oD h 4 rfl (eK (xr.1,I,J,xr.2.2.2)) fun a5 h _=>?_;have h:=oF h;refine oC h 5 rfl (xl.1,E,G,xl.2.2.2) rfl<|oC h 4 rfl (xr.1,I,J,xr.2.2.2) rfl<|oA h 4 rfl I rfl<|ed.cK (U.q8 (V (e.J0 h)) fun b u=>.inl u).1 0 rfl ax fun bo aQ=>oD h 3 rfl (eK (xl.1,E,G,xl.2.2.2)) fun a6 h _=>l9 (aQ _ _ (U.q8 (V (e.J0 h)) fun b u=>.inl u).1) (h.cell 4 rfl rfl) (h.cells 4 rfl rfl)<|oD h 2 rfl (eK (xr.1,I,J,xr.2.2.2)) fun az h _=>jU (aQ _ _ (U.q8 (V (e.J0 h)) fun b u=>.inl u).1) (h.cell 4 rfl rfl)<|oC h 3 rfl (xl.1,E,G,xl.2.2.2) rfl<|oC h 2 rfl (xr.1,I,J,xr.2.2.2) rfl ?_;have e:=e.J0 h;have hR:=e.cB.j6 (S':=Zo FD Y F) fun b u=>.inl (A1 b u);have al:=U.q8 (V e) ah;exact kk (xl.1,E,G,xl.2.2.2) (xr.1,I,J,xr.2.2.2) _ az (e.qA.y3 fun b u=>by simp[u]) hR ⟨ao.Q4,⟨fun a ha=>o.nb.1 a (yU ha),fun a ha=>o.nb.2.1 a (yU ha),o.nb.2.2⟩,⟨_,al,by rw[wM,o.J6]⟩,⟨_,ak.q8 (V e) ah,by rw[wM,o.Q0]⟩,o.ri.q8 (V e) ah⟩
    (al.2 _ (zX ax)) e.fr
 ·rw[hl.1] at hc;have a8:¬nl.Q4=true:=(by rw[hc];decide);have il:=sr.inner (by rw[<- aB];exact hc);have hG:takeN nl nr key=({ nl with J6:=nl.J6++[key],J9:=nl.J9++[nr.J9.getD 0 0] },{ nr with J6:=nr.J6.drop 1,J9:=nr.J9.drop 1 },nr.J6.getD 0 []):=(by unfold takeN;rw[if_neg a8]);have hi:0<pk.length:=oJ;have am:0<nr.J9.length:=oJ;rw[hG,o.mV hi,uy am] at kk;have ae:gI nr.J9[0]:=o.nb.2.2 _ (zX am);have kw:∀ {w' T x' n' B'},Ed dbk pb FD D j (Bl++F) Bl w0 w' T (Br++Y) F M x' n' B'->eE (Zo FD (T++(B'++(Br++Y))) F) w' ks key:=fun e=>hk.q8 (e.fr.mono fun b u _=>af b (ag b u)) (nZ e);refine oA h 2 rfl xr.2.1 rfl<|ed.cK ((o.rk).q7 h.fr) 0 rfl hi fun bg bh=>⟨?b1,?b2,?b3⟩;case' b1=>
   have h:=oF h;refine oA h 3 rfl xl.2.1 rfl<|oA h 3 rfl xl.2.2.2 rfl<|oA h 2 rfl xr.2.2.2 rfl<|ed.cR ((o.ri).q7 h.fr) 0 rfl am fun aR ac=>oB h fun ap aq _ _ h=>?_;have e:=e0.J0 h;refine qw (ac _ _ (R e).ri) (h.cell 3 rfl rfl) (h.cell 4 rfl rfl) (h.cell 4 rfl rfl)<|e.pF h oJ 0 rfl (kw e) av fun E B1 aT e h _=>l9 (ac _ _ (R e).ri) (h.cell 3 rfl rfl) (h.cell 4 rfl rfl)<|oB h fun ar au _ _ h=>?_;have e:=e.J0 h;refine jU (h.cell 5 rfl rfl) (h.cell 5 rfl rfl)<|e.wo h oN 0 rfl ae fun G B2 an e h _=>?_
  case' b2=>
   have h:=oF h;refine oA h 3 rfl xl.2.1 rfl<|oA h 3 rfl xl.2.2.2 rfl<|oA h 2 rfl xr.2.2.2 rfl<|ed.cR ((o.ri).q7 h.fr) 0 rfl am fun aR ac=>oB h fun ap aq _ _ h=>qw (ac _ _ (R (e0.J0 h)).ri) (h.cell 3 rfl rfl) (h.cell 4 rfl rfl) (h.cell 4 rfl rfl)<|oB h fun ar au _ _ h=>?_;have e:=e0.J0 h;refine jU (h.cell 5 rfl rfl) (h.cell 5 rfl rfl)<|e.pF h oJ 1 rfl (kw e) av fun E B1 aT e h _=>l9 (ac _ _ (R e).ri) (h.cell 4 rfl rfl) (h.cell 5 rfl rfl)<|e.wo h oN 0 rfl ae fun G B2 an e h _=>?_
  case' b3=>
   have h:=oF h;refine oA h 3 rfl xl.2.1 rfl<|oA h 3 rfl xl.2.2.2 rfl<|oA h 2 rfl xr.2.2.2 rfl<|ed.cR ((o.ri).q7 h.fr) 0 rfl am fun aR ac=>oB h fun ap aq _ _ h=>jU (h.cell 4 rfl rfl) (h.cell 4 rfl rfl)<|oB h fun ar au _ _ h=>?_;have e:=e0.J0 h;refine qw (ac _ _ (R e).ri) (h.cell 4 rfl rfl) (h.cell 5 rfl rfl) (h.cell 5 rfl rfl)<|e.pF h oJ 0 rfl (kw e) av fun E B1 aT e h _=>l9 (ac _ _ (R e).ri) (h.cell 4 rfl rfl) (h.cell 5 rfl rfl)<|e.wo h oN 1 rfl ae fun G B2 an e h _=>?_
  all_goals
   refine oD h 5 rfl (eK (xl.1,E,xl.2.2.1,xl.2.2.2)) fun an h _=>oD h 5 rfl (eK (xl.1,E,xl.2.2.1,G)) fun a0 h _=>?_;have h:=oF h;refine oA h 4 rfl xr.2.1 rfl<|js.from aD 1 rfl oJ fun I U=>oA h 4 rfl xr.2.2.2 rfl<|ed.vM o.ri 1 rfl oJ fun J ak=>oD h 4 rfl (eK (xr.1,I,xr.2.2.1,xr.2.2.2)) fun a4 h _=>oD h 4 rfl (eK (xr.1,I,xr.2.2.1,J)) fun a5 h _=>?_;have h:=oF h;refine oC h 5 rfl (xl.1,E,xl.2.2.1,G) rfl<|oC h 4 rfl (xr.1,I,xr.2.2.1,J) rfl<|oD h 3 rfl (eK (xl.1,E,xl.2.2.1,G)) fun a6 h _=>ig (h.cells 4 rfl rfl)<|oD h 2 rfl (eK (xr.1,I,xr.2.2.1,J)) fun az h _=>oC h 3 rfl (xl.1,E,xl.2.2.1,G) rfl<|oC h 2 rfl (xr.1,I,xr.2.2.1,J) rfl ?_;have e:=e.J0 h;have hR:=e.cB.j6 (S':=Zo FD Y F) fun b u=>.inl (A1 b u);exact kk (xl.1,E,xl.2.2.1,G) (xr.1,I,xr.2.2.1,J) _ az (e.qA.y3 fun b u=>by simp[u]) hR ⟨ao.Q4,⟨fun a ha=>o.nb.1 a (yU ha),o.nb.2.1,fun a ha=>o.nb.2.2 a (yU ha)⟩,⟨_,U.q8 (V e) ah,by rw[wM,o.J6]⟩,⟨_,aE.q8 (V e) ah,o.Q0⟩,ak.q8 (V e) ah⟩
    (((R e).ek _ (zX hi)).q8 (.refl _ _) fun b u=>.inl (by simp only[Zo,zD,zG] at u⊢;rcases u with (u|u|u)|u<;>simp[u])) e.fr
end
end
section
section
variable {dbk pb j:Nat} {FD S S0 S1 N0 Y Y1 F F' T B Bl Br Bn:List Nat} {D:dI} {w0 wa w w':World} {M M':dZ} {L:List (Nat×Obj)} {x xl xr:kj} {n nl nr:dL} {k v:Nat} {t:Int}
def qzA(g:Sg S0 w0 wa F T)(u:∀b∈S0,b∈S1):Sg S1 w0 wa F T:=⟨g.pY.mono fun b h _=>u b h,fun b h=>(g.new b h).imp (u b) id,fun b h=>(g.own b h).imp (u b) id⟩
structure nO (FD F:List Nat) (w:World) (T R:List Nat) (x:kj) (n:dL) (B:List Nat):Prop where
 node:fi (Zo FD (T++R) F) w x n B
 sep:∀ b∈T,b∉B
def nO.J0{R:List Nat}(o:nO FD F wa T R x n B)(h:dQ T wa w L):nO FD F w (fh L) R x n B:=
 ⟨o.node.q8 h.fr (fun b u E=>o.sep b E u) (fun b u=>.inl (by simp[u])) (DL h),fun b u E=>by
  obtain⟨q,I,rfl⟩:=mem_map.1 u;rcases h.own q I with G|G;exact o.sep _ G E
  have:=o.node.lt _ E;omega⟩
def Ed.base(e:Ed dbk pb FD D j S0 N0 w0 w T Y F M x n B)(E:∀b∈S0,b∈Z)(G:∀b∈FD,b∈Z)(I:HG∈Z)(J:∀b∈Y,b∈Z):mB Z w0 (Zo FD (T++(B++Y)) F):=fun b u=>by simp only[Zo,zD,zG] at u;rcases u with (u|u|u|u|u)|u;exact .inl (G b u);rw[u];exact .inl I;exact (e.sg.own b u).imp (E b) id;exact (e.cG b u).imp (fun h=>E b (e.cT b h)) id;exact .inl (J b u);exact (e.sg.new b u).imp (E b) id
def Ed.x4(e:Ed dbk pb FD D j S0 N0 w0 w T Y F M x n B)(hn:fi Z w0 xl nl Bn)(hd:∀b∈Bn,b∉S0)(hS:∀b∈S0,b∈Z)(I:∀b∈FD,b∈Z)(J:HG∈Z)(hY:∀b∈Y,b∈Z)(E:∀b∈Bn++Y1,b∈Y)(R:∀b∈Bn,b∉Y1)(U:∀b∈Bn,b<w0.heap.size): Ed dbk pb FD D j (Bn++S0) Bn w0 w T Y1 F M xl nl Bn:=by
 have hz:=e.base hS I J hY;have G:∀b∈Zo FD (T++(Bn++Y1)) F,b∈Zo FD (T++(B++Y)) F:=fun b u=>by simp only[Zo,zD,zG] at u⊢;have V:=fun h=>E b h;simp only[zD] at V;rcases u with (u|u|u|u|u)|u;simp[u];simp[u];simp[u];simp[V (.inl u)];simp[V (.inr u)];simp[u]
 refine⟨qzA e.sg fun b u=>zI _ u,e.tw.y3 fun b u=>?_,hn.q8 e.fr hd (fun b u=>.inl (hS b u)) fun b u=>hz b (G b u),fun b u hm=>?_,fun b u=>.inl u,fun b u=>zH _ u,R⟩;rcases zD.1 u with u|u;simp[u];exact zI _ (zI _ (E b u));rcases e.sg.own b u with h1|h1;exact hd b hm h1
 have:=U b hm;omega
def qAp:∀b∈Bn++(Br++Y),b∈Zo FD (Bl++(Bn++(Br++Y))) F:=fun b u=>by simp only[Zo,zD,zG] at u⊢;rcases u with h|h|h<;>simp[h]
def qzZ:∀b∈Bn++Y,b∈Bn++(Br++Y):=fun b u=>by simp only[zD] at u⊢;rcases u with h|h<;>simp[h]
def qz0:∀b∈Zo FD (T++(Bn++Y)) F,b∈Zo FD (T++(Bn++(Br++Y))) F:=fun b u=>by simp only[Zo,zD,zG] at u⊢;rcases u with (h|h|h|h|h)|h<;>simp[h]
def qxV{K:kj×Int->WP}(hT:TW dbk pb FD D j w0 (Bl++(Bn++(Br++Y))) F M)(hl:fi (Zo FD (Bl++(Bn++(Br++Y))) F) w0 xl nl Bl)(hn:fi (Zo FD (Bl++(Bn++(Br++Y))) F) w0 x n Bn)(hr:fi (Zo FD (Bl++(Bn++(Br++Y))) F) w0 xr nr Br)(d1:∀b∈Bl,b∉Bn)(d2:∀b∈Bl,b∉Br)(d3:∀b∈Bl,b∉Y)(d4:∀b∈Bn,b∉Br)(d5:∀b∈Bn,b∉Y)(sl:gK nl)(sr:gK nr)(sn:gK n)(hi:i<n.J6.length)(aB:n.Q4=false)(U:∀yn B' F' w',TW dbk pb FD D j w' (B'++Y) F' (lI k v M n i nl nr).2->fi (Zo FD (B'++Y) F') w' yn (lI k v M n i nl nr).1.1 B'->Fr (Bn++(Bl++F)) w0 w'->(∀b∈B',b∈Bn\/w0.heap.size<=b)->(∀b∈F',b∈Bn++(Bl++F)\/w0.heap.size<=b)->K (yn,(lI k v M n i nl nr).1.2) w'): cW 203 [.agg (nz (jD k v pb t)),.agg (eK x),.i i,.agg (eK xl),.agg (eK xr)] [.agg dY,.one .i] w0 K:=by
 refine qll ?_;have e0:Ed dbk pb FD D j (Bl++F) Bl w0 w0 [] (Bn++(Br++Y)) F M xl nl Bl:=⟨⟨.refl _ _,fun b u=>.inl (by simp[u]),fun _ h=>nomatch h⟩,hT,hl,fun _ h=>(nomatch h),fun b u=>.inl u,fun b u=>by simp[u],fun b u I=>by simp only[zD] at I;rcases I with I|I|I;exact d1 b u I;exact d2 b u I;exact d3 b u I⟩;have hF:∀ {Bx:List Nat},(∀b∈Bx,b∈Bn\/b∈Br)->(∀b∈Bx,b∉Bl)->∀b∈Bx,b∉Bl++F:=fun h1 h2 b u I=>(zD.1 I).elim (h2 b u) fun I=>hT.yf b (by rcases h1 b u with h|h<;>simp[h]) I;have dn:=hF (Bx:=Bn) (fun b u=>.inl u) fun b u I=>d1 b I u;obtain⟨nk,nv,on⟩:=hn.A7 (S0:=Bl++F) dn;obtain⟨rk,rv,G⟩:=hr.A7 (S0:=Bl++F) (hF (fun b u=>.inr u) fun b u I=>d2 b I u);have ad:∀b∈Bl++F,b∈Zo FD (Bl++(Bn++(Br++Y))) F:=fun b u=>by rcases zD.1 u with u|u<;>simp[u]
 have nZ:∀ {w' T x' n' B'},Ed dbk pb FD D j (Bl++F) Bl w0 w' T (Bn++(Br++Y)) F M x' n' B'->mB (Zo FD (Bl++(Bn++(Br++Y))) F) w0 (Zo FD (T++(B'++(Bn++(Br++Y)))) F):=fun e=>e.base ad (fun b u=>by simp[u]) oL fun b u=>by simp only[Zo,zD,zG] at u⊢;rcases u with h|h|h<;>simp[h]
 have nw:∀ {w' T x' n' B'},Ed dbk pb FD D j (Bl++F) Bl w0 w' T (Bn++(Br++Y)) F M x' n' B'->pO (Bl++F) (Zo FD (T++(B'++(Bn++(Br++Y)))) F) w' x n nk nv:=fun e=>on.q8 e.fr (fun b u=>u) ad (fun b u=>.inl u) (nZ e);have aa:∀ {w' T x' n' B'},Ed dbk pb FD D j (Bl++F) Bl w0 w' T (Bn++(Br++Y)) F M x' n' B'->pO (Bl++F) (Zo FD (T++(B'++(Bn++(Br++Y)))) F) w' xr nr rk rv:=fun e=>G.q8 e.fr (fun b u=>u) ad (fun b u=>.inl u) (nZ e);have ae:i<nk.length:=(by rw[on.tA];exact hi);have a5:=sn.inner aB;have af:i<n.J9.length:=oJ;have ah:i+1<n.J9.length:=oJ;have z1:=sl.J6;have z2:=sl.Q0;have z3:=sl.J9;have z4:=sr.J6;have z5:=sr.Q0;have z6:=sr.J9;have z7:=sn.J6;have z8:=sn.J9;have a6:=G.tA;have a7:=G.wJ;have h:=oE [] w0;refine oB h fun r1 w2 _ _ h=>oB h fun r3 w4 _ _ h=>oB h fun r5 w6 _ _ h=>oB h fun r7 w8 _ _ h=>oB h fun r9 a8 _ _ h=>hU (fun _ w'=>∃J B',dQ [r9,r7,r5,r3,r1] w' w' [(r9,.cells (eK fD) ND (0,0)),(r7,.cells (eK xr) ND (0,0)),(r5,.cells (eK (xl.1,J,xl.2.2)) ND (0,0)),(r3,.cells (eK x) ND (0,0)),(r1,.cells (nz (jD k v pb t)) WK (0,0))]/\
  Ed dbk pb FD D j (Bl++F) Bl w0 w' [r9,r7,r5,r3,r1] (Bn++(Br++Y)) F M (xl.1,J,xl.2.2) { nl with J6:=if nl.Q4 then nl.J6 else nl.J6++[n.J6.getD i []] } B') ?_ ?_
 refine oA h 2 rfl xl.1 rfl ?_;apply dV<;>intro E;have E:nl.Q4=false:=(by rw[hl.1,zT] at E;exact E);rw[if_neg (show ¬nl.Q4=true by rw[E];decide),on.mV ae];have h:=oF h;refine oA h 2 rfl xl.2.1 rfl<|oA h 3 rfl x.2.1 rfl<|ed.get (on.rk.q7 h.fr) i rfl (x:=nk[i].1) (by rw[zQ,zA ae];rfl) (y:=nk[i].1) rfl<|oB h fun a9 a' _ _ h=>ig (h.cell 3 rfl rfl) ?_;have e:=e0.J0 h;exact e.pF h oJ 0 rfl ((nw e).ek _ (zX ae)) (by rw[<- on.mV ae];exact tk on.nb.1 _) fun J B1 ba e h _=>oD h 3 rfl (eK (xl.1,J,xl.2.2)) fun bb h _=>⟨J,B1,lL h (.cons _ (.refl _)),(e.J0 h).sub oL⟩;have E:nl.Q4=true:=(by rw[hl.1,yE] at E;exact E);rw[if_pos E];exact⟨xl.2.1,Bl,lL h (.refl _),e0.J0 h⟩;rintro _ bc ⟨J,B1,h,e⟩;have e:=e.J0 h;have h:=lL h (.refl _);refine oA h 2 rfl J rfl<|oA h 1 rfl xr.2.1 rfl ?_;have aU:(if nl.Q4 then nl.J6 else nl.J6++[n.J6.getD i []]).length<=2001:=by split;omega;rw[zF,xM];omega
 refine e.vo h oN (aa e).rk (aa e).ek (by rw[G.J6];exact G.nb.1) fun ab B2 bf e h _=>?_;rw[G.J6] at e;refine oD h 2 rfl (eK (xl.1,ab,xl.2.2.1,xl.2.2.2)) fun bg h _=>oA h 2 rfl xl.2.2.1 rfl<|oA h 1 rfl xr.2.2.1 rfl ?_;have e:=e.J0 h;refine e.uU h oN (aa e).rv (aa e).ev (by rw[G.Q0];exact G.nb.2.1) fun ag B3 bh e h _=>?_;rw[G.Q0] at e;refine oD h 2 rfl (eK (xl.1,ab,ag,xl.2.2.2)) fun bi h _=>oA h 2 rfl xl.2.2.2 rfl<|oA h 1 rfl xr.2.2.2 rfl ?_;have e:=e.J0 h;refine e.vc h oN (aa e).ri G.nb.2.2 fun ai B4 bj e h _=>oD h 2 rfl (eK (xl.1,ab,ag,ai)) fun bk h _=>?_;have h:=oF h;have e:=e.J0 h;have h:=lL h (.refl _);refine oC h 4 rfl (jD k v pb t) rfl<|oA h 3 rfl x.2.2.2 rfl<|ed.get (nw e).ri i rfl (x:=n.J9[i]) (zA af) (y:=n.J9[i]) rfl<|oC h 2 rfl (xl.1,ab,ag,ai) rfl ?_;have hJ:({ Q4:=nl.Q4,J6:=(if nl.Q4 then nl.J6 else nl.J6++[n.J6.getD i []])++nr.J6,Q0:=nl.Q0++nr.Q0,J9:=nl.J9++nr.J9 }:dL)=kK nl nr (n.J6.getD i []):=rfl;have aD:n.J9.getD i 0=n.J9[i]:=uy af;have ap:n.J9.getD (i+1) 0=n.J9[i+1]:=uy ah;unfold lI at U;rw[aD,ap,<- hJ] at U;have aE:=e.cB.j6 (fun b u=>.inl (qz0 b u));have e:=e.x4 hn dn ad (fun b u=>by simp[u]) oL qAp (Y1:=Y) qzZ d5 hn.lt;refine vd e.tw aE (by dsimp only;rw[zF];omega) (by dsimp only;rw[zF];omega) (by dsimp only;rw[zF];omega) fun F1 bn aq aF aG=>?_;obtain⟨e,h⟩:=e.next h aq aF aG
 generalize aH:dO k v M n.J9[i] { Q4:=nl.Q4,J6:=(if nl.Q4 then nl.J6 else nl.J6++[n.J6.getD i []])++nr.J6,Q0:=nl.Q0++nr.Q0,J9:=nl.J9++nr.J9 }=st at U e⊢;have hu:gI st.1.1:=(by rw[<- aH];exact uH hT.wf (hn.2.1.2.2 _ (zX af)));obtain⟨⟨bo,R⟩,M1⟩:=st;dsimp only at U e hu⊢;refine hU (fun er w'=>∃F2,er=(if R=0 then (fl M1 n.J9[i+1]).1 else R)/\dQ [r9,r7,r5,r3,r1] w' w' [(r9,.cells (eK fD) ND (0,0)),(r7,.cells (eK xr) ND (0,0)),(r5,.cells (eK (xl.1,ab,ag,ai)) ND (0,0)),(r3,.cells (eK x) ND (0,0)),(r1,.cells (nz (jD k v pb t)) WK (0,0))]/\
  Ed dbk pb FD D j (Bn++(Bl++F)) Bn w0 w' [r9,r7,r5,r3,r1] Y F2 (if R=0 then (fl M1 n.J9[i+1]).2 else M1) x n Bn) ?_ ?_
 apply dV<;>intro E;have E:R=0:=yP.1 E;rw[if_pos E,if_pos E];have h:=oF h;refine oA h 4 rfl (pW pb) rfl<|oA h 3 rfl x.2.2.2 rfl ?_;have e:=e.J0 h;have ew:wrap .i64 ((i:Int)+1)=((i+1:Nat):Int):=rz oJ;refine ed.get e.y7 (i+1) ew (x:=n.J9[i+1]) (zA ah) (y:=n.J9[i+1]) rfl<|TW.drop e.tw fun F2 bp ar aI aJ=>?_;obtain⟨e,h⟩:=e.next h ar aI aJ
 exact⟨F2,rfl,h,e⟩;have E:¬R=0:=zR.1 E;rw[if_neg E,if_neg E];exact⟨F1,rfl,h,e⟩;rintro er bq ⟨F2,rfl,h,e⟩;have e:=e.J0 h;have h:=lL h (.refl _);have aK:∀ {A B:(dL×Int)×dZ},(if R≠0 then A else B)=if R=0 then B else A:=by intro A B;by_cases h:R=0;rw[if_neg (fun h'=>h' h),if_pos h];rw[if_pos h,if_neg h]
 rw[aK] at U;apply dV<;>intro E;have E:(if R=0 then (fl M1 n.J9[i+1]).1 else R)≠0:=by rw[zT] at E;exact zR.1 E
 refine oD h 0 rfl (eK fD) fun au h _=>oC h 0 rfl fD rfl ?_;have e:=e.J0 h;by_cases h0:R=0;rw[if_pos h0] at U E e⊢;rw[if_pos E] at U;exact U fD [] F2 au e.qA.j7 (.zero _ _) e.fr (fun _ h=>(nomatch h)) e.sg.new;rw[if_neg h0] at U E e⊢;exact U fD [] F2 au e.qA.j7 (.zero _ _) e.fr (fun _ h=>(nomatch h)) e.sg.new;have E:(if R=0 then (fl M1 n.J9[i+1]).1 else R)=0:=by rw[yE] at E;exact yP.1 E
 by_cases h0:R=0;rw[if_pos h0] at U E e;rw[if_neg (fun h=>h E)] at U;refine oA h 3 rfl x.2.2.2 rfl<|e.t6 h (i:=i) af rfl hu fun B1 bu e h _=>?_;have h:=oF h;refine oA h 3 rfl x.2.2.2 rfl<|oA h 3 rfl x.2.1 rfl ?_;have e:=e.J0 h;have ew:wrap .i64 ((i:Int)+1)=((i+1:Nat):Int):=rz oJ;have aL:wrap .i64 ((i:Int)+2)=((i+1+1:Nat):Int):=(by rw[gq _ oJ];omega);refine e.GO h (i:=i+1) (by dsimp only;rw[xG];omega) ew aL (by dsimp only;rw[xG];omega) fun V B2 bv e h _=>ig (h.cell 3 rfl rfl)<|e.A3 h (i:=i) hi rfl ew oN fun ac B3 bx e h _=>oD h 3 rfl (eK (x.1,x.2.1,x.2.2.1,V)) fun bz h _=>oD h 3 rfl (eK (x.1,ac,x.2.2.1,V)) fun bA h _=>oC h 3 rfl (x.1,ac,x.2.2.1,V) rfl<|oD h 0 rfl (eK (x.1,ac,x.2.2.1,V)) fun aM h _=>oC h 0 rfl (x.1,ac,x.2.2.1,V) rfl ?_;have e:=e.J0 h;refine U (x.1,ac,x.2.2.1,V) B3 F2 aM e.tw.j7 (e.node.j6 fun b u=>.inl (by simp only[Zo,zD,zG] at u⊢;rcases u with (u|u|u|u)|u<;>simp[u])) e.fr e.cG e.sg.new;rw[if_neg h0] at E;exact absurd E h0
end
end
end
end Go.Proofs.YtpcmehldpoljfaaGreatDoor
