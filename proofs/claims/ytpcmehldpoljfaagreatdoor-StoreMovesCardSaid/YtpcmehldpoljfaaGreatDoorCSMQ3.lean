/- Conditions: those that stand in each line. -/
import Derived.Test.YtpcmehldpoljfaaGreatDoorCSMQ2
import Derived.Sort.LotC
import Derived.Sort.LotA
import Derived.Sort.LotD1
import Derived.Laws.Bits64b
import Derived.Laws.Closers25b
import Derived.KernelRfl
import Derived.Sort.LotD2
import Derived.Sort.LotB
import Derived.Sort.LotD3
import Derived.Test.YtpcmehldpoljfaaGreatDoorCSMQ1
import Derived.Test.YtpcmehldpoljfaaGreatDoorProg
import Derived.Shelf.Bytes.SlCountOne
import Derived.Laws.CopyRow
import Derived.Laws.IdiomCopy
import Derived.Test.YtpcmehldpoljfaaGreatDoorTie
import Derived.LaidMore
import Derived.MakeChecks
import Derived.OpenShut
import Derived.ProofKit
set_option linter.unusedVariables false
set_option linter.unusedSimpArgs false
set_option linter.defProp false
namespace Go.Proofs.YtpcmehldpoljfaaGreatDoor
open Go.Proofs.Tryz
section
open Go Go.Pt Go.Sort List
attribute [local irreducible] ld dK iF mK iY fq st new idx i3 ji fy jk iL lN gU nn call dU inv run eX iD join loop held ext jQ eu mr ma mv IntKind.wrap
variable {F S:List Nat} {K:Int->WP} {a b n pb:Nat} {d:Array Int} {l:List Int} {p:Int->Bool} {t:Int->World->(Bool->WP)->Prop} {w:World}
def ins (x:Int):List Int->List Int
 | []=>[x]
 | a::l=>if x<a then x::a::l else if x=a then a::l else a::ins x l
def zy{x:Int}:∀ {l:List Int},x∉l->(ins x l).Perm (x::l)
 | [],_=>.refl _
 | a::l,h=>by simp only[zG,not_or] at h;simp only[ins];split;exact .refl _;rw[if_neg h.1];exact ((zy h.2).cons a).trans (.swap x a l)
def qtF{x y:Int}:∀ {l:List Int},y∈ins x l->y=x\/y∈l
 | [],h=>by simp[ins] at h;exact .inl h
 | a::l,h=>by simp only[ins] at h;split at h;simp only[zG] at h⊢;exact h;split at h;exact .inr h;simp only[zG] at h⊢;rcases h with h|h;exact .inr (.inl h);rcases qtF h with h|h;exact .inl h;exact .inr (.inr h)
def BS{x:Int}:∀ {l:List Int},l.Pairwise (· < ·)->(ins x l).Pairwise (· < ·)
 | [],_=>by simp[ins]
 | a::l,h=>by have E:=yJ.1 h;simp only[ins];split;rename_i G;refine yJ.2 ⟨fun b u=>?_,h⟩;rcases zG.1 u with rfl|u;exact G;exact Int.lt_trans G (E.1 b u);split;exact h;rename_i I J;refine yJ.2 ⟨fun b u=>?_,BS E.2⟩;rcases qtF u with rfl|u;omega;exact E.1 b u
def qry{x:Int}:∀ {l:List Int},l.Pairwise (· < ·)->x∈l->ins x l=l
 | a::l,h,u=>by
  have E:=yJ.1 h;simp only[ins];rcases zG.1 u with rfl|u;rw[if_neg (Int.lt_irrefl _),if_pos rfl]
  have:=E.1 x u
  rw[iN,iN,qry E.2 u]
def ww(h:b<w.heap.size)(o:Obj):Fr [b] w (gW w b o):=
 ⟨rfl,rfl,rfl,by rw[uB];exact zM _,fun j E u=>by rw[oV _ _ _ _ h,if_neg (oP u)]⟩
def lM.q8{w':World}{m:Value}{R:List Nat}(h:lM w pb m R d n)(k:Fr S w w')(u:pb∉S)(E:∀r∈R,r∉S):lM w' pb m R d n:=by rcases h with ⟨a,b,c,e⟩|⟨rb,T,a,b,c,e,f⟩;exact .inl ⟨a,b,c,by rw[k.block pb (eV e) u];exact e⟩;exact .inr ⟨rb,T,a,by rw[k.block pb (eV b) u];exact b,by rw[k.block rb (eV c) (E rb (by rw[a];simp))];exact c,e,f⟩
def Gs{α:Type}[DecidableEq α]{kv:α->Value}{w':World}{f:List (α×Value)}(h:kJ kv w b f)(k:Fr S w w')(E:b∉S):kJ kv w' b f:=by obtain⟨G,c,u,I⟩:=h;exact⟨G,c,by rw[k.block b (eV u) E];exact u,I⟩
def lM.tL{mb:Nat}{m:Value}{R:List Nat}{f:List (Int×Value)}(h:lM w pb m R d n)(J:kJ jt w mb f):pb≠mb/\∀r∈R,r≠mb:=by obtain⟨U,c,u,_⟩:=J;rcases h with ⟨_,_,G,e⟩|⟨rb,T,a,b,G,e,_⟩;refine⟨fun E=>?_,by simp[G]⟩;subst E;rw[e] at u;cases u;refine⟨fun E=>?_,fun r I E=>?_⟩;subst E;rw[b] at u;cases u;rw[a] at I;simp at I;subst I E;rw[G] at u;cases u
def gO.q8{w w':World}{pb:Nat}{F S:List Nat}{l:List Int}(h:gO w pb F l)(k:Fr S w w')(u:∀b∈F,b∉S):gO w' pb F l:=by obtain⟨⟨mb,R,d,f,rfl,E,G,I,J,U,V⟩,hs⟩:=h;exact⟨⟨mb,R,d,f,rfl,E.q8 k (u _ oL) (fun r E=>u r (by simp[E])),Gs G k (u _ oL),I,J,U,V⟩,hs⟩
def gO.lt(h:gO w pb F l):∀b∈F,b<w.heap.size:=by obtain⟨⟨mb,R,d,f,rfl,I,⟨J,c,G,_⟩,_⟩,_⟩:=h;intro b u;simp only[zG] at u;rcases I with ⟨_,_,E,e⟩|⟨rb,T,a,b',E,e,_⟩;rcases u with rfl|rfl|u;exact eV e;exact eV G;rw[E] at u;cases u;rcases u with rfl|rfl|u;exact eV b';exact eV G;rw[a] at u;simp at u;subst u;exact eV E
def FR{n:Int}{K:Bool->WP}(h:gO w pb F l)(hl:l.length<=1000000)(hk:∀F' w',gO w' pb F' (ins n l)->Fr F w w'->(∀b∈F',b∈F\/w.heap.size<=b)->K (decide (n∉l)) w'): cW 152 [dF pb,.u n] dk w K:=by
 refine qmE<|Gm h ?_;by_cases hx:n∈l;refine cond_true (oP hx) ?_
 have:=hk F w (by rw[qry h.pZ hx];exact h) (.refl _ _) (fun b V=>.inl V)
 simpa[hx] using this;refine cond_false (oP hx) ?_;obtain⟨s,E,G,_,_⟩:=h.cells;have ac:=h.pZ;obtain⟨mb,R,d,f,rfl,hr,hm,U,hh,hf,h1⟩:=h.ex;have am:E=mb:=by rcases hr with ⟨_,_,_,e⟩|⟨rb,T,_,b,_⟩;have h3:=congrArg (fun o=>match o with|some (Obj.cells cs _ _)=>cs[1]? | _=>none) (G.symm.trans e);simpa using h3;have h3:=congrArg (fun o=>match o with|some (Obj.cells cs _ _)=>cs[1]? | _=>none) (G.symm.trans b);simpa[rM] using h3
 subst am;refine fG<|iI G (some E) rfl ?_;have af:posOf n f=none:=by rcases Cp (x:=n) h1 with ⟨U,_⟩|⟨j,_,ap,_⟩;exact U;exact absurd (hf.mem_iff.1 ap) hx
 obtain⟨o,ag,aq⟩:=qvm (P:=prog) (t:=271) (et:=3) (v:=.i 1) oK uS hm n af;refine C3 _ ag ?_;obtain⟨aa,ab⟩:=hr.tL hm;have ah:E<w.heap.size:=(by obtain⟨es,c,V,_⟩:=hm;exact eV V);have ai:=ww ah o;have ar:=hr.q8 ai (oP aa) (fun r hr=>by simpa using ab r hr);refine fG<|qxf ar hl hh fun R' d' w2 au av aw aj ax=>?_;have I:=zy hx;have J:(ins n l).length=l.length+1:=(by have:=I.length_eq;simpa using this);have ay:kJ jt w2 E (f++[(n,.i 1)]):=Gs aq aj (by simp only[zG,not_or];exact⟨fun e=>aa e.symm,fun e=>ab _ e rfl⟩)
 have:=hk (pb::E::R') w2 ⟨⟨E,R',d',f++[(n,.i 1)],rfl,by rw[J];exact au,ay,?_,by rw[J];exact av,?_,?_⟩,BS ac⟩
  ((ai.mono (T:=pb::E::R) (fun i hi _=>by simp at hi;simp[hi])).trans (aj.mono (fun i hi _=>by simp at hi;rcases hi with rfl|hi<;>simp[*]))) (fun b V=>?_)
 simpa[hx] using this;rw[J];exact aw.trans (((U.append_right [n]).trans (perm_append_singleton _ _)).trans I.symm);rw[xN];exact ((hf.append_right _).trans (perm_append_singleton _ _)).trans I.symm;intro p U;rcases zD.1 U with U|U;exact h1 p U;simp at U;rw[U];simp only[zG] at V;rcases V with rfl|rfl|V;exact .inl oL;exact .inl oL;rcases ax b V with h'|h';exact .inl (by simp[h']);rw[uB] at h';exact .inr h'
def qgq{α:Type}:∀(l:List α) (i:Nat) (h:i<l.length),(l[i]::l.eraseIdx i).Perm l
 | a::l,0,_=>.refl _
 | a::l,i+1,h=>by simp only[getElem_cons_succ,eraseIdx_cons_succ];exact (List.Perm.swap _ _ _).trans ((qgq l i (oP h)).cons a)
def tN:List Int->(Int×Bool)×List Int
 | []=>((0,false),[])
 | x::r=>((x,true),r)
def qyO{K:Int×Bool->WP}(h:gO w pb F l)(hl:l.length<=1000000)(hk:∀F' w',gO w' pb F' (tN l).2->Fr F w w'->(∀b∈F',b∈F\/w.heap.size<=b)->K (tN l).1 w'): cW 195 [dF pb] dz w K:=by
 refine qk9 ?_;have G:=h.pZ;have E:=h;obtain⟨mb,R,d,f,rfl,hr,hm,V,hh,hf,h1⟩:=h.ex;rcases hr with ⟨h0,hd,hR,I⟩|⟨rb,T,hR,I,af,ag,J⟩;have ax:l=[]:=eq_nil_of_length_eq_zero h0;subst ax;exact fG<|iI I dG rfl<|cond_true rfl<|hk _ w E (.refl _ _) (fun b I=>.inl I);subst hR;refine fG<|iI I ⟨pW rb,l.length,d.size⟩ rfl ?_;match l,hl,hk,G,E,I,V,hh,hf,J with
 | [],hl,hk,G,E,I,V,hh,hf,J=>
  exact cond_true rfl<|hk _ w E (.refl _ _) (fun b I=>.inl I)
 | x::r,hl,hk,G,E,I,V,hh,hf,J=>
  simp only[yI] at I V hh J hl⊢;refine cond_false oO<|fG ?_;have U:=(show lM w pb (.map (some mb)) [rb] d (r.length+1) from .inr ⟨rb,T,rfl,I,af,ag,J⟩).tL hm;have ay:d[0]! = x:=by
   have ah:d[0]!∈x::r:=V.mem_iff.1 (by
    have:=zk (d:=d) rfl (show 0<r.length+1 by omega) J
    exact yF this)
   have hx:x∈d.toList.take (r.length+1):=V.mem_iff.2 oL;obtain⟨i,hi,az⟩:=getElem_of_mem hx;have ai:i<r.length+1:=(by simp at hi;omega);have h2:=zk (d:=d) rfl ai J;rw[zA hi,az] at h2;have aj:=hh.min i ai;rw[<- yO h2] at aj;rcases zG.1 ah with e|e;exact e
   have:=(yJ.1 G).1 _ e
   omega
  refine qyH I af ag J oJ hh fun d2 w2 ak aA al am=>?_;rw[ay] at al⊢;have ta:(Instr.typeAssert (.iface 63 (.u x)) 20 63 true).run prog w2=.ok (.tuple #[.u x,.bool true]) w2:=oK;refine ru (ts:=dz) (x,true) ta ?_;have an:kJ jt w2 mb f:=Gs hm am (by simp only[zG,xX,or_false,not_or];exact⟨fun e=>U.1 e.symm,fun e=>U.2 rb oL e.symm⟩);obtain⟨s2,aB⟩:∃s:Sl,w2.heap[pb]?=some (.cells #[s.v,.map (some mb)] PT (0,0)):=by rcases ak with ⟨_,_,_,ab⟩|⟨aC,T',_,ab,_⟩;exact⟨dG,ab⟩;exact⟨⟨pW aC,_,_⟩,ab⟩
  refine fG<|iI aB (some mb) rfl ?_;obtain⟨o,ao,ap⟩:=qvl (P:=prog) (t:=271) (et:=3) (kt:=63) (ty:=0) oK uS an x;refine FH (ts:=[]) () _ ao ?_;rcases Cp (x:=x) h1 with ⟨_,aD⟩|⟨j,aq,_,hj⟩;exact absurd (hf.mem_iff.2 oL) aD;rw[aq] at ap;have ar:mb<w2.heap.size:=(by obtain⟨es,c,I,_⟩:=an;exact eV I);have au:=ww ar o;refine hk [pb,mb,rb] (gW w2 mb o) ⟨⟨mb,[rb],d2,f.eraseIdx j,rfl,ak.q8 au (oP U.1) (fun r hr=>by simpa using U.2 r hr),ap,(al.trans V).cons_inv,aA,?_,fun p V=>h1 p (mem_of_mem_eraseIdx V)⟩,(yJ.1 G).2⟩
   ((am.mono (T:=[pb,mb,rb]) (fun i hi _=>by simp at hi;rcases hi with rfl|rfl<;>simp)).trans (au.mono (fun i hi _=>by simp at hi;simp[hi]))) (fun b I=>.inl I)
  show ((f.eraseIdx j).map (·.1)).Perm r;rw[uY];obtain⟨aE,aF⟩:=zP.1 hj
  have:=qgq _ _ aE
  rw[aF] at this;exact (this.trans hf).cons_inv
section
section
variable {eI:Nat} {T:ko} {w0 w:World} {d:Array Int} {len cap:Nat}
def qtf{lo hi first:Nat}{K:Unit->WP}(h:gL eI T w0 w d)(hlo:lo<=hi)(hf:first+hi<=len)(hl:len<=d.size/\len<=1152921504606846976)(hk:∀w',gL eI T w0 w' (siftDown ltInt hi first lo d)->(siftDown ltInt hi first lo d).size=d.size->K () w'): cW 242 [.slice (pW eI) len cap,.i lo,.i hi,.i first] [] w K:=by
 refine qfz (data:=⟨pW eI,len,cap⟩)<|je (fun x w'=>∃(r:Nat) (d':Array Int),x=r/\r<=hi/\gL eI T w0 w' d'/\d'.size=d.size/\siftDown ltInt hi first r d'=siftDown ltInt hi first lo d) (fun x _=>((hi:Int)-x).toNat)
  ⟨lo,d,rfl,hlo,h,rfl,rfl⟩ ?_
 rintro x w1 ⟨r,d1,rfl,hr,h,hs1,he1⟩ X hX;have e1:IntKind.i64.wrap (IntKind.i64.wrap (2*(r:Int))+1)=((2*r+1:Nat):Int):=(by rw[wi (2*(r:Int)) oJ,wi _ oJ];omega);have e2:IntKind.i64.wrap (((2*r+1:Nat):Int)+1)=((2*r+2:Nat):Int):=(by rw[wi _ oJ];omega);rw[e1,e2];have hd:=siftDown.eq_1 ltInt hi first r d1
 apply dV<;>intro hc;have hc':2*r+1>=hi:=(by have:=zC hc;omega);rw[dif_pos hc'] at hd;rw[hd] at he1;refine hk _ ?_ ?_;rw[<- he1];exact h;rw[<- he1];exact hs1
 ·have hc':¬2*r+1>=hi:=(by have:=zB hc;omega);rw[dif_neg hc'] at hd;refine hU (fun x w'=>x=((if 2*r+1+1<hi&&ltInt d1[first+(2*r+1)]! d1[first+(2*r+1)+1]! then 2*r+2 else 2*r+1:Nat):Int)/\gL eI T w0 w' d1) ?_ ?_
  ·refine hU (fun c w'=>c=(decide (2*r+1+1<hi)&&ltInt d1[first+(2*r+1)]! d1[first+(2*r+1)+1]!)/\gL eI T w0 w' d1) ?_ ?_
   ·apply dV<;>intro hc
    ·have hc2:2*r+1+1<hi:=(by have:=zC hc;omega);exact h.drew.rd (first+(2*r+1)) (by rw[wi _ oJ];omega) oJ oJ<|h.drew.rd (first+(2*r+1)+1) (by rw[wi ((first:Int)+_) oJ,wi _ oJ];omega) oJ oJ<|rW<|⟨by simp[hc2],h.drew⟩
    have hc2:¬2*r+1+1<hi:=(by have:=zB hc;omega);exact⟨by simp[hc2],h.drew⟩
   rintro c w3 ⟨rfl,h⟩;apply dV<;>intro hc;exact⟨by rw[if_pos hc],h⟩;exact⟨by rw[if_neg (oP hc)],h⟩
  ·rintro x w3 ⟨rfl,h⟩;have fin:∀c:Nat,(c=2*r+1\/c=2*r+2)->c<hi->((if !ltInt d1[first+r]! d1[first+c]! then d1 else siftDown ltInt hi first c (swp d1 (first+r) (first+c)))=siftDown ltInt hi first lo d)->
     idx ⟨pW eI,len,cap⟩ (IntKind.i64.wrap (first+r)) 1 fun a_16=>ld .u a_16 w3.drew fun x_17=>idx ⟨pW eI,len,cap⟩ (IntKind.i64.wrap (first+c)) 1 fun a_18=>ld .u a_18 w3.drew fun x_19=>
      cW 218 [.u x_17,.u x_19] dk w3.drew fun b_20 w_21=>
       bif !b_20 then K () w_21 else
        idx ⟨pW eI,len,cap⟩ (IntKind.i64.wrap (first+c)) 1 fun a_22=>ld .u a_22 w_21.drew fun x_23=>idx ⟨pW eI,len,cap⟩ (IntKind.i64.wrap (first+r)) 1 fun a_24=>ld .u a_24 w_21.drew fun x_25=>
         idx ⟨pW eI,len,cap⟩ (IntKind.i64.wrap (first+r)) 1 fun a_26=>st a_26 [.u x_23] w_21.drew fun w_27=>idx ⟨pW eI,len,cap⟩ (IntKind.i64.wrap (first+c)) 1 fun a_28=>st a_28 [.u x_25] w_27 fun w_29=>X c w_29:=by
    intro c hcc hch hceq;refine h.drew.rd (first+r) (by rw[wi _ oJ];omega) oJ oJ<|h.drew.rd (first+c) (by rw[wi _ oJ];omega) oJ oJ<|rW ?_;apply dV<;>intro hc;rw[if_pos hc] at hceq;refine hk _ ?_ ?_;rw[<- hceq];exact h.drew;rw[<- hceq];exact hs1
    ·rw[if_neg (by rw[hc];decide)] at hceq;exact h.drew.drew.swap (first+r) (first+c) (by rw[wi _ oJ];omega) (by rw[wi _ oJ];omega) oJ oJ oJ fun w4 h=>hX _ _ ⟨c,_,rfl,oJ,h,by rw[AS];exact hs1,hceq⟩ oJ
   split;rename_i hcc;rw[if_pos hcc] at hd;have hlt:2*r+2<hi:=(by simp only[yB,decide_eq_true_eq] at hcc;omega);rw[dif_pos hlt] at hd;exact fin _ (.inr rfl) hlt (hd.symm.trans he1);rename_i hcc;rw[if_neg hcc] at hd;exact fin _ (.inl rfl) oJ (hd.symm.trans he1)
def qyI{K:Unit->WP}(h:gL eI T w0 w d)(ad:a<=b)(hb:b<=len)(hl:len<=d.size/\len<=1152921504606846976)(hk:∀w',gL eI T w0 w' (heapSort ltInt d a b)->K () w'): cW 213 [.slice (pW eI) len cap,.i a,.i b] [] w K:=by
 refine qfy (data:=⟨pW eI,len,cap⟩) ?_;dsimp only;have e0:IntKind.i64.wrap ((b:Int)-a)=((b-a:Nat):Int):=(by rw[wi _ oJ];omega);have e2:IntKind.i64.wrap (Int.tdiv (IntKind.i64.wrap (((b-a:Nat):Int)-1)) 2)=(((b-a-1) / 2+1:Nat):Int)-1:=by rw[wi (_-1) oJ];by_cases hn:b-a=0;rw[hn];decide +kernel;rw[Int.tdiv_eq_ediv_of_nonneg oJ,wi _ oJ];omega
 rw[e0,e2];refine je (fun x w'=>∃(k:Nat) (E:Array Int),x=(k:Int)-1/\k<=(b-a-1) / 2+1/\gL eI T w0 w' E/\E.size=d.size/\heapBuild ltInt (b-a) a k E=heapBuild ltInt (b-a) a ((b-a-1) / 2+1) d) (fun x _=>(x+1).toNat)
  ⟨_,d,rfl,zM _,h,rfl,rfl⟩ ?_
 rintro x w1 ⟨k,V,rfl,aa,h,I,J⟩ X hX;apply cD<;>intro G;have u:1<=k:=oJ;obtain⟨j,rfl⟩:∃j,k=j+1:=⟨k-1,oJ⟩;rw[show ((j+1:Nat):Int)-1=(j:Nat) by omega];refine qtf h oJ oJ oJ fun w2 h hs=>?_;rw[wi _ oJ];exact hX _ _ ⟨j,_,rfl,oJ,h,by rw[hs,I],J⟩ oJ;have u:k=0:=oJ;subst u;have R:V=heapBuild ltInt (b-a) a ((b-a-1) / 2+1) d:=J;rw[wi (_-1) oJ];refine je (fun x w'=>∃(k:Nat) (E:Array Int),x=(k:Int)-1/\k<=b-a/\gL eI T w0 w' E/\E.size=d.size/\heapPop ltInt a k E=heapPop ltInt a (b-a) V) (fun x _=>(x+1).toNat)
  ⟨_,V,rfl,zM _,h,I,rfl⟩ ?_
 rintro x w2 ⟨k,d2,rfl,aa,h,ac,U⟩ Z hZ;apply cD<;>intro G;have u:1<=k:=oJ;obtain⟨j,rfl⟩:∃j,k=j+1:=⟨k-1,oJ⟩;rw[show ((j+1:Nat):Int)-1=(j:Nat) by omega];refine h.drew.swap a (a+j) rfl (by rw[wi _ oJ];omega) oJ oJ oJ fun w3 h=>qtf (lo:=0) h oJ oJ (by rw[AS];omega) fun w4 h hs=>?_;rw[wi _ oJ];exact hZ _ _ ⟨j,_,rfl,oJ,h,by rw[hs,AS,ac],U⟩ oJ;have u:k=0:=oJ;subst u;refine hk _ ?_;unfold heapSort;rw[<- R,<- U];exact h
def qzM{K:Unit->WP}(h:gL eI T w0 w d)(U:a<b)(hb:b<=len)(hl:len<=d.size/\len<=1152921504606846976)(V:∀w',gL eI T w0 w' (reverseRange d a b)->K () w'): cW 216 [.slice (pW eI) len cap,.i a,.i b] [] w K:=by
 refine qdX (data:=⟨pW eI,len,cap⟩) ?_;rw[wi _ oJ];refine je (fun x w'=>∃(i j:Nat) (I:Array Int),x=((i:Int),(j:Int))/\i<=j+1/\j<b/\gL eI T w0 w' I/\I.size=d.size/\reverseLoop i j I=reverseLoop a (b-1) d) (fun x _=>(x.2-x.1).toNat)
  ⟨a,b-1,d,te rfl oJ,oJ,oJ,h,rfl,rfl⟩ ?_
 rintro x w1 ⟨i,j,d1,rfl,ab,ac,h,J,E⟩ X hX;have G:=reverseLoop.eq_1 i j d1;dsimp only;apply cD<;>intro R;have u:i<j:=oJ;rw[if_pos u] at G;refine h.drew.swap i j rfl rfl oJ oJ oJ fun w2 h=>?_;rw[wi (_+1) oJ,wi (_-1) oJ];exact hX _ _ ⟨i+1,j-1,_,te oJ oJ,oJ,oJ,h,by rw[AS,J],G.symm.trans E⟩ oN;have u:¬i<j:=oJ;rw[if_neg u] at G;refine V _ ?_;unfold reverseRange;rw[<- E,G];exact h
end
end
section
section
variable {eI:Nat} {T:ko} {w0 w:World} {d:Array Int} {len cap:Nat}
def Gt{J i0:Nat}{E:Int->WP}(h:gL eI T w0 w d)(hJ:J<=1152921504606846976)(hi0:i0<=J+2)(hT:∀(x:Nat) w Y,i0<=x->gL eI T w0 w d->(∀w',gL eI T w0 w' d->Y (decide (x<=J)&&p d[x]!) w')->t x w Y)(hE:∀w',gL eI T w0 w' d->E (scanUp p d J i0:Nat) w'): loop Int (fun X x w=>join Bool (fun Y=>t x w Y) fun b w'=>bif b then X (IntKind.i64.wrap (x+1)) w' else E x w') i0 w:=by refine je (fun x w'=>∃i:Nat,x=i/\i0<=i/\i<=J+2/\gL eI T w0 w' d/\scanUp p d J i=scanUp p d J i0) (fun x _=>((J:Int)+2-x).toNat) ⟨i0,rfl,zM _,hi0,h,rfl⟩ ?_;rintro x w1 ⟨i,rfl,hi,hiJ,h,he⟩ X hX;refine hU (fun c w'=>c=(decide (i<=J)&&p d[i]!)/\gL eI T w0 w' d) (hT i w1 _ hi h fun w' h=>⟨rfl,h⟩) ?_;rintro c w2 ⟨rfl,h⟩;have hd:=scanUp.eq_1 p d J i;apply dV<;>intro hc;have hc1:=hc;simp only[yB,decide_eq_true_eq] at hc;rw[if_pos (oP hc1)] at hd;rw[wi _ oJ];exact hX _ _ ⟨i+1,oJ,oJ,oJ,h,hd.symm.trans he⟩ oJ;rw[if_neg (oP hc)] at hd;rw[show (i:Int)=(scanUp p d J i0:Nat) by rw[<- he,hd]];exact hE _ h
def Ek{i j0:Nat}{E:Int->WP}(h:gL eI T w0 w d)(hJ:j0<=1152921504606846976)(hi:1<=i)(hT:∀(x:Nat) w Y,x<=j0->gL eI T w0 w d->(∀w',gL eI T w0 w' d->Y (decide (i<=x)&&p d[x]!) w')->t x w Y)(hE:∀w',gL eI T w0 w' d->E (scanDown p d i j0:Nat) w'): loop Int (fun X x w=>join Bool (fun Y=>t x w Y) fun b w'=>bif b then X (IntKind.i64.wrap (x-1)) w' else E x w') j0 w:=by
 refine je (fun x w'=>∃j:Nat,x=j/\j<=j0/\gL eI T w0 w' d/\scanDown p d i j=scanDown p d i j0) (fun x _=>x.toNat) ⟨j0,rfl,zM _,h,rfl⟩ ?_;rintro x w1 ⟨j,rfl,hj,h,he⟩ X hX;refine hU (fun c w'=>c=(decide (i<=j)&&p d[j]!)/\gL eI T w0 w' d) (hT j w1 _ hj h fun w' h=>⟨rfl,h⟩) ?_;rintro c w2 ⟨rfl,h⟩;apply dV<;>intro hc;have hc1:=hc;simp only[yB,decide_eq_true_eq] at hc;obtain⟨k,rfl⟩:∃k,j=k+1:=⟨j-1,oJ⟩;rw[wi _ oJ];refine hX _ _ ⟨k,oJ,oJ,h,?_⟩ oJ;rw[<- he,scanDown,if_pos (oP hc1)];rw[show (j:Int)=(scanDown p d i j0:Nat) by
  rw[<- he];cases j with
  | zero=>rfl
  | succ k=>rw[scanDown,if_neg (oP hc)]]
 exact hE _ h
def qyL{pivot:Nat}{K:Int×Bool->WP}(h:gL eI T w0 w d)(hap:a<=pivot)(hpb:pivot<b)(hb:b<=len)(hl:len<=d.size/\len<=1152921504606846976)(hk:∀w',gL eI T w0 w' (Sort.partition ltInt d a b pivot).2.2->K (((Sort.partition ltInt d a b pivot).1:Nat),(Sort.partition ltInt d a b pivot).2.1) w'): cW 220 [.slice (pW eI) len cap,.i a,.i b,.i pivot] dv w K:=by
 refine qe9 (data:=⟨pW eI,len,cap⟩) ?_;revert hk;unfold Sort.partition;dsimp only;intro hk;refine h.drew.swap a pivot rfl rfl oJ oJ oJ fun w1 h=>?_;have hsz:(swp d a pivot).size=d.size:=Sort.size_swp _ _ _;generalize swp d a pivot=d1 at h hk hsz;have eb:IntKind.i64.wrap ((b:Int)-1)=((b-1:Nat):Int):=(by rw[wi _ oJ];omega);rw[eb,wi ((a:Int)+1) oJ,show (a:Int)+1=((a+1:Nat):Int) by omega];refine Gt (p:=fun x=>ltInt x d1[a]!) (J:=b-1) (i0:=a+1) h oJ oJ (fun x w Y hx h hY=>?_) fun w2 h=>?_;apply cD<;>intro hc;have hc':x<=b-1:=oJ;refine h.drew.rd x rfl oJ oJ<|h.drew.rd a rfl oJ oJ<|rW ?_
 have:=hY _ h.drew
 simpa[hc'] using this;have hc':¬x<=b-1:=by omega
 have:=hY _ h.drew
 simpa[hc'] using this;have hu1:=scanUp_ge (fun x=>ltInt x d1[a]!) d1 (b-1) (a+1);generalize scanUp (fun x=>ltInt x d1[a]!) d1 (b-1) (a+1)=i at hk hu1⊢;refine Ek (p:=fun x=>!ltInt x d1[a]!) (i:=i) (j0:=b-1) h oJ oJ (fun x w Y hx h hY=>?_) fun w3 h=>?_;apply cD<;>intro hc;have hc':i<=x:=oJ;refine h.drew.rd x rfl oJ oJ<|h.drew.rd a rfl oJ oJ<|rW ?_
 have:=hY _ h.drew
 simpa[hc'] using this;have hc':¬i<=x:=by omega
 have:=hY _ h.drew
 simpa[hc'] using this;have hv1:=scanDown_le (fun x=>!ltInt x d1[a]!) d1 i (b-1);generalize scanDown (fun x=>!ltInt x d1[a]!) d1 i (b-1)=j at hk hv1⊢;apply cD<;>intro hc;have hc':i>j:=oJ;simp only[if_pos hc'] at hk;exact h.drew.swap j a rfl rfl oJ oJ oJ fun w4 h=>hk _ h;have hc':¬i>j:=oJ;simp only[if_neg hc'] at hk;refine h.drew.swap i j rfl rfl oJ oJ oJ fun w4 h=>?_;have hsz2:(swp d1 i j).size=d1.size:=Sort.size_swp _ _ _;generalize swp d1 i j=d2 at h hk hsz2;rw[wi ((i:Int)+1) oJ,wi ((j:Int)-1) oJ];refine je (fun s w'=>∃(i' j':Nat) (d':Array Int),s=((i':Int),(j':Int))/\a+1<=i'/\i'<=b/\j'<=b-1/\i'<=j'+2/\gL eI T w0 w' d'/\d'.size=d.size/\partLoop ltInt a i' j' d'=partLoop ltInt a (i+1) (j-1) d2) (fun s _=>(s.2+2-s.1).toNat)
  ⟨i+1,j-1,d2,te oJ oJ,oJ,oJ,oJ,oJ,h,oJ,rfl⟩ ?_
 rintro s w5 ⟨i',j',d3,rfl,hi1,hi2,hj1,hij,h,hs3,he⟩ X hX;rw[partLoop_eq ltInt a i' j' d3] at he;dsimp only;refine Gt (p:=fun x=>ltInt x d3[a]!) (J:=j') (i0:=i') h oJ oJ (fun x w Y hx h hY=>?_) fun w6 h=>?_;apply cD<;>intro hc;have hc':x<=j':=oJ;refine h.drew.rd x rfl oJ oJ<|h.drew.rd a rfl oJ oJ<|rW ?_
 have:=hY _ h.drew
 simpa[hc'] using this;have hc':¬x<=j':=by omega
 have:=hY _ h.drew
 simpa[hc'] using this;have hu1:=scanUp_ge (fun x=>ltInt x d3[a]!) d3 j' i';generalize scanUp (fun x=>ltInt x d3[a]!) d3 j' i'=i2 at he hu1⊢;refine Ek (p:=fun x=>!ltInt x d3[a]!) (i:=i2) (j0:=j') h oJ oJ (fun x w Y hx h hY=>?_) fun w7 h=>?_;apply cD<;>intro hc;have hc':i2<=x:=oJ;refine h.drew.rd x rfl oJ oJ<|h.drew.rd a rfl oJ oJ<|rW ?_
 have:=hY _ h.drew
 simpa[hc'] using this;have hc':¬i2<=x:=by omega
 have:=hY _ h.drew
 simpa[hc'] using this;have hv1:=scanDown_le (fun x=>!ltInt x d3[a]!) d3 i2 j';generalize scanDown (fun x=>!ltInt x d3[a]!) d3 i2 j'=j2 at he hv1⊢;apply cD<;>intro hc;have hc':i2>j2:=oJ;rw[if_pos hc'] at he;rw[<- he] at hk;exact h.drew.swap j2 a rfl rfl oJ oJ oJ fun w4 h=>hk _ h;have hc':¬i2>j2:=oJ;rw[if_neg hc'] at he;refine h.drew.swap i2 j2 rfl rfl oJ oJ oJ fun w4 h=>?_;rw[wi ((i2:Int)+1) oJ,wi ((j2:Int)-1) oJ];exact hX _ _ ⟨i2+1,j2-1,_,te oJ oJ,oJ,oJ,oJ,oJ,h,by rw[Sort.size_swp];exact hs3,he⟩ oN
def qvD{pivot:Nat}(h:gL eI T w0 w d)(hap:a<=pivot)(hpb:pivot<b)(hb:b<=len)(hl:len<=d.size/\len<=1152921504606846976)(hk:∀w',gL eI T w0 w' (Sort.partitionEqual ltInt d a b pivot).2->K ((Sort.partitionEqual ltInt d a b pivot).1:Nat) w'): cW 219 [.slice (pW eI) len cap,.i a,.i b,.i pivot] dj w K:=by
 refine qdA (data:=⟨pW eI,len,cap⟩) ?_;revert hk;unfold Sort.partitionEqual;intro hk;refine h.drew.swap a pivot rfl rfl oJ oJ oJ fun w1 h=>?_;have hsz:(swp d a pivot).size=d.size:=Sort.size_swp _ _ _;generalize swp d a pivot=d2 at h hk hsz;rw[wi ((a:Int)+1) oJ,wi ((b:Int)-1) oJ];refine je (fun s w'=>∃(i' j':Nat) (d':Array Int),s=((i':Int),(j':Int))/\a+1<=i'/\i'<=b/\j'<=b-1/\i'<=j'+2/\gL eI T w0 w' d'/\d'.size=d.size/\partEqLoop ltInt a i' j' d'=partEqLoop ltInt a (a+1) (b-1) d2) (fun s _=>(s.2+2-s.1).toNat)
  ⟨a+1,b-1,d2,te oJ oJ,oJ,oJ,oJ,oJ,h,oJ,rfl⟩ ?_
 rintro s w5 ⟨i',j',d3,rfl,hi1,hi2,hj1,hij,h,hs3,he⟩ X hX;rw[partEqLoop_eq ltInt a i' j' d3] at he;dsimp only;refine Gt (p:=fun x=>!ltInt d3[a]! x) (J:=j') (i0:=i') h oJ oJ (fun x w Y hx h hY=>?_) fun w6 h=>?_;apply cD<;>intro hc;have hc':x<=j':=oJ;refine h.drew.rd a rfl oJ oJ<|h.drew.rd x rfl oJ oJ<|rW ?_
 have:=hY _ h.drew
 simpa[hc'] using this;have hc':¬x<=j':=by omega
 have:=hY _ h.drew
 simpa[hc'] using this;have hu1:=scanUp_ge (fun x=>!ltInt d3[a]! x) d3 j' i';generalize scanUp (fun x=>!ltInt d3[a]! x) d3 j' i'=i2 at he hu1⊢;refine Ek (p:=fun x=>ltInt d3[a]! x) (i:=i2) (j0:=j') h oJ oJ (fun x w Y hx h hY=>?_) fun w7 h=>?_;apply cD<;>intro hc;have hc':i2<=x:=oJ;refine h.drew.rd a rfl oJ oJ<|h.drew.rd x rfl oJ oJ<|rW ?_
 have:=hY _ h.drew
 simpa[hc'] using this;have hc':¬i2<=x:=by omega
 have:=hY _ h.drew
 simpa[hc'] using this;have hv1:=scanDown_le (fun x=>ltInt d3[a]! x) d3 i2 j';generalize scanDown (fun x=>ltInt d3[a]! x) d3 i2 j'=j2 at he hv1⊢;apply cD<;>intro hc;have hc':i2>j2:=oJ;rw[if_pos hc'] at he;rw[<- he] at hk;exact hk _ h;have hc':¬i2>j2:=oJ;rw[if_neg hc'] at he;refine h.drew.swap i2 j2 rfl rfl oJ oJ oJ fun w4 h=>?_;rw[wi ((i2:Int)+1) oJ,wi ((j2:Int)-1) oJ];exact hX _ _ ⟨i2+1,j2-1,_,te oJ oJ,oJ,oJ,oJ,oJ,h,by rw[Sort.size_swp];exact hs3,he⟩ oN
end
end
section
section
variable {eI:Nat} {T:ko} {w0 w:World} {d:Array Int} {len cap:Nat}
def qxr{K:Bool->WP}(h:gL eI T w0 w d)(aB:a<b)(hb:b<=len)(hl:len<=d.size/\len<=1152921504606846976)(hk:∀w',gL eI T w0 w' (Sort.partialInsertionSort ltInt d a b).1->K (Sort.partialInsertionSort ltInt d a b).2 w'): cW 217 [.slice (pW eI) len cap,.i a,.i b] dk w K:=by
 refine qcz (data:=⟨pW eI,len,cap⟩) ?_;revert hk;unfold Sort.partialInsertionSort;intro hk;rw[wi ((a:Int)+1) oJ];refine je (fun x w'=>∃(i s:Nat) (G:Array Int),x=((i:Int),5-(s:Int))/\s<=5/\a+1<=i/\i<=b/\gL eI T w0 w' G/\G.size=d.size/\partialIns ltInt a b s i G=partialIns ltInt a b 5 (a+1) d) (fun x _=>(5-x.2).toNat)
  ⟨a+1,5,d,te oJ oJ,oJ,oJ,oJ,h,rfl,rfl⟩ ?_
 rintro x w1 ⟨i,s,U,rfl,aC,ap,aq,h,aD,E⟩ X hX;dsimp only;apply dV<;>intro u;obtain⟨s,rfl⟩:∃k,s=k+1:=⟨s-1,by have:=zC u;omega⟩;rw[partialIns_succ] at E;refine hU (fun x w'=>∃(i:Nat) (G:Array Int),x=i/\a+1<=i/\i<=b/\gL eI T w0 w' G/\G.size=d.size/\partialIns ltInt a b s i G=partialIns ltInt a b 5 (a+1) d) ?_ ?_;refine je (fun x w'=>∃k:Nat,x=k/\a+1<=k/\k<=b/\gL eI T w0 w' U/\scanSorted ltInt U b k=scanSorted ltInt U b i) (fun x _=>((b:Int)-x).toNat) ⟨i,rfl,ap,aq,h,rfl⟩ ?_;rintro x w2 ⟨k,rfl,V,aa,h,al⟩ Z hZ;have hd:=scanSorted.eq_1 ltInt U b k;refine hU (fun c w'=>c=(decide (k<b)&&!ltInt U[k]! U[k-1]!)/\gL eI T w0 w' U) ?_ ?_;apply dV<;>intro u;have ad:k<b:=(by have:=zC u;omega);exact h.drew.rd k rfl oJ oJ<|h.drew.rd (k-1) (by rw[wi _ oJ];omega) oJ oJ<|rW<|⟨by simp[ad],h.drew⟩;have ad:¬k<b:=(by have:=zB u;omega);exact⟨by simp[ad],h.drew⟩;rintro c w3 ⟨rfl,h⟩;apply dV<;>intro u;have ar:=u;simp only[yB,decide_eq_true_eq] at u;rw[if_pos (oP ar)] at hd;rw[wi _ oJ];exact hZ _ _ ⟨k+1,oJ,oJ,oJ,h,hd.symm.trans al⟩ oJ;rw[if_neg (oP u)] at hd;rw[show scanSorted ltInt U b i=k by rw[<- al,hd]] at E;unfold fixUp fixDown at E;apply dV<;>intro u;have ae:k=b:=(by have:=yP.1 u;omega);rw[if_pos ae] at E;rw[<- E] at hk;exact hk _ h;have ae:¬k=b:=fun e=>by rw[e] at u;simp at u
 rw[if_neg ae] at E;rw[wi ((b:Int)-a) oJ];apply dV<;>intro u;have af:b-a<50:=(by have:=zC u;omega);rw[if_pos af] at E;rw[<- E] at hk;exact hk _ h;have af:¬b-a<50:=(by have:=zB u;omega);rw[if_neg af] at E;refine h.drew.swap k (k-1) rfl (by rw[wi _ oJ];omega) oJ oJ oJ fun w4 h=>?_;have am:(swp U k (k-1)).size=U.size:=Sort.size_swp _ _ _;generalize swp U k (k-1)=R at h E am;refine hU (fun _ w'=>gL eI T w0 w' (if k-a>=2 then shiftDown ltInt (k-1) R else R)/\(if k-a>=2 then shiftDown ltInt (k-1) R else R).size=R.size) ?_ ?_;rw[wi ((k:Int)-a) oJ];apply dV<;>intro u;have ag:k-a>=2:=(by have:=zC u;omega);simp only[if_pos ag];rw[wi ((k:Int)-1) oJ];refine je (fun x w'=>∃(j:Nat) (G:Array Int),x=j/\j<=k-1/\gL eI T w0 w' G/\G.size=R.size/\shiftDown ltInt j G=shiftDown ltInt (k-1) R) (fun x _=>x.toNat) ⟨k-1,R,oJ,oJ,h,rfl,rfl⟩ ?_;rintro x w5 ⟨j,d3,rfl,hj,h,ab,J⟩ Q hQ;apply dV<;>intro u;obtain⟨j,rfl⟩:∃m,j=m+1:=⟨j-1,by have:=zC u;omega⟩;rw[shiftDown] at J;refine h.drew.rd (j+1) rfl oJ oJ<|h.drew.rd j (by rw[wi _ oJ];omega) oJ oJ<|rW ?_;apply dV<;>intro u;rw[if_pos u] at J;rw[<- J];exact⟨h.drew,ab⟩;rw[if_neg (by rw[u];decide)] at J;refine h.drew.drew.swap (j+1) j rfl (by rw[wi _ oJ];omega) oJ oJ oJ fun w6 h=>?_;rw[wi _ oJ];exact hQ _ _ ⟨j,_,oJ,oJ,h,by rw[Sort.size_swp];exact ab,J⟩ oJ;have av:j=0:=(by have:=zB u;omega);subst av;rw[<- J];exact⟨h,ab⟩;have ag:¬k-a>=2:=(by have:=zB u;omega);simp only[if_neg ag];exact⟨h,trivial⟩;rintro _ w5 ⟨h,ab⟩;generalize (if k-a>=2 then shiftDown ltInt (k-1) R else R)=d3 at h E ab;rw[wi ((b:Int)-k) oJ];apply dV<;>intro u;have ah:b-k>=2:=(by have:=zC u;omega);rw[if_pos ah] at E;rw[wi ((k:Int)+1) oJ];refine je (fun x w'=>∃(j:Nat) (G:Array Int),x=j/\k+1<=j/\j<=b/\gL eI T w0 w' G/\G.size=d.size/\shiftUp ltInt b j G=shiftUp ltInt b (k+1) d3) (fun x _=>((b:Int)-x).toNat) ⟨k+1,d3,oJ,oJ,oJ,h,oJ,rfl⟩ ?_;rintro x w6 ⟨j,d4,rfl,aH,aI,h,ai,aj⟩ Q hQ;have I:=shiftUp.eq_1 ltInt b j d4;apply dV<;>intro u;have ak:j<b:=(by have:=zC u;omega);rw[if_pos ak] at I;refine h.drew.rd j rfl oJ oJ<|h.drew.rd (j-1) (by rw[wi _ oJ];omega) oJ oJ<|rW ?_;apply dV<;>intro u;rw[if_pos u] at I;rw[<- aj,I] at E;exact⟨k,d4,rfl,V,aa,h.drew,ai,E⟩;rw[if_neg (by rw[u];decide)] at I;refine h.drew.drew.swap j (j-1) rfl (by rw[wi _ oJ];omega) oJ oJ oJ fun w6 h=>?_;rw[wi _ oJ];exact hQ _ _ ⟨j+1,_,oJ,oJ,oJ,h,by rw[Sort.size_swp];exact ai,I.symm.trans aj⟩ oJ;have ak:¬j<b:=(by have:=zB u;omega);rw[if_neg ak] at I;rw[<- aj,I] at E;exact⟨k,d4,rfl,V,aa,h,ai,E⟩;have ah:¬b-k>=2:=(by have:=zB u;omega);rw[if_neg ah] at E;exact⟨k,d3,rfl,V,aa,h,oJ,E⟩;rintro x w2 ⟨k,R,rfl,V,aa,h,ax,ay⟩;rw[wi _ oJ];exact hX _ _ ⟨k,s,R,te rfl oJ,oJ,V,aa,h,ax,ay⟩ oN;have az:s=0:=(by have:=zB u;omega);subst az;rw[<- E] at hk;exact hk _ h
end
end
def qy3{s:ByteArray}{i:Int}{K:Int->Prop}(b:UInt8)(u:0<=i)(h:s[i.toNat]?=some b)(k:K (b.toNat:Int)):i3 s i K:=by unfold i3;exact⟨b,⟨u,h⟩,k⟩
def DU{k:Nat}(h:2^k<=n):bitsLen n=bitsLen (n / 2^k)+k:=by
 have I:bitsLen n<=bitsLen (n / 2^k)+k:=by
  rw[bitsLen_le_iff,Nat.pow_add]
  have:=lt_two_pow_bitsLen (n / 2^k)
  exact (Nat.div_lt_iff_lt_mul (Nat.two_pow_pos k)).1 this
 have J:bitsLen (n / 2^k)+k<=bitsLen n:=by
  have E:=lt_two_pow_bitsLen n;have G:k<=bitsLen n:=by
   rcases Nat.lt_or_ge (bitsLen n) k with u|u
   have:=Nat.pow_le_pow_right (show 0<2 by decide) (Nat.le_of_lt u);omega
   exact u
  have:bitsLen (n / 2^k)<=bitsLen n-k:=(by rw[bitsLen_le_iff,Nat.div_lt_iff_lt_mul (Nat.two_pow_pos k),<- Nat.pow_add,Nat.sub_add_cancel G];exact E);omega
 omega
def quy{k:Nat}(h:n<2^k):bitsLen n<=k:=(bitsLen_le_iff n k).2 h
def G6(n k:Nat):Int.fdiv (n:Int) ((k:Nat):Int)=((n / k:Nat):Int):=by rw[Int.fdiv_eq_ediv_of_nonneg _ oJ];rfl
def qxi(hn:n<18446744073709551616)(hk:K (bitsLen n:Nat) w):cW 222 [.int .u64 n] dj w K:=by apply qqi;refine hU (fun t w'=>∃m c:Nat,t=((m:Int),(c:Int))/\w=w'/\m<4294967296/\c<=32/\bitsLen n=bitsLen m+c) ?_ ?_;apply cD<;>intro hc;have h:=hc;refine⟨n / 2^32,32,te (G6 n (2^32)) rfl,rfl,oJ,oJ,DU oJ⟩;have h:=hc;exact⟨n,0,rfl,rfl,oJ,oJ,rfl⟩;rintro t w' ⟨m,c,rfl,rfl,hm,hc1,he⟩;dsimp only;refine hU (fun t w'=>∃m c:Nat,t=((m:Int),(c:Int))/\w=w'/\m<65536/\c<=48/\bitsLen n=bitsLen m+c) ?_ ?_;apply cD<;>intro hc;have h:=hc;refine⟨m / 2^16,c+16,te (G6 m (2^16)) (by rw[wi _ oJ];omega),rfl,oJ,oJ,by rw[he,DU (n:=m) (k:=16) oJ];omega⟩;have h:=hc;exact⟨m,c,rfl,rfl,oJ,oJ,he⟩;rintro t w' ⟨m,c,rfl,rfl,hm,hc1,he⟩;dsimp only;refine hU (fun t w'=>∃m c:Nat,t=((m:Int),(c:Int))/\w=w'/\m<256/\c<=56/\bitsLen n=bitsLen m+c) ?_ ?_;apply cD<;>intro hc;have h:=hc;refine⟨m / 2^8,c+8,te (G6 m (2^8)) (by rw[wi _ oJ];omega),rfl,oJ,oJ,by rw[he,DU (n:=m) (k:=8) oJ];omega⟩;have h:=hc;exact⟨m,c,rfl,rfl,oJ,oJ,he⟩;rintro t w' ⟨m,c,rfl,rfl,hm,hc1,he⟩;dsimp only;have hb:=quy (n:=m) (k:=8) oJ;rw[IntWalk.u8_in (m:Int) oJ];refine qy3 (UInt8.ofNat (bitsLen m)) oJ ?_ ?_;rw[zJ];clear he hb;revert m;decide +kernel;have e:(UInt8.ofNat (bitsLen m)).toNat=bitsLen m:=oO;rw[e,wi (bitsLen m:Nat) oJ,wi _ oJ];rw[he] at hk;rw[show (c:Int)+(bitsLen m:Nat)=((bitsLen m+c:Nat):Int) by omega];exact hk
def Ge(hn:n<18446744073709551616)(hk:K (bitsLen n:Nat) w):cW 178 [.int .u64 n] dj w K:=by apply qsB;exact qxi hn hk
section
structure jI (eI:Nat) (T:ko) (w0 w:World) (d:Array Int) (sb:Nat) (k:IntKind) (v:Int):Prop where
 arr:gL eI T w0 w d
 cell:∃ T2,w.heap[sb]?=some (.cells #[.int k v] T2 (0,0))
 ne:sb≠eI
 new:w0.heap.size<=sb
section
variable {eI:Nat} {T:ko} {w0 w:World} {d:Array Int} {len cap sb:Nat} {k:IntKind} {v:Int}
def jI.drew(h:jI eI T w0 w d sb k v):jI eI T w0 w.drew d sb k v:=⟨h.arr.drew,h.cell,h.ne,h.new⟩
def jI.get(h:jI eI T w0 w d sb k v){K:Int->Prop}(u:K v):ld (.int k) (dh sb) w K:=by obtain⟨G,E⟩:=h.cell;exact iI E v rfl u
def jI.put(h:jI eI T w0 w d sb k v)(u:Int){K:WP}(G:∀w',jI eI T w0 w' d sb k u->K w'):st (dh sb) [.int k u] w K:=by
 obtain⟨I,E⟩:=h.cell;unfold st;refine ya (w:=w) [.int k u] 0 0 _ w K E rfl oL (G _ ⟨⟨?_,?_⟩,⟨I,?_⟩,h.ne,h.new⟩);refine h.arr.fr.j8 (T:=[sb]) ⟨rfl,rfl,rfl,by rw[uB];exact zM _,fun j U J=>?_⟩ (fun i R=>.inr ?_);rw[oV _ _ _ _ (eV E),if_neg (oP J)]
 have:=h.new
 simp at R;omega;rw[oV _ _ _ _ (eV E),if_neg (fun e=>h.ne e.symm)];exact h.arr.eI;rw[oV _ _ _ _ (eV E),if_pos rfl];rfl
def jI.mk'(h:gL eI T w0 w d)(E:TypeId)(u:Int){K:Nat->WP}(G:∀b w',jI eI T w0 w' d b k u->K b w'):Pt.new (.cells #[.int k u] E (0,0)) w K:=by
 unfold Pt.new;refine G _ _ ⟨⟨h.fr.alloc _,?_⟩,⟨E,?_⟩,?_,h.fr.size⟩
 have:=eV h.eI
 rw[wv,iN];exact h.eI;rw[wv,if_pos rfl]
 have:=eV h.eI
 omega
def Gb{K:Int×Int->WP}(h:jI eI T w0 w d sb .i64 v)(I:a<len)(J:b<len)(E:len<=d.size/\len<=1152921504606846976)(G:∀(p q:Nat) u w',(p=a/\q=b\/p=b/\q=a)->jI eI T w0 w' d sb .i64 u->K ((p:Int),(q:Int)) w'): cW 260 [.slice (pW eI) len cap,.i a,.i b,dF sb] dm w K:=by refine qgh (data:=⟨pW eI,len,cap⟩)<|h.arr.drew.rd b rfl J E<|h.arr.drew.rd a rfl I E<|rW ?_;apply dV<;>intro R;exact fG<|h.drew.get<|fG<|h.drew.put _ fun w' h=>G b a _ _ (.inr ⟨rfl,rfl⟩) h;exact G a b _ _ (.inl ⟨rfl,rfl⟩) h.drew
def qo5{c:Nat}(h:jI eI T w0 w d sb .i64 v)(I:a<len)(J:b<len)(R:c<len)(E:len<=d.size/\len<=1152921504606846976)(U:∀(p:Nat) u w',(p=a\/p=b\/p=c)->jI eI T w0 w' d sb .i64 u->K (p:Int) w'): cW 246 [.slice (pW eI) len cap,.i a,.i b,.i c,dF sb] dj w K:=by refine qgg (data:=⟨pW eI,len,cap⟩) ?_;dsimp only;refine Gb h I J E fun p q u w1 hp h=>?_;dsimp only;refine Gb h oJ R E fun p' q' u w1 V h=>?_;dsimp only;exact Gb h oJ oJ E fun aa ab u w1 G h=>U _ _ _ oJ h
def GF(h:jI eI T w0 w d sb .i64 v)(I:1<=a)(J:a+1<len)(E:len<=d.size/\len<=1152921504606846976)(G:∀(p:Nat) u w',(a<=p+1/\p<=a+1)->jI eI T w0 w' d sb .i64 u->K (p:Int) w'): cW 245 [.slice (pW eI) len cap,.i a,dF sb] dj w K:=by refine qdz (data:=⟨pW eI,len,cap⟩) ?_;dsimp only;rw[wi ((a:Int)-1) oJ,wi ((a:Int)+1) oJ,show (a:Int)-1=((a-1:Nat):Int) by omega,show (a:Int)+1=((a+1:Nat):Int) by omega];exact qo5 h oJ oJ oJ E fun p u w' R h=>G p u w' oJ h
def qxq{K:Int×Int->WP}(h:gL eI T w0 w d)(ac:a<b)(hb:b<=len)(J:len<=d.size/\len<=1152921504606846976)(R:∀(p:Nat) (x:Int) w',a<=p/\p<b->gL eI T w0 w' d->K ((p:Int),x) w'): cW 215 [.slice (pW eI) len cap,.i a,.i b] dm w K:=by
 refine qes (data:=⟨pW eI,len,cap⟩) ?_;dsimp only;have e0:IntKind.i64.wrap ((b:Int)-a)=((b-a:Nat):Int):=(by rw[wi _ oJ];omega);have e4:Int.tdiv ((b-a:Nat):Int) 4=(((b-a) / 4:Nat):Int):=(by rw[Int.tdiv_eq_ediv_of_nonneg oJ];omega);have e1:∀m:Nat,m<=3->IntKind.i64.wrap ((a:Int)+IntKind.i64.wrap (IntKind.i64.wrap (((b-a) / 4:Nat):Int)*(m:Int)))=((a+(b-a) / 4*m:Nat):Int):=by intro m U;have hq:(b-a) / 4*m<=(b-a) / 4*3:=Nat.mul_le_mul_left _ U;have hz:(((b-a) / 4:Nat):Int)*(m:Int)=(((b-a) / 4*m:Nat):Int):=(by push_cast;rfl);rw[wi (((b-a) / 4:Nat):Int) oJ,hz,wi (((b-a) / 4*m:Nat):Int) oJ,wi _ oJ];omega
 have V:=e1 1 oJ;have f2:=e1 2 oJ;have f3:=e1 3 oJ;simp only[Int.cast_ofNat_Int] at V f2 f3;rw[e0,e4,V,f2,f3];refine jI.mk' h _ _ fun sb w1 h=>hU (fun x w'=>∃(p:Nat) (u:Int),x=p/\a<=p/\p<b/\jI eI T w0 w' d sb .i64 u) ?_ ?_;apply cD<;>intro E;have h8:b-a>=8:=oJ;refine hU (fun x w'=>∃(p q r:Nat) (u:Int),x=((p:Int),(q:Int),(r:Int))/\a<=p/\p<b/\a<=q/\q<b/\a<=r/\r<b/\jI eI T w0 w' d sb .i64 u) ?_ ?_;apply cD<;>intro E;have ag:b-a>=50:=oJ;exact GF h oJ oJ J fun p u w2 hp h=>GF h oJ oJ J fun q u w2 hq h=>GF h oJ oJ J fun r u w2 hr h=>⟨p,q,r,u,rfl,oJ,oJ,oJ,oJ,oJ,oJ,h⟩;exact⟨_,_,_,_,rfl,oJ,oJ,oJ,oJ,oJ,oJ,h⟩;rintro x w2 ⟨p,q,r,u,rfl,G,I,ah,ai,aj,ak,h⟩;dsimp only;exact qo5 h oJ oJ oJ J fun m u w3 U h=>⟨m,u,rfl,oJ,oJ,h⟩;exact⟨_,_,rfl,oJ,oJ,h⟩;rintro x w2 ⟨p,u,rfl,G,I,h⟩;refine h.get ?_;apply cD<;>intro E;exact R _ _ _ ⟨G,I⟩ h.arr;apply cD<;>intro E;exact R _ _ _ ⟨G,I⟩ h.arr;exact R _ _ _ ⟨G,I⟩ h.arr
end
end
section
section
variable {eI:Nat} {T:ko} {w0 w:World} {d:Array Int} {len cap sb:Nat} {k:IntKind} {v:Int}
def gL.E1(h:gL eI T w0 w d):gL eI T w w d:=⟨.refl _ _,h.eI⟩
def jI.step(h:jI eI T w0 w d sb k v){w':World}{u:Array Int}(g:gL eI T w w' u):jI eI T w0 w' u sb k v:=by obtain⟨G,E⟩:=h.cell;refine⟨⟨h.arr.fr.trans g.fr,g.eI⟩,⟨G,?_⟩,h.ne,h.new⟩;rw[g.fr.block sb (eV E) (oP h.ne)];exact E
def qyJ(h:jI eI T w0 w d sb .u64 v)(u:∀(x:Int) w',0<=x/\x<=18446744073709551615->jI eI T w0 w' d sb .u64 x->K x w'): cW 244 [dF sb] dx w K:=by refine qgi<|fG (h.drew.get (fG (h.drew.get (fG (h.drew.put _ fun w1 h=>?_)))));refine fG (h.drew.get (fG (h.drew.get (fG (h.drew.put _ fun w1 h=>?_)))));refine fG (h.drew.get (fG (h.drew.get (fG (h.drew.put _ fun w1 h=>?_)))));refine fG (h.get ?_);exact u _ _ (bits_within .xor .u64 _ _) h
def qzL{w:World}(E:1<=n/\n<=1152921504606846976)(h:K ((2^bitsLen n:Nat):Int) w):cW 243 [.i n] dx w K:=by apply qfZ;rw[IntWalk.u64_in (n:Int) oJ];refine Ge oJ<|pD oJ ?_;have G:=two_pow_bitsLen_le (n:=n) oJ;have I:bitsLen n<=61:=(bitsLen_le_iff n 61).2 oJ;rw[zJ,xR oJ];have e:(1:Int)*2^bitsLen n=((2^bitsLen n:Nat):Int):=(by rw[Int.one_mul];push_cast;rfl);have u:(0:Int)<=((2^bitsLen n:Nat):Int):=Int.natCast_nonneg _;rw[e,IntWalk.u64_in _ oJ];exact h
def qxc{K:Unit->WP}(h:gL eI T w0 w d)(V:a<=b)(hb:b<=len)(hl:len<=d.size/\len<=1152921504606846976)(R:∀G w',PermIn a b d G->gL eI T w0 w' G->K () w'): cW 214 [.slice (pW eI) len cap,.i a,.i b] [] w K:=by
 refine qdS (data:=⟨pW eI,len,cap⟩) ?_;have e0:IntKind.i64.wrap ((b:Int)-a)=((b-a:Nat):Int):=(by rw[wi _ oJ];omega);rw[e0];apply cD<;>intro E;have h8:b-a>=8:=oJ;have e4:Int.tdiv ((b-a:Nat):Int) 4=(((b-a) / 4:Nat):Int):=(by rw[Int.tdiv_eq_ediv_of_nonneg oJ];omega);have e1:IntKind.i64.wrap ((a:Int)+IntKind.i64.wrap (IntKind.i64.wrap (((b-a) / 4:Nat):Int)*2))=((a+(b-a) / 4*2:Nat):Int):=by rw[wi (((b-a) / 4:Nat):Int) oJ,wi ((((b-a) / 4:Nat):Int)*2) oJ,wi _ oJ];omega
 rw[e4,e1,IntWalk.u64_in ((b-a:Nat):Int) oJ];refine jI.mk' h _ _ fun sb w1 h=>h.put _ fun w2 h=>qzL oJ ?_;have ab:=two_pow_bitsLen_le (n:=b-a) oJ;have I:=Nat.two_pow_pos (bitsLen (b-a));rw[wi (_-1) oJ,wi (_+1) oJ];refine je (fun x w'=>∃(i:Nat) (G:Array Int) (u:Int),x=i/\a<=i/\i<=a+(b-a) / 4*2+2/\PermIn a b d G/\jI eI T w0 w' G sb .u64 u) (fun x _=>(((a+(b-a) / 4*2+2:Nat):Int)-x).toNat)
  ⟨a+(b-a) / 4*2-1,d,_,oJ,oJ,oJ,permIn_refl _ _ _,h⟩ ?_
 rintro x w3 ⟨i,U,u,rfl,ac,ad,J,h⟩ X hX;have af:=J.1;apply cD<;>intro E;have ag:i<=a+(b-a) / 4*2+1:=oJ;refine qyJ h fun y w4 hy h=>?_;obtain⟨z,rfl⟩:∃z:Nat,y=z:=⟨y.toNat,oJ⟩;have ez:bits .and .u64 (z:Int) (IntKind.u64.wrap (((2^bitsLen (b-a):Nat):Int)-1))=((z%2^bitsLen (b-a):Nat):Int):=by rw[IntWalk.u64_in _ oJ,show ((2^bitsLen (b-a):Nat):Int)-1=((2^bitsLen (b-a)-1:Nat):Int) by omega,bits_and_u64_nat z _ oJ oJ,Nat.and_two_pow_sub_one_eq_mod]
 rw[ez];have hz:=Nat.mod_lt z I;rw[wi ((z%2^bitsLen (b-a):Nat):Int) oJ];refine hU (fun x w'=>∃o:Nat,x=o/\o<b-a/\jI eI T w0 w' U sb .u64 z) ?_ ?_;apply cD<;>intro E
 have:=E
 exact⟨z%2^bitsLen (b-a)-(b-a),by rw[wi _ oJ];omega,oJ,h⟩
 have:=E
 exact⟨z%2^bitsLen (b-a),rfl,oJ,h⟩;rintro x w5 ⟨o,rfl,ho,h⟩;refine h.drew.arr.E1.swap i (a+o) rfl (by rw[wi _ oJ];omega) oJ oJ oJ fun w6 h6=>?_;rw[wi _ oJ];exact hX _ _ ⟨i+1,_,_,oJ,oJ,oJ,permIn_trans _ _ _ _ _ J (swp_permIn _ _ _ _ _ oJ oJ oJ oJ oJ),h.drew.step h6⟩ oJ;exact R U _ J h.arr;exact R d _ (permIn_refl _ _ _) h
end
end
section
section
variable {eI:Nat} {T:ko} {len cap:Nat}
def qzK:∀(n:Nat) {w0 w:World} {d:Array Int} {a b:Nat} {limit:Int} {K:Unit->WP},b-a<=n->gL eI T w0 w d->a<=b->b<=len->(len<=d.size/\len<=1152921504606846976)->Sort.Below ltInt a b d-> (∀d' w',PermIn a b d d'->SortedIn ltInt a b d'->gL eI T w0 w' d'->K () w')-> cW 177 [.slice (pW eI) len cap,.i a,.i b,.i limit] [] w K:=by
 intro n;induction n using Nat.strongRecOn with
 | _ n ih=>
 intro w0 w d a0 b0 limit0 K hn h hab hb hl hB hk;refine qcG (data:=⟨pW eI,len,cap⟩) ?_;dsimp only;refine je (fun x w'=>∃(a b:Nat) (l:Int) (wb wp:Bool) (d':Array Int),x=((a:Int),(b:Int),l,wb,wp)/\b-a<=n/\a<=b/\b<=len/\d'.size=d.size/\Sort.Below ltInt a b d'/\gL eI T w0 w' d'/\
   ∀R,PermIn a b d' R->SortedIn ltInt a b R->PermIn a0 b0 d R/\SortedIn ltInt a0 b0 R) (fun x _=>(x.2.1-x.1).toNat)
  ⟨a0,b0,limit0,true,true,d,rfl,hn,hab,hb,rfl,hB,h,fun R h1 h2=>⟨h1,h2⟩⟩ ?_
 rintro x w1 ⟨a,b,l,wb,wp,d1,rfl,hn1,hab,hb,hs1,hB,h,hR⟩ X hX;dsimp only;have e0:IntKind.i64.wrap ((b:Int)-a)=((b-a:Nat):Int):=(by rw[wi _ oJ];omega);rw[e0];apply dV<;>intro hc;refine qzJ h hab hb oJ fun w2 h=>?_;obtain⟨h1,h2⟩:=insertionSort_holds BQ d1 a b hab oJ;obtain⟨h3,h4⟩:=hR _ h1 h2;exact hk _ _ h3 h4 h;have h12:12<b-a:=(by have:=zB hc;omega);apply dV<;>intro hc;refine qyI h hab hb oJ fun w2 h=>?_;obtain⟨h1,h2⟩:=heapSort_holds BQ d1 a b hab oJ;obtain⟨h3,h4⟩:=hR _ h1 h2;exact hk _ _ h3 h4 h;refine hU (fun _ w'=>∃d2,PermIn a b d1 d2/\gL eI T w0 w' d2) ?_ ?_;apply dV<;>intro hc;exact qxc h hab hb oJ fun d2 w2 hp h=>⟨d2,hp,h⟩;exact⟨d1,permIn_refl _ _ _,h⟩;rintro lim w2 ⟨d2,hp2,h⟩;have hs2:=hp2.1;refine qxq h oJ hb oJ fun p hint w3 hpp h=>?_;dsimp only;refine hU (fun x w'=>∃(p:Nat) (hint:Int) (d3:Array Int),x=((p:Int),hint)/\a<=p/\p<b/\PermIn a b d1 d3/\gL eI T w0 w' d3) ?_ ?_;apply dV<;>intro hc;refine qzM h oJ hb oJ fun w4 h=>⟨(b-1)-(p-a),1,_,te ?_ rfl,oJ,oJ,permIn_trans _ _ _ _ _ hp2 (reverseRange_holds _ _ _ hab oJ),h⟩;rw[wi ((b:Int)-1) oJ,wi ((p:Int)-a) oJ,wi _ oJ];omega;exact⟨p,hint,d2,rfl,hpp.1,hpp.2,hp2,h⟩;rintro x w4 ⟨p,hint,d3,rfl,hp1,hp2,hp3,h⟩;have hs3:=hp3.1;dsimp only;refine hU (fun _ w'=>∃d4,PermIn a b d1 d4/\gL eI T w0 w' d4) ?_ ?_;refine hU (fun _ w'=>gL eI T w0 w' d3) ?_ ?_;apply dV<;>intro hc;apply dV<;>intro hc;exact h;exact h;exact h;rintro c w5 h;apply dV<;>intro hc;refine qxr h oJ hb oJ fun w6 h=>?_;obtain⟨h1,h2⟩:=partialInsertionSort_holds BQ d3 a b oJ oJ (hB.perm oJ hp3);apply dV<;>intro hc;obtain⟨h3,h4⟩:=hR _ (permIn_trans _ _ _ _ _ hp3 h1) (h2 hc);exact hk _ _ h3 h4 h;exact⟨_,permIn_trans _ _ _ _ _ hp3 h1,h⟩;exact⟨d3,hp3,h⟩;rintro _ w5 ⟨d4,hp4,h⟩;have hs4:=hp4.1;have hB4:=hB.perm oJ hp4;refine hU (fun c w'=>c=(decide (0<a)&&!ltInt d4[a-1]! d4[p]!)/\gL eI T w0 w' d4) ?_ ?_;apply dV<;>intro hc;have ha:0<a:=(by have:=zC hc;omega);exact h.drew.rd (a-1) (by rw[wi _ oJ];omega) oJ oJ<|h.drew.rd p rfl oJ oJ<|rW<|⟨by simp[ha],h.drew⟩;have ha:¬0<a:=(by have:=zB hc;omega);exact⟨by simp[ha],h.drew⟩;rintro c w6 ⟨rfl,h⟩;apply dV<;>intro hc;simp only[yB,decide_eq_true_eq,zT] at hc;have hr:=round_eq BQ (partitionEqual_holds ltInt) hc.1 hp1 hp2 oJ hB4 hc.2 (mid:=(Sort.partitionEqual ltInt d4 a b p).1) (d4:=(Sort.partitionEqual ltInt d4 a b p).2) rfl;refine qvD h hp1 hp2 hb oJ fun w7 h=>?_;obtain⟨h1,h2,h3,h4,h5⟩:=hr;refine hX _ _ ⟨_,b,lim,wb,wp,_,rfl,oJ,h2,hb,oJ,h4,h,fun R r1 r2=>?_⟩ oN;obtain⟨q1,q2⟩:=h5 R r1 r2;exact hR R (permIn_trans _ _ _ _ _ hp4 q1) q2;have hr:=round_part BQ (partition_holds ltInt) hp1 hp2 oJ hB4 (mid:=(Sort.partition ltInt d4 a b p).1) (ap:=(Sort.partition ltInt d4 a b p).2.1) (d4:=(Sort.partition ltInt d4 a b p).2.2) rfl;refine qyL h hp1 hp2 hb oJ fun w7 h=>?_;obtain⟨h1,h2,h3,h4,h5,h6,h7⟩:=hr;dsimp only;generalize (Sort.partition ltInt d4 a b p).1=mid at *
 generalize (Sort.partition ltInt d4 a b p).2.2=d5 at *
 rw[wi ((mid:Int)-a) oJ,wi ((b:Int)-mid) oJ,wi ((mid:Int)+1) oJ,show (mid:Int)+1=((mid+1:Nat):Int) by omega];apply cD<;>intro hc;have hlt:mid-a<b-mid:=oJ;refine ih (mid-a) oJ (zM _) h h1 oJ oJ h4 fun d6 w8 r1 r2 h=>?_;obtain⟨q1,q2⟩:=h6 d6 r1 r2;refine hX _ _ ⟨mid+1,b,lim,_,_,d6,rfl,oJ,oJ,hb,by have:=r1.1;omega,q1,h,fun R s1 s2=>?_⟩ oN;obtain⟨t1,t2⟩:=q2 R s1 s2;exact hR R (permIn_trans _ _ _ _ _ hp4 t1) t2;refine ih (b-(mid+1)) oJ (zM _) h oJ hb oJ h5 fun d6 w8 r1 r2 h=>?_;obtain⟨q1,q2⟩:=h7 d6 r1 r2;refine hX _ _ ⟨a,mid,lim,_,_,d6,rfl,oJ,oJ,oJ,by have:=r1.1;omega,q1,h,fun R s1 s2=>?_⟩ oN;obtain⟨t1,t2⟩:=q2 R s1 s2;exact hR R (permIn_trans _ _ _ _ _ hp4 t1) t2
def qtg{w0:World}{K:Unit->WP}(h:gL eI T w0 w d)(E:len<=d.size/\len<=1152921504606846976)(G:∀u w',PermIn 0 len d u->SortedIn ltInt 0 len u->gL eI T w0 w' u->K () w'): cW 148 [.slice (pW eI) len cap] [] w K:=by refine qhY (x:=⟨pW eI,len,cap⟩) ?_;dsimp only;rw[IntWalk.u64_in (len:Int) oJ];exact Ge oJ<|qzK len (a:=0) oJ h oJ (zM _) E (.inl rfl) G
def qqX{K:Unit->WP}(h:K () w):cW 148 [.slice none 0 0] [] w K:=by refine qhY (x:=dG) ?_;dsimp only;rw[IntWalk.u64_in ((0:Nat):Int) oJ];exact Ge (n:=0) oJ<|qcG (data:=dG)<|AJ fun X u=>cond_true (by decide +kernel)<|qbK (data:=dG)<|AJ fun X u=>cond_false (by decide +kernel) h
end
end
def qxd{rb cap:Nat}{T:TypeId}{K:Sl->WP}(J:w.heap[rb]?=some (.cells (io d) T (0,0)))(ah:n<=d.size)(hn:n<=1000000)(hk:∀b V h T' w',w'.heap[b]?=some (.cells (io V) T' (0,0))->n<=V.size->n<=h/\h<=V.size->V.toList.take n=d.toList.take n->w.heap.size<=b->Fr [] w w'->K ⟨pW b,n,h⟩ w'): cW 176 [.slice (pW rb) n cap] di w K:=by
 obtain⟨aa,hi,hz,ab,ac⟩:=vU;refine qgO (s:=⟨pW rb,n,cap⟩)<|cond_false rfl ?_;have E:=oE [] w;refine dQ.new E fun tb w1 et ak E=>?_;have ad:w1.heap[rb]?=some (.cells (io d) T (0,0)):=(by rw[E.fr.block rb (eV J) oL];exact J);have I:∀(j:Nat) u,((d.toList.take n).map (Value.int .u32))[j]?=some u->w1.cell? (((dh rb):Addr).add j)=some u:=fun j u G=>by rw[Addr.q9,jq ad,xS];rw[zQ,xB] at G;by_cases hjn:j<n;rw[if_pos hjn] at G;unfold io;rw[Array.getElem?_map];simpa using G;rw[if_neg hjn] at G;cases G
 have R:((d.toList.take n).map (Value.int .u32)).length=n:=oO;dsimp only;by_cases h0:n=0;subst h0;refine qtm (P:=prog) (e:=63) oK hi [] (E.at (i:=0) rfl) oL (fun j u G=>by simp at G) oL oJ oL ?_;have U:=E.gW (o':=.cells (dS #[] (0+0*aa.size) []) 63 (0,0)) 0 rfl
 have:=U.at (i:=0) rfl
 have e:io #[] = #[]:=(by simp[io]);exact hk tb #[] 0 63 _ (by rw[e];exact this) oL ⟨zM _,zM _⟩ oL oJ U.fr;refine qq0 (P:=prog) (e:=63) oK hi hz [] ((d.toList.take n).map (Value.int .u32)) oL (fun j u G=>by simp at G) (by rw[R,ab];omega) I oJ (by rw[ac];omega) oJ fun q al am=>?_;rw[qog _ _ rfl];have ae:([]:List Value).toArray++((d.toList.take n).map (Value.int .u32)).toArray++Array.replicate (q-(0+n)) (.u 0)=io ((d.toList.take n++List.replicate (q-(0+n)) (0:Int)).toArray):=(by rw[D9];apply Array.ext';simp);rw[ae];have E:=E.drew.alloc (.cells (io ((d.toList.take n++List.replicate (q-(0+n)) (0:Int)).toArray)) 63 (0,0));have hl:(d.toList.take n).length=n:=oO;rw[xS];refine hk _ _ q _ _ (by have:=E.at (i:=0) rfl;rw[xS] at this;exact this) oO ⟨oJ,by simp;omega⟩ ?_ (by show w.heap.size<=w1.heap.size;omega) (by rw[xS] at E;exact E.fr);show ((d.toList.take n++List.replicate (q-n) (0:Int))).take n=_;rw[take_append_of_le_length oJ,take_take,Nat.min_self]
def Fe:∀ {u E:List Int},u.Perm E->u.Pairwise (·<=·)->E.Pairwise (·<=·)->u=E
 | [],E,h,_,_=>h.nil_eq
 | a::u,[],h,_,_=>absurd h.symm.nil_eq oL
 | a::u,b::E,h,U,V=>by
  have G:=yJ.1 U;have I:=yJ.1 V;have J:a=b:=by
   have m1:a∈b::E:=h.mem_iff.1 oL;have m2:b∈a::u:=h.mem_iff.2 oL;rcases zG.1 m1 with e|e;exact e;rcases zG.1 m2 with R|R;exact R.symm
   have:=I.1 a e
   have:=G.1 b R
   omega
  subst J;rw[Fe h.cons_inv G.2 I.2]
def Told (w w':World) (s:Sl) (l:List Int):Prop:=
 (l=[]/\s=dG)\/∃b d T cap,s=⟨pW b,l.length,cap⟩/\w'.heap[b]?=some (.cells (io d) T (0,0))/\l.length<=d.size/\l.length<=cap/\d.toList.take l.length=l/\w.heap.size<=b/\cap<=d.size
def qte{K:Sl->WP}(h:gO w pb F l)(hl:l.length<=1000000)(hk:∀s w',Told w w' s l->Fr [] w w'->K s w'):cW 147 [dF pb] di w K:=by
 refine qk8 ?_;have u:=h.pZ;obtain⟨mb,R,d,f,rfl,hr,hm,hp,hh,hf,h1⟩:=h.ex;rcases hr with ⟨h0,hd,hR,J⟩|⟨rb,T,hR,J,U,ar,V⟩;have aa:l=[]:=eq_nil_of_length_eq_zero h0;subst aa;exact fG<|iI J dG rfl<|qgO<|cond_true rfl<|qqX<|hk _ _ (.inl ⟨rfl,rfl⟩) (.refl _ _);refine fG<|iI J ⟨pW rb,l.length,d.size⟩ rfl ?_;dsimp only;refine qxd U V hl fun b d' E T' w' c1 c2 ab c3 c4 c5=>?_;dsimp only;refine qtg (.start c1) ⟨c2,oJ⟩ fun d2 w2 s1 s2 s3=>?_;have az:=s1.1;refine hk _ _ (.inr ⟨b,d2,T',E,rfl,s3.eI,oJ,ab.1,?_,c4,oJ⟩) (c5.j8 s3.fr fun i G=>by simp at G;subst G;exact .inr c4);refine Fe ((Bg s1).trans (by rw[c3];exact hp)) ?_ (u.imp Int.le_of_lt);rw[pairwise_iff_getElem];intro i j G hj ad;have ae:i<l.length:=(by simp at G;omega);have I:j<l.length:=(by simp at hj;omega);have g1:=zk (d:=d2) rfl ae oJ;have g2:=zk (d:=d2) rfl I oJ;rw[zA G] at g1;rw[zA hj] at g2;rw[yO g1,yO g2]
 have:=s2 i j oJ ad I
 simp[ltInt] at this;exact this
abbrev iz:Int->List Value:=fun n=>[Value.int .u32 n]
abbrev Rd (S:List Nat) (w:World) (s:Sl) (l:List Int):Prop:=ed iz 1 S w s l
abbrev lc (w:World) (s:Sl) (l:List Int) (B:List Nat):Prop:=eP iz 1 w s l B
def qZ:∀x,(iz x).length=1:=fun _=>rfl
def Rd.at{s:Sl}(h:Rd S w s l)(n:Nat){i x:Int}{K:Int->Prop}(hi:i=n)(E:l[n]?=some x)(k:K x):idx s i 1 fun a=>ld .u a w K:=
 ed.get (y:=x) h n hi E rfl k
def EX{s:Sl}{B:List Nat}{x:Int}{T:TypeId}{K:Sl->WP}(h:lc w s l B)(V:l.length<=1000000)(J:∀I B' w',lc w' I (l++[x]) B'->Fr B w w'->(∀b∈B',b∈B\/w.heap.size<=b)->K I w'): Pt.new (.cells #[.u x] T) w fun r w1=>Pt.run di ((Builtin.append_ #[172,172] 172 #[s.v,.slice (pW r) 1 1]).run prog w1) K:=by obtain⟨i,R,U,E,G⟩:=vU;exact eP.push (e:=63) h qZ (by simp[Value.oneCell']) oK R U E rfl rfl (by rw[G];omega) oJ J
def CB{w0:World}{F':List Nat}(u:∀b∈F,w0.heap.size<=b)(G:w0.heap.size<=w.heap.size)(h:∀b∈F',b∈F\/w.heap.size<=b):∀b∈F',w0.heap.size<=b:=by intro b E;rcases h b E with h|h;exact u b h;omega
end
section
set_option maxRecDepth 100000
open Go Go.Pt
end
section
set_option maxRecDepth 100000
open Go Go.Pt
variable {K:Int->WP} {s:Option Addr} {w:World}
@[reducible] def BL:List Cell:=kL
@[reducible] def qyu:List Cell:=pq
@[reducible] def wg:List Cell:=jd
@[reducible] def BT:List Cell:=mz

def qsi{p:Option Addr}{K:((Option Addr))->WP}(hF:new (.cells #[.pointer p] 100) w fun a b=>K (pW a) b):cW 63 [.pointer p] dw w K:=eG (an:=[]) func63 hF

def qfA{a:HL BL}(hF:new (.cells (List.toArray (HL.mk BL a)) 74) w fun b c=>dK (BL) (dh b) c fun d=>cW 52 ([fQ BL d]) dq c fun (e:Sl×Sl) f=>nn s fun g=>ld .ptr g f fun h=>cW 50 ([.pointer h,.i 0,e.fst.v,e.snd.v]) dj f fun (i:Int) j=>K i j):cW 20 [.pointer s,fQ BL a] dj w K:=eG (an:=[]) func20 hF

def qfa{x:List Value}(hF:new (.cells (List.toArray x) 79) w fun b c=>dK (qyu) (dh b) c fun d=>new (.cells #[.int .u64 0,.int .u64 0,.int .u64 0,.int .u64 0,.int .u64 0,.int .u64 0,.int .u64 0,.int .u64 0,.int .u64 0,.int .u64 0,.int .u64 0,.u 0,.u 0,.int .u16 0,.int .u16 0,.int .u64 0] 77) c fun e f=>st (dh e) (HL.mk qyu d) f fun g=>iF 18 (dh b) g fun h=>cW 59 ([.agg (List.toArray h)]) dq g fun (i:Sl×Sl) j=>nn s fun k=>ld .ptr k j fun l=>cW 50 ([.pointer l,.i 1,i.fst.v,i.snd.v]) dj j fun (m:Int) n=>cond (!m==0) (K m n) (nn s fun o=>ld .ptr o n.drew fun p=>dK dg (dh e 2) n.drew fun q=>ld (.int .u64) (dh e 15) n.drew fun (r:Int)=>dK dg (dh e) n.drew fun t=>cW 38 ([df q.fst q.snd,.int .u64 r]) di n.drew fun u v=>held [i4 (dh e) 0 ([.int .u64 t.fst,.int .u64 t.snd]),dR o (.pointer p)] v<|cW 55 ([df t.fst t.snd]) di v fun A B=>held [dR o (.pointer p)] B<|cW 50 ([.pointer p,.i 4,u.v,A.v]) dj B fun (D:Int) E=>cond (!D==0) (K D E) (nn s fun F=>ld .ptr F E.drew fun G=>dK dg (dh e 4) E.drew fun H=>ld (.int .u64) (dh e 15) E.drew fun (I:Int)=>dK dg (dh e) E.drew fun J=>cW 38 ([df H.fst H.snd,.int .u64 I]) di E.drew fun L M=>held [i4 (dh e) 0 ([.int .u64 J.fst,.int .u64 J.snd]),dR F (.pointer G)] M<|cW 55 ([df J.fst J.snd]) di M fun P Q=>held [dR F (.pointer G)] Q<|cW 50 ([.pointer G,.i 5,L.v,P.v]) dj Q fun (S:Int) T=>K S T))):cW 24 [.pointer s,.agg x.toArray] dj w K:=eG (an:=aS [(9,.o [[0,1,2,3,4,5,6,7,9,10,8,11,12,13]]),(3,.o [[0,1,2,3,4,5,6,7,9,10,8,11,12,13]])]) func24 hF

def qf2{id0 id1 state:Int}(hF:new (.cells #[.int .u64 id0,.int .u64 id1] 39) w fun b c=>(nn s fun d=>ld .ptr d c.drew fun e=>dK dg (dh b) c.drew fun f=>cW 55 ([df f.fst f.snd]) di c.drew fun g h=>held [dR d (.pointer e)] h<|new (.cells #[.b state] 5) h fun j k=>held [i4 (dh b) 0 ([.int .u64 f.fst,.int .u64 f.snd]),dR d (.pointer e)] k<|cW 50 ([.pointer e,.i 2,g.v,.slice (pW j) 1 1]) dj k fun (n:Int) o=>K n o)/\(nn s fun p=>ld .ptr p c.drew fun q=>dK dg (dh b) c.drew fun r=>new (.cells #[.b state] 5) c.drew fun t u=>held [i4 (dh b) 0 ([.int .u64 r.fst,.int .u64 r.snd]),dR p (.pointer q)] u<|cW 55 ([df r.fst r.snd]) di u fun y z=>held [dR p (.pointer q)] z<|cW 50 ([.pointer q,.i 2,y.v,.slice (pW t) 1 1]) dj z fun (B:Int) C=>K B C)):cW 67 [.pointer s,df id0 id1,.b state] dj w K:=eG (an:=[.n,.n,.o [[0,1,2,3,4,6,5,7,8,9],[0,1,2,3,4,6,7,5,8,9]]]) func67 hF

def qh2{d0 d1 d2 d3:Int}(hF:new (.cells #[.int .u64 d0,.int .u64 d1,.int .u64 d2,.int .u64 d3] 41) w fun b c=>dK (wg) (dh b) c fun d=>cW 60 ([fQ wg d]) dq c fun (e:Sl×Sl) f=>nn s fun g=>ld .ptr g f fun h=>cW 50 ([.pointer h,.i 3,e.fst.v,e.snd.v]) dj f fun (i:Int) j=>K i j):cW 26 [.pointer s,.agg #[.int .u64 d0,.int .u64 d1,.int .u64 d2,.int .u64 d3]] dj w K:=eG (an:=[]) func26 hF

def qh1{d0 d1 d2 d3:Int}(hF:new (.cells #[.int .u64 d0,.int .u64 d1,.int .u64 d2,.int .u64 d3] 41) w fun b c=>dK (wg) (dh b) c fun d=>cW 60 ([fQ wg d]) dq c fun (e:Sl×Sl) f=>nn s fun g=>ld .ptr g f fun h=>cW 61 ([.pointer h,.i 3,e.fst.v]) dj f fun (i:Int) j=>K i j):cW 25 [.pointer s,.agg #[.int .u64 d0,.int .u64 d1,.int .u64 d2,.int .u64 d3]] dj w K:=eG (an:=[]) func25 hF

def qkr{J0 most:Int}{K:Sl->WP}(hF:nn s fun b=>ld .ptr b w.drew fun c=>cW 35 ([.int .u64 J0,.int .u64 18446744073709551615]) di w.drew fun d e=>held [dR b (.pointer c)] e<|cW 34 ([.pointer c,.i 3,.slice none 0 0,d.v,.bool false,.i most]) di e fun g h=>loop (Sl×Int) (fun i (j:Sl×Int) k=>cond (decide (j.snd<(↑g.len:Int))) (join (Sl) (fun l=>idx g j.snd 2 fun m=>dK ([.slice,.slice]) m k fun n=>new (.cells dd 104) k fun o p=>st (dh o) ([n.fst.v,n.snd.v]) p fun q=>ld .slice (dh o) q fun r=>ld .slice (dh o 1) q fun t=>cW 36 ([r.v,t.v]) ([.agg wg,.one .bool]) q fun (u:(Int×Int×Int×Int)×Bool) v=>new (.cells de 41) v fun x y=>st (dh x) (HL.mk wg u.fst) y fun z=>cond u.snd (dK (wg) (dh x) z fun A=>new (.cells (List.toArray (HL.mk wg A)) 41) z fun B C=>iM (#[29,29]) 29 (#[j.fst.v,.slice (pW B) 1 1]) C fun D E=>l D E) (l j.fst z)) fun F G=>i ((F,IntKind.wrap .i64 (j.snd+1))) G) (K j.fst k)) (({ a:=none,len:=0,cap:=0 },0)) h):cW 10 [.pointer s,.int .u64 J0,.i most] di w K:=eG (an:=aS [(4,.o [[0,1,2,3,4,6,9,5,7,8]]),(0,.l [(7,.one .slice),(21,.one .i)]),(2,.j [(7,.one .slice)])]) func10 hF

def qh3{account0 account1:Int}{r:HL BT}(hF:new (.cells #[.int .u64 account0,.int .u64 account1] 39) w fun b c=>new (.cells (List.toArray (HL.mk BT r)) 62) c fun d e=>dK dg (dh b) e fun f=>dK (BT) (dh d) e fun g=>cW 111 ([df f.fst f.snd,fQ BT g]) dq e fun (h:Sl×Sl) i=>nn s fun j=>ld .ptr j i fun k=>cW 50 ([.pointer k,.i 6,h.fst.v,h.snd.v]) dj i fun (l:Int) m=>K l m):cW 71 [.pointer s,df account0 account1,fQ BT r] dj w K:=eG (an:=[]) func71 hF
end
section
set_option maxRecDepth 100000
open Go Go.Pt
end
section
set_option maxRecDepth 100000
open Go Go.Pt

variable {K:((Option Addr)×(Option Addr))->WP}
def qhp{blocks:Int}{w:World}(hF:cW 62 ([.i blocks]) dy w fun (a:Option Addr×Option Addr) b=>cond (Option.isNone a.snd) (K ((none,none)) b) (cW 63 ([.pointer a.snd]) dw b fun c d=>K ((c,a.snd)) d)):cW 32 [.i blocks] dy w K:=eG (an:=[]) func32 hF
end
section
set_option maxRecDepth 100000
open Go Go.Pt
end
section
open Go Go.Pt List
open Go.IntKind (wrap)
attribute [local irreducible] ld dK iF mK iY fq st new idx i3 ji fy jk iL lN gU nn call dU inv run eX iD join loop held ext jQ eu mr ma mv IntKind.wrap
variable {K:Sl->Prop} {L:List (Nat×Obj)} {S:List Nat} {T:TypeId} {body l:List Int} {number:Int} {s:Sl} {w:World}
abbrev encB:Int->List Value:=fun n=>[Value.int .u8 n]
abbrev eE (S:List Nat) (w:World) (s:Sl) (l:List Int):Prop:=ed encB 1 S w s l
abbrev fV (w:World) (s:Sl) (l:List Int) (B:List Nat):Prop:=eP encB 1 w s l B
def lr:∀x,(encB x).length=1:=fun _=>rfl
def fT (l:List Int):Array Value:=(l.map (Value.int .u8)).toArray
def Ap(l:List Int):(fT l).size=l.length:=by simp[fT]
def rx(l:List Int):l.flatMap encB=l.map (Value.int .u8):=by
 induction l with
 | nil=>rfl
 | cons a l ih=>rw[yH,ih];rfl
def vq:∃i,prog.info? 5=some i/\i.zero=some (.b 0)/\i.size=1/\i.bytes=1:=th oK
def eE.at(h:eE S w s l)(n:Nat){i x:Int}{K:Int->Prop}(hi:i=n)(u:l[n]?=some x)(k:K x):idx s i 1 fun a=>ld .b a w K:=
 ed.get (y:=x) h n hi u rfl k
def vX{b o n cap:Nat}{L:List Int}{u:Nat×Nat}(E:w.heap[b]?=some (.cells (fT L) T u))(R:o+n<=L.length)(G:n<=cap)(I:b∉S):eE S w ⟨some (dh b o),n,cap⟩ ((L.drop o).take n):=by
 refine⟨by rw[yL,yC];dsimp only;omega,G,.inr ⟨b,o,_,T,_,rfl,E,I,fun i x h=>?_⟩⟩;have J:=(zP.1 h).1;rw[yL,yC] at J;rw[xB,iP,xA] at h;rw[xT];apply ext_getElem?;intro j;rw[xB,xA];match j with
 | 0=>simp[fT,h]
 | j+1=>simp
def DF{b o len cap:Nat}{lo hi:Int}{h:Nat}(u:0<=lo)(E:lo<=hi)(G:hi<=cap)(I:lo<cap)(k:K ⟨some ⟨b,o+lo.toNat*h,none⟩,hi.toNat-lo.toNat,cap-lo.toNat⟩):fy ⟨some (dh b o),len,cap⟩ (some lo) (some hi) none h K:=by unfold fy;refine⟨by simpa using ⟨u,E,G⟩,?_⟩;simp only[xW,xV,zJ];rw[iN];simp only[Option.map_some,Addr.q9];exact k
def CY{b o len cap:Nat}{lo:Int}{h:Nat}(u:0<=lo)(E:lo<=len)(G:len<=cap)(I:lo<cap)(k:K ⟨some ⟨b,o+lo.toNat*h,none⟩,len-lo.toNat,cap-lo.toNat⟩):fy ⟨some (dh b o),len,cap⟩ (some lo) none none h K:=by unfold fy;refine⟨by simp;omega,?_⟩;simp only[xW,xV,zJ];rw[iN];simp only[Option.map_some,Addr.q9];exact k
def ed.part{α:Type}{enc:α->List Value}{k:Nat}{l:List α}(h:ed enc k S w s l){lo hi:Option Int}(a b:Nat)(u:lo.getD 0=a)(E:hi.getD s.len=b)(ab:a<=b)(V:b<=l.length)(kk:∀G,G.len=b-a->ed enc k S w G ((l.take b).drop a)->(s.a.isNone=true->G.a.isNone=true)->K G):fy s lo hi none k K:=by
 obtain⟨h1,h2,J⟩:=h;unfold fy;refine⟨by rw[u,E];simp;omega,kk _ ?_ ⟨?_,?_,?_⟩ ?_⟩;rw[u,E];simp;rw[u,E];simp;omega;rw[u,E];simp;omega;by_cases he:(l.take b).drop a=[];exact .inl he;right;have ad:a<b:=by rcases Nat.lt_or_ge a b with h|h;exact h;exact absurd (by rw[vE];simp;omega) he
 rcases J with J|⟨bl,o,cs,T,fr,ha,R,U,hc⟩;rw[J] at V;simp at V;omega;refine⟨bl,o+a*k,cs,T,fr,?_,R,U,fun i x I=>?_⟩;rw[u];simp only[xW,zJ];rw[iN,ha];simp[Addr.q9];rw[xA,xB] at I;split at I
 have:=hc (a+i) x I
 rw[<- this,xU,Nat.add_assoc];cases I;intro hn;rw[Option.isNone_iff_eq_none] at hn;rw[hn];simp
def gA (n:Int) (j:Nat):Int:=wrap .u8 (Int.fdiv n (2^min (8*j) 32))
def be (n:Int) (k:Nat):List Int:=(List.range k).map fun i=>gA n (k-1-i)
def kr(n:Int)(k:Nat):(be n k).length=k:=by simp[be]
def gq(n:Int)(h:-1000000000000000<=n/\n<=1000000000000000):wrap .i64 n=n:=by rw[IntWalk.i64_in];omega
def DX{w0:World}{b o k cap:Nat}{A X Z:List Int}{n:Int}{K:Unit->WP}(h:dQ S w0 w L)(i:Nat)(hi:L[i]?=some (b,.cells (fT (A++X++Z)) T (0,0)))(ho:A.length=o)(hX:X.length=k)(ab:k<=4)(hk:∀w',dQ S w0 w' (L.set i (b,.cells (fT (A++be n k++Z)) T (0,0)))->K () w'): cW 181 [.slice (some (dh b o)) k cap,.u n] [] w K:=by
 refine qs1 (b:=⟨some (dh b o),k,cap⟩)<|je (fun x w'=>∃j:Nat,x=j/\j<=k/\dQ S w0 w' (L.set i (b,.cells (fT (A++((be n k).take j++X.drop j)++Z)) T (0,0)))) (fun x _=>((k:Int)-x).toNat) ⟨0,rfl,oJ,?_⟩ ?_;have:L.set i (b,.cells (fT (A++((be n k).take 0++X.drop 0)++Z)) T (0,0))=L:=by
  apply ext_getElem?;intro j;rw[List.getElem?_set];by_cases hij:i=j;subst hij;rw[if_pos rfl,hi]
  have:=(zP.1 hi).1
  simp[this];rw[if_neg hij]
 rw[this];exact h;rintro x w1 ⟨j,rfl,hj,G⟩ Y hY;have U:=(zP.1 hi).1;dsimp only;apply cD<;>intro V;have I:j<k:=oJ;have e1:wrap .i64 (8*wrap .i64 (wrap .i64 ((k:Int)-1)-j))=((8*(k-1-j):Nat):Int):=by rw[gq ((k:Int)-1) oJ,gq ((k:Int)-1-j) oJ,gq (8*((k:Int)-1-j)) oJ];omega
 rw[e1,gq _ oJ];refine pD oJ<|uR oJ oJ ?_;rw[zJ,xT,zJ];have J:X.drop j=X[j]::X.drop (j+1):=zY oJ;have aa:(be n k).take (j+1)=(be n k).take j++[gA n (k-1-j)]:=by rw[yG (by rw[kr];exact I)];simp[be]
 have E:((be n k).take j).length=j:=(by rw[yL,kr];omega);refine oH G i (by rw[List.getElem?_set,if_pos rfl,if_pos U]) (fT (A++((be n k).take (j+1)++X.drop (j+1))++Z)) ?_ rfl ?_ fun w2 R _=>?_;rw[dS,dS];apply Array.ext';rw[Array.toList_setIfInBounds];show (fT _).toList.set _ _=(fT _).toList;unfold fT;simp only[toList_toArray];rw[<- map_set,J,aa,zV A,set_append_right _ _ oJ];rw[show o+j-A.length=j by omega,zV ((be n k).take j),set_append_right _ _ oJ,E,Nat.sub_self,xJ,set_cons_zero];simp only[zV,xJ,xI,gA];refine Nat.ble_eq_true_of_le ?_;rw[Ap,J];simp only[zF,yI,xK,E];omega;refine hY _ _ ⟨j+1,oJ,oJ,?_⟩ oJ;rw[set_set] at R;exact R;have I:j=k:=oJ;subst I;rw[zS (by rw[kr];exact zM _),drop_of_length_le oJ,xH] at G;exact hk _ G
def ib (l:List Int):Int:=l.foldl (fun r x=>bits .or .u32 (wrap .u32 (r*2^8)) (wrap .u32 x)) 0
def EM{K:Int->WP}(h:eE S w s l)(hl:l.length<=100000)(U:K (ib l) w):cW 188 [s.v] du w K:=by refine qs0 ?_;have J:=h.1;refine je (fun x w'=>w'=w/\∃i:Nat,x.2=i/\i<=l.length/\x.1=ib (l.take i)) (fun x _=>((l.length:Int)-x.2).toNat) ⟨rfl,0,rfl,oJ,rfl⟩ ?_;rintro⟨r,ii⟩ w' ⟨rfl,i,G,hi,R⟩ X V;simp only at G R;subst G R;apply cD<;>intro I;have E:i<l.length:=oJ;refine eE.at h i rfl (zA E) ?_;rw[gq _ oJ];refine V _ _ ⟨rfl,i+1,oL,oJ,?_⟩ oN;rw[yG E,ib,ib,foldl_append];rfl;have E:i=l.length:=oJ;subst E;rw[xZ];exact U
def qls{K:Sl->World->Prop}(h:eE S w s l)(hl:l.length<=1000000)(hk:∀s' B w',fV w' s' l B->Fr [] w w'->(∀b∈B,w.heap.size<=b)->(s.a.isNone=true->s'=dG)->(s.a.isNone=false->s'.a.isNone=false)->K s' w'): cond (Option.isNone s.a) (K dG w) (new (.cells #[] 5) w fun r w1=>Pt.run di ((Builtin.append_ #[101,101] 101 #[.slice (some (dh r)) 0 0,.slice s.a s.len s.cap]).run prog w1) fun s' w'=>K s' w'):=by
 obtain⟨i5,hi,hz,hsz,hby⟩:=vq;apply dV<;>intro hc;have hl0:l=[]:=by rcases h.2.2 with h3|⟨b,o,cs,T,fr,ha,_⟩;exact h3;rw[ha] at hc;cases hc
 subst hl0;exact hk _ [] w (.nil _ _ _) (.refl _ _) oL (fun _=>rfl) (fun h=>by rw[hc] at h;cases h);obtain⟨a,ha⟩:∃a,s.a=some a:=by cases hs:s.a with|none=>rw[hs] at hc;cases hc|some a=>exact⟨a,rfl⟩
 have ho:=oE [] w;refine dQ.new ho fun r w1 e1 s1 ho=>?_;have h1:eE S w1 s l:=h.q7 ho.fr;have hb:fV w1 ⟨some (dh r),0,0⟩ [] [r]:=eP.fresh lr (ho.at (i:=0) rfl) rfl (zM _) oL oL;have hlen:=h.1;rw[ha];refine eP.j1 (s:=⟨some (dh r),0,0⟩) (ys:=l) (e:=5) hb lr oK hi hz hsz rfl (.ofSlice _ (e':=5) oK a s.len s.cap _ ?_ (h1.cells lr ha) ?_) hlen (by rw[hby,hlen];simp;omega) (by rw[hlen];simp;omega) fun s' B w' g1 g2 g3 g4=>?_;rw[rx];simp[hlen];intro u hu;rw[rx] at hu;obtain⟨x,_,rfl⟩:=List.mem_map.1 hu;rfl;have hBn:∀b∈B,w.heap.size<=b:=fun b hb=>by rcases g3 b hb with h|h;simp at h;omega;omega
 refine hk s' B w' (oP g1) (ho.fr.j8 g2 (fun b hb=>by simp at hb;subst hb;exact .inr oJ)) hBn (fun h=>by rw[hc] at h;cases h) (fun _=>?_);rcases g4 with hn|hn;exact hn;simp at hn
def Ab{K:Sl->WP}(h:eE S w s l)(E:l.length<=1000000)(G:∀u B w',fV w' u l B->Fr [] w w'->(∀b∈B,w.heap.size<=b)->(s.a.isNone=true->u=dG)->(s.a.isNone=false->u.a.isNone=false)->K u w'): cW 154 [s.v] di w K:=by exact qmK<|qls h E G
def Ad{K:Sl->WP}(h:eE S w s l)(E:l.length<=1000000)(G:∀u B w',fV w' u l B->Fr [] w w'->(∀b∈B,w.heap.size<=b)->(s.a.isNone=true->u=dG)->(s.a.isNone=false->u.a.isNone=false)->K u w'): cW 75 [s.v] di w K:=by exact qol<|qls h E G
def kO:List Int:=[0,274646895,549293790,820201905,1098587580,1361435347,1640403810,1905808397,2197175160,2460548119,2722870694,2987750089,3280807620,3553878443,3811616794,4084100981]
abbrev HG:Nat:=1
def Hv (w:World):Prop:=∃T h,w.heap[HG]?=some (.cells (kO.map (Value.int .u32)).toArray T h)
def Hv.q8{w':World}(h:Hv w)(f:Fr S w w')(E:HG∉S):Hv w':=by obtain⟨T,G,u⟩:=h;exact⟨T,G,by rw[f.block HG (eV u) E];exact u⟩
def Hv.q7{w':World}(h:Hv w)(f:Fr [] w w'):Hv w':=h.q8 f oL
def Hv.lt(h:Hv w):HG<w.heap.size:=by obtain⟨T,E,u⟩:=h;exact eV u
def Gk(x:Int):0<=bits .and .u32 x 15/\bits .and .u32 x 15<16:=by have h:(BitVec.ofInt 32 x&&& BitVec.ofInt 32 15).toNat<16:=(by rw[BitVec.toNat_and];exact Nat.lt_of_le_of_lt Nat.and_le_right oM);have u:bits .and .u32 x 15=((BitVec.ofInt 32 x&&& BitVec.ofInt 32 15).toNat:Int):=(by show wrap .u32 _=_;unfold wrap;have:(IntKind.u32.signed)=false:=rfl;simp only[this,Bool.false_and,Bool.false_eq_true,if_false];have e:((2:Int)^IntKind.u32.bits)=4294967296:=rfl;rw[e];exact Int.emod_eq_of_lt oJ (by have:(BitVec.ofInt IntKind.u32.bits x&&& BitVec.ofInt IntKind.u32.bits 15).toNat<16:=h;omega));rw[u];omega
def half (x:Int):Int:=kO.getD x.toNat 0
def vY (r:Int):Int:=bits .xor .u32 (Int.fdiv r (2^4)) (half (bits .and .u32 r 15))
def sI (r x:Int):Int:=vY (vY (bits .xor .u32 r (wrap .u32 x)))
def tX (h:Int) (l:List Int):Int:=bits .xor .u32 (l.foldl sI (bits .xor .u32 h 4294967295)) 4294967295
def nT (l:List Int):Int:=tX 0 l
def qtB{x:Int}{K:Int->Prop}(h:Hv w)(k:K (half (bits .and .u32 x 15))):ld .u (Addr.add (dh HG) (Int.toNat (bits .and .u32 x 15)*1)) w K:=by obtain⟨T,R,G⟩:=h;obtain⟨I,J⟩:=Gk x;rw[Addr.q9];refine iI G _ ?_ k;generalize bits .and .u32 x 15=y at I J;have E:y.toNat<kO.length:=(by show y.toNat<16;omega);rw[xS,xT];simp only[List.getElem?_toArray,zQ,zA E,Option.map_some,half,yR,xV];rfl
def qzk{G:Int}{K:Int->WP}(h:eE S w s l)(R:Hv w)(hl:l.length<=100000)(hk:K (tX G l) w): cW 225 [.u G,s.v] du w K:=by refine qsG ?_;have U:=h.1;refine je (fun x w'=>w'=w/\∃i:Nat,x.2=i/\i<=l.length/\x.1=(l.take i).foldl sI (bits .xor .u32 G 4294967295)) (fun x _=>((l.length:Int)-x.2).toNat) ⟨rfl,0,rfl,oJ,rfl⟩ ?_;rintro⟨r,ii⟩ w' ⟨rfl,i,I,hi,V⟩ X hX;simp only at I V;subst I V;apply cD<;>intro J;have E:i<l.length:=oJ;refine eE.at h i rfl (zA E)<|pD (Gk _)<|qtB R<|pD (Gk _)<|qtB R ?_;rw[gq _ oJ];refine hX _ _ ⟨rfl,i+1,oL,oJ,?_⟩ oN;rw[yG E,foldl_append];rfl;have E:i=l.length:=oJ;subst E;rw[xZ];exact hk
def qw5{K:Int->WP}(h:eE S w s l)(E:Hv w)(G:l.length<=100000)(I:K (nT l) w): cW 182 [s.v] du w K:=by exact quF<|qzk h E G I
def EK{α:Type}(A X Y Z:List α)(h:X.length=Y.length):(A++X++Z).take A.length++Y++(A++X++Z).drop (A.length+Y.length)=A++Y++Z:=by have u:(A++X++Z).take A.length=A:=(by rw[zV,take_append_of_le_length (zM _),zS (zM _)]);have E:(A++X++Z).drop (A.length+Y.length)=Z:=(by rw[<- h,<- zF,drop_append_of_le_length (zM _),drop_of_length_le (zM _),xI]);rw[u,E]
def qkq{A X Y Z:List Int}(h:X.length=Y.length):dS (fT (A++X++Z)) A.length (Y.map (Value.int .u8))=fT (A++Y++Z):=by
 apply Array.ext';rw[pR _ _ _ (by rw[Ap];simp only[zF,zK];omega)]
 have:=EK (A.map (Value.int .u8)) (X.map (Value.int .u8)) (Y.map (Value.int .u8)) (Z.map (Value.int .u8)) (oP h)
 simpa only[fT,xN,toList_toArray,zK] using this
def zs (n:Nat):List Int:=List.replicate n 0
def pA(n:Nat):(zs n).length=n:=length_replicate
def Av(a b:Nat):zs (a+b)=zs a++zs b:=replicate_append_replicate.symm
def qAj:zs 1=[0]:=rfl
def qsu(n:Nat):(List.replicate n (Value.int .u8 0)).toArray=fT (zs n):=by unfold fT zs;rw[map_replicate]
def dQ.bytes{w0:World}{b:Nat}{l':List Int}(h:dQ S w0 w ((b,.cells (fT l) T (0,0))::L))(e:l=l'):dQ S w0 w ((b,.cells (fT l') T (0,0))::L):=by rw[<- e];exact h
def kP (number kind:Int) (body:List Int):List Int:=be number 4++[kind]++be (wrap .u32 body.length) 2++[0]++body++zs (500-body.length)
def eC (number kind:Int) (body:List Int):List Int:=be (nT (kP number kind body)) 4++kP number kind body
def C7{kind:Int}(h:body.length<=500):(kP number kind body).length=508:=by simp only[kP,kr,pA,zF,yI,xK];omega
def wU{kind:Int}(h:body.length<=500):(eC number kind body).length=512:=by rw[eC,zF,kr,C7 h]
def Fj{kind:Int}{K:Sl×Int->WP}(h:eE S w s l)(U:Hv w)(hl:l.length<=100000)(J:500<l.length->K (dG,3) w)(hk:l.length<=500->∀b T w',w'.heap[b]?=some (.cells (fT (eC number kind l)) T (0,0))->Fr [] w w'->w.heap.size<=b->K (⟨pW b,512,512⟩,0) w'): cW 150 [.u number,.b kind,s.v] dl w K:=by
 refine qrT ?_;have I:=h.1;refine dV (fun V=>J (by have:=zC V;omega)) (fun V=>?_);have G:l.length<=500:=(by have:=zB V;omega);refine dQ.Gi (oE [] w) oM oM oM oM fun b w1 eb E=>?_;rw[qsu] at E;replace E:=dQ.bytes (l':=zs 4++zs 4++zs 504) E (by rw[<- Av,<- Av];rfl);refine DF oM oM oM oM<|DX (k:=4) E 0 rfl (pA 4) (pA 4) oM fun w2 E=>?_;replace E:=dQ.bytes (l':=(zs 4++be number 4)++zs 1++zs 503) E (by rw[show (504:Nat)=1+503 from rfl,Av,zV,zV,zV]);refine uR oJ oL<|oH E 0 rfl _ (qkq (A:=zs 4++be number 4) (X:=zs 1) (Y:=[kind]) rfl) rfl (by rw[Ap];simp only[zF,pA,kr];rfl) fun w3 E _=>?_;replace E:=dQ.bytes (l':=(zs 4++be number 4++[kind])++zs 2++zs 501) E (by rw[show (503:Nat)=2+501 from rfl,Av,zV,zV,zV,zV,zV]);refine DF oJ oJ oL oL<|DX (k:=2) E 0 rfl (by simp only[zF,pA,kr];rfl) (pA 2) oM fun w4 E=>?_;replace E:=dQ.bytes (l':=(zs 4++be number 4++[kind]++be (wrap .u32 s.len) 2++[0])++zs l.length++zs (500-l.length)) E (by rw[show (501:Nat)=1+(l.length+(500-l.length)) by omega,Av,Av,qAj];simp only[zV]);refine CY oJ oL oL oL ?_;have h4:eE S w4 s l:=h.q7 E.fr;have e6:(zs 4++be number 4++[kind]++be (wrap .u32 s.len) 2++[0]).length=12:=(by simp only[zF,pA,kr];rfl);refine dQ.vt (el:=5) (vs:=l.map (Value.int .u8)) E 0 rfl oK oK (by rw[zK,I];exact (xR (by show l.length<=500;omega)).symm) (fun R=>?_) (fun v U=>by obtain⟨x,_,rfl⟩:=mem_map.1 U;rfl) (by rw[Ap,zF,zF,e6,pA,pA,zK];omega) fun w5 E=>?_;rcases h4.2.2 with h3|⟨bb,o,cs,T,fr,ha,_⟩;rw[h3] at R;exact absurd rfl R;refine⟨_,ha,?_⟩
 have:=h4.cells lr ha
 rw[rx] at this;exact this;have e5:=qkq (A:=zs 4++be number 4++[kind]++be (wrap .u32 s.len) 2++[0]) (X:=zs l.length) (Y:=l) (Z:=zs (500-l.length)) (pA _);rw[e6] at e5;have e7:(0:Nat)+Int.toNat 12*1=12:=rfl;rw[e7,e5] at E;replace E:=dQ.bytes (l':=[]++zs 4++kP number kind l) E (by simp only[kP,I,zV,xI]);refine vG ⟨oJ,oL⟩<|CY oJ oL oL oL ?_;have hd:=E.drew;have hr:eE [] w5.drew ⟨some ⟨b,0+Int.toNat 4*1,none⟩,(512:Int).toNat-Int.toNat 4,(512:Int).toNat-Int.toNat 4⟩ (kP number kind l):=by
  have:=vX (S:=[]) (o:=4) (n:=508) (cap:=508) (hd.at (i:=0) rfl) (by rw[zF,zF,pA,C7 G];simp) (zM _) oL
  rw[xI,drop_append_of_le_length (by rw[pA];exact zM _),drop_of_length_le (by rw[pA];exact zM _),xI,zS (by rw[C7 G];exact zM _)] at this;exact this
 have ab:Hv w5.drew:=U.q7 hd.fr;refine qw5 hr ab (by rw[C7 G];decide)<|DX (k:=4) hd 0 rfl rfl (pA 4) oM fun w6 E=>hk G b _ w6 (E.at (i:=0) rfl) E.fr oJ
def eH (l:List Int):Prop:=∀x∈l,0<=x/\x<256
def eH.take{l:List Int}(h:eH l)(n:Nat):eH (l.take n):=fun x u=>h x (yV u)
def eH.drop{l:List Int}(h:eH l)(n:Nat):eH (l.drop n):=fun x u=>h x (yU u)
def qvR(h:eH l):((Lib.countByte (Lib.bytesOf l) (0:Int).toNat.toUInt8:Nat):Int)=l.length↔∀x∈l,x=0:=by
 have key:∀l:List Int,eH l->((Lib.bytesOf l).count (0:UInt8)<=l.length/\((Lib.bytesOf l).count (0:UInt8)=l.length↔∀x∈l,x=0)):=by
  intro l;induction l with
  | nil=>intro _;simp[Lib.bytesOf]
  | cons a l ih=>
   intro u;obtain⟨R,E⟩:=ih (fun x G=>u x (zN _ G));have U:=u a oL;have e:Lib.bytesOf (a::l)=UInt8.ofNat a.toNat::Lib.bytesOf l:=rfl;rw[e,count_cons];have I:(UInt8.ofNat a.toNat==0)=decide (a=0):=by
    by_cases h0:a=0;subst h0;rfl;rw[zU h0,zR];intro J
    have:=congrArg UInt8.toNat J
    simp at this;omega
   rw[I];by_cases h0:a=0;subst h0;simp only[decide_true,if_true,yI,zG,forall_eq_or_imp,true_and];exact⟨oJ,by rw[<- E];omega⟩;simp only[h0,decide_false,Bool.false_eq_true,if_false,yI,zG,forall_eq_or_imp,false_and,iff_false];omega
 have:=(key l h).2
 show (((Lib.bytesOf l).count _:Nat):Int)=_↔_;rw[<- this];exact Int.ofNat_inj
def qon{b2 cap2:Nat}{K:Int->World->Prop}(h:eE S w s l)(hB:eH l)(hc2:w.cell? (dh b2)=some (.int .u8 0))(hk:∀c:Int,(c=l.length↔∀x∈l,x=0)->K c w): call prog 189 [.slice s.a s.len s.cap,.slice (some (dh b2)) 1 cap2] [.one (.int .i64)] w K:=by
 refine qom (s:=s) (sep:=⟨some (dh b2),1,cap2⟩) ?_;have hlen:=h.1;refine cond_false (by rfl)<|cond_true (by rfl)<|uR oJ oL<|pK (c:=.int .u8) 0 hc2 ?_;have hcount:(Extern.BytealgCount.count #[.slice s.a s.len s.cap,.int .u8 0]).run prog w=.ok (.int .i64 (Lib.countByte (Lib.bytesOf l) (0:Int).toNat.toUInt8)) w:=by
  cases ha:s.a with
  | none=>
   have hl0:l=[]:=by rcases h.2.2 with h3|⟨b,o,cs,T,fr,ha',_⟩;exact h3;rw[ha] at ha';cases ha'
   subst hl0;exact Lib.run_countNil w _ _ _
  | some a=>
   refine Lib.run_countAt w a s.len s.cap l hlen.symm (fun i hi=>?_) 0
   have:=h.cells lr ha i (.int .u8 (l.getD i 0)) ?_
   exact this;rw[rx,zQ,yR,zA oJ];rfl
 exact CE (e:=Extern.BytealgCount.count) func230 oK oK oK oK (((Lib.countByte (Lib.bytesOf l) (0:Int).toNat.toUInt8:Nat):Int)) w hcount<|hk _ (qvR hB)
def eU (number:Int) (b:List Int):Int×List Int×Int:=
 if b.length≠512 then (0,[],1)
 else if ib (b.take 4)≠nT (b.drop 4) then (0,[],8)
 else if ib ((b.take 8).drop 4)≠number then (0,[],4)
 else if ib ((b.take 11).drop 9)>500\/b.getD 11 0≠0 then (0,[],2)
 else if ∃x∈b.drop (12+(ib ((b.take 11).drop 9)).toNat),x≠0 then (0,[],2)
 else (b.getD 8 0,(b.take (12+(ib ((b.take 11).drop 9)).toNat)).drop 12,0)
def nX(x:Int)(h:0<=x/\x<4294967296):wrap .u32 x=x:=by unfold wrap;have:(IntKind.u32.signed)=false:=rfl;simp only[this,Bool.false_and,Bool.false_eq_true,if_false];exact Int.emod_eq_of_lt h.1 h.2
def vK(x:Int):0<=wrap .u32 x/\wrap .u32 x<4294967296:=by unfold wrap;have:(IntKind.u32.signed)=false:=rfl;simp only[this,Bool.false_and,Bool.false_eq_true,if_false];exact⟨Int.emod_nonneg _ oM,Int.emod_lt_of_pos _ oM⟩
def Dt(h:BinOp)(x y:Int):0<=bits h .u32 x y/\bits h .u32 x y<4294967296:=vK _
def quM(l:List Int):0<=ib l/\ib l<4294967296:=by
 unfold ib;have:∀(l:List Int) (a:Int),0<=a/\a<4294967296->0<=l.foldl (fun r x=>bits .or .u32 (wrap .u32 (r*2^8)) (wrap .u32 x)) a/\l.foldl (fun r x=>bits .or .u32 (wrap .u32 (r*2^8)) (wrap .u32 x)) a<4294967296:=by
  intro l;induction l with
  | nil=>intro a h;exact h
  | cons x l ih=>intro a _;exact ih _ (Dt _ _ _)
 exact this l 0 oM
def GL{K:Int×Sl×Int->WP}(h:eE S w s l)(hv:Hv w)(hB:eH l)(hl:l.length<=100000)(hk:∀s' B w',fV w' s' (eU number l).2.1 B->Fr [] w w'->(∀b∈B,w.heap.size<=b)->K ((eU number l).1,s',(eU number l).2.2) w'): cW 157 [.u number,s.v] dp w K:=by
 refine qrS ?_;have R:=h.1;have G:∀ {e:Int} {w':World},eU number l=(0,[],e)->Fr [] w w'->K (0,dG,e) w':=by
  intro e w' he hf
  have:=hk dG [] w' (by rw[he];exact .nil _ _ _) hf oL
  rw[he] at this;exact this
 apply dV<;>intro E;refine G ?_ (.refl _ _);have:l.length≠512:=(by simp at E;omega);simp[eU,this];have U:l.length=512:=(by simp at E;omega);refine ed.part h 0 4 rfl rfl oJ oJ fun s1 l1 r1 _=>ed.part h 4 512 rfl (by rw[R,U];rfl) oJ oJ fun s2 l2 r2 _=>?_;rw[zS oJ] at r2;rw[xF] at r1;have fd:Fr [] w w.drew:=(Fr.refl _ _).drew;have al:Hv w.drew:=hv.q7 fd;refine EM (w:=w.drew) r1 (by rw[yL];omega)<|qw5 (w:=w.drew) r2 al (by rw[yC];omega) ?_;have h0:¬l.length≠512:=oJ;apply dV<;>intro E;refine G ?_ fd;have:ib (l.take 4)≠nT (l.drop 4):=(oP E);rw[eU,if_neg h0,if_pos this];have h1:¬ib (l.take 4)≠nT (l.drop 4):=(oP E);have hd:eE S w.drew s l:=h;refine ed.part hd 4 8 rfl rfl oJ oJ fun s3 l3 r3 _=>EM r3 (by rw[yC,yL];omega) ?_;apply dV<;>intro E;refine G ?_ fd;have:ib ((l.take 8).drop 4)≠number:=(oP E);rw[eU,if_neg h0,if_neg h1,if_pos this];have h2:¬ib ((l.take 8).drop 4)≠number:=(oP E);refine ed.part hd 9 11 rfl rfl oJ oJ fun s4 l4 r4 _=>EM r4 (by rw[yC,yL];omega) ?_;have hn:=quM ((l.take 11).drop 9);have an:l[11]?=some (l.getD 11 0):=(by rw[yR,zA oJ];rfl);have g8:l[8]?=some (l.getD 8 0):=(by rw[yR,zA oJ];rfl);refine hU (fun b w'=>b=decide (ib ((l.take 11).drop 9)>500\/l.getD 11 0≠0)/\w'=w.drew) ?_ ?_;apply dV<;>intro E;exact⟨by rw[yA (Or.inl (zC E))],rfl⟩;refine eE.at hd 11 rfl an ⟨?_,rfl⟩
 have:=zB E
 generalize l.getD 11 0=z;by_cases hz:z=0<;>simp[this,hz];rintro b w1 ⟨rfl,rfl⟩;apply dV<;>intro E;refine G ?_ fd;rw[eU,if_neg h0,if_neg h1,if_neg h2,if_pos (zC E)];have h3:=zB E;have V:ib ((l.take 11).drop 9)<=500:=by rcases Int.lt_or_le 500 (ib ((l.take 11).drop 9)) with h|h;exact absurd (Or.inl h) h3;exact h
 have ov:eU number l=if ∃x∈l.drop (12+(ib ((l.take 11).drop 9)).toNat),x≠0 then (0,[],2) else (l.getD 8 0,(l.take (12+(ib ((l.take 11).drop 9)).toNat)).drop 12,0):=by rw[eU,if_neg h0,if_neg h1,if_neg h2,if_neg h3]
 generalize ib ((l.take 11).drop 9)=n at hn V ov;obtain⟨m,rfl⟩:∃m:Nat,n=m:=⟨n.toNat,oJ⟩;rw[nX _ oJ];rw[zJ] at ov;refine ed.part hd (12+m) 512 oL (by rw[R,U];rfl) oJ oJ fun s5 l5 r5 _=>?_;rw[zS oJ] at r5;have ho:=oE [] w.drew;refine dQ.new ho fun zb w2 ez sz ho=>?_;have ap:eE S w2 s5 (l.drop (12+m)):=r5.q7 ho.fr;refine qon ap (hB.drop _) (ho.cell (off:=0) 0 rfl rfl) fun c af=>?_;have J:Fr [] w w2:=fd.trans ho.fr;have ag:=r5.1;apply dV<;>intro E;refine G ?_ J;have aq:¬ ∀x∈l.drop (12+m),x=0:=by rw[<- af];intro e;rw[e,ag] at E;simp at E
 rw[ov,if_pos];exact Classical.byContradiction fun ar=>aq fun x hx=>Classical.byContradiction fun av=>ar ⟨x,hx,av⟩;have ah:∀x∈l.drop (12+m),x=0:=by rw[<- af];rw[ag] at E;simpa using E
 rw[if_neg (by rintro⟨x,hx,h0⟩;exact h0 (ah x hx))] at ov;have ai:eE S w2.drew s l:=(h.q7 J).drew;obtain⟨_,b8,o8,ax,_,aj,T8,ay,aa,az⟩:=ed.at ai 8 g8;have ab:aj[o8+8]?=some (.b (l.getD 8 0)):=by
  have:=congrArg (·[0]?) az
  simpa using this
 refine qv ax ⟨oJ,oJ⟩ ?_;have I:∀ {w':World},w'.heap[b8]?=some (.cells aj T8 ay)->w'.cell? ⟨b8,o8+Int.toNat 8*1,none⟩=some (.b (l.getD 8 0)):=fun hb=>by rw[jq hb];exact ab
 refine pK (l.getD 8 0) (I aa)<|ed.part ai 12 (12+m) rfl oL oJ oJ fun s6 l6 r6 _=>?_;have lm:((l.take (12+m)).drop 12).length=m:=(by rw[yC,yL];omega);refine Ad r6 (by rw[lm];omega) fun s7 B w3 aB f7 n7 _ _=>ig (I (by show _=_;rw[f7.block b8 (eV aa) oL];exact aa)) ?_;have e1:(w2.drew).heap.size=w2.heap.size:=rfl
 have:=hk s7 B w3 (by rw[ov];exact aB) (J.drew.trans f7) (fun b hb=>by have:=n7 b hb;have:=J.size;omega)
 rw[ov] at this;exact this
end
section
open Go Go.Pt List
open Go.IntKind (wrap)
variable {K:Int×Int->WP} {a b body:List Int} {n number:Int}
def Ax(x:Int):wrap .u8 x=x%256:=by unfold wrap;have:(IntKind.u8.signed)=false:=rfl;simp only[this,Bool.false_and,Bool.false_eq_true,if_false];rfl
def qz9{r x:Int}(h:0<=r/\r<16777216)(u:0<=x/\x<256):bits .or .u32 (wrap .u32 (r*2^8)) (wrap .u32 x)=r*256+x:=by rw[nX x oJ,nX (r*2^8) oJ];obtain⟨a,rfl⟩:∃a:Nat,r=a:=⟨r.toNat,oJ⟩;obtain⟨b,rfl⟩:∃b:Nat,x=b:=⟨x.toNat,oJ⟩;have e1:((a:Int)*2^8)=((2^8*a:Nat):Int):=oJ;rw[e1];show wrap .u32 ((BitVec.ofInt 32 ((2^8*a:Nat):Int)||| BitVec.ofInt 32 (b:Int)).toNat:Nat)=_;rw[BitVec.toNat_or,BitVec.ofInt_natCast,BitVec.ofInt_natCast,BitVec.toNat_ofNat,BitVec.toNat_ofNat,Nat.mod_eq_of_lt (show 2^8*a<2^32 by omega),Nat.mod_eq_of_lt (show b<2^32 by omega),<- Nat.two_pow_add_eq_or_of_lt (show b<2^8 by omega)];rw[nX _ oJ];omega
def oX (l:List Int):Int:=l.foldl (fun r x=>r*256+x) 0
def C0:∀ {l:List Int},eH l->l.length<=4->ib l=oX l:=by
 have key:∀(l:List Int) (r:Int) (k:Nat),eH l->l.length<=k->k<=4->0<=r->r<256^(4-k)->
   l.foldl (fun r x=>bits .or .u32 (wrap .u32 (r*2^8)) (wrap .u32 x)) r=l.foldl (fun r x=>r*256+x) r:=by
  intro l;induction l with
  | nil=>intros;rfl
  | cons x l ih=>
   intro r k u h E I G;have J:=u x oL;simp only[yI] at h;have R:r<16777216:=by
    have:(256:Int)^(4-k)<=256^3:=by
     have:(4-k)<=3:=oJ;match k,E,h with
     | 1,_,_=>decide
     | 2,_,_=>decide
     | 3,_,_=>decide
     | 4,_,_=>decide
    have e:(256:Int)^3=16777216:=oM;omega
   rw[foldl_cons,foldl_cons,qz9 ⟨I,R⟩ J];match k,E,h,G with
   | k+1,E,h,G=>
    refine ih _ k (fun y U=>u y (zN _ U)) oJ oJ oJ ?_;have e:4-k=(4-(k+1))+1:=oJ;rw[e,Int.pow_succ];omega
 intro l u h;exact key l 0 4 u h oM oM oM
def Au(h:0<=n)(j:Nat)(u:j<=3):gA n j=n / 256^j%256:=by
 unfold gA;rw[Ax,Int.fdiv_eq_ediv_of_nonneg _ (by exact Int.pow_nonneg oM)];match j,u with
 | 0,_=>rfl
 | 1,_=>rfl
 | 2,_=>rfl
 | 3,_=>rfl
def BG(h:0<=n):be n 4=[n / 16777216%256,n / 65536%256,n / 256%256,n%256]:=by have e:be n 4=[gA n 3,gA n 2,gA n 1,gA n 0]:=rfl;rw[e,Au h 3 oM,Au h 2 oM,Au h 1 oM,Au h 0 oM];simp
def be2(h:0<=n):be n 2=[n / 256%256,n%256]:=by have e:be n 2=[gA n 1,gA n 0]:=rfl;rw[e,Au h 1 oM,Au h 0 oM];simp
def sW(n:Int)(k:Nat):eH (be n k):=by intro x h;obtain⟨i,_,rfl⟩:=mem_map.1 h;unfold gA;rw[Ax];omega
def Eo(h:0<=n/\n<4294967296):ib (be n 4)=n:=by rw[C0 (sW _ _) (by rw[kr];exact zM _),BG h.1];show (((0*256+_)*256+_)*256+_)*256+_=n;omega
def qrs(h:0<=n/\n<65536):ib (be n 2)=n:=by rw[C0 (sW _ _) (by rw[kr];decide),be2 h.1];show (0*256+_)*256+_=n;omega
def qvr(l:List Int):0<=nT l/\nT l<4294967296:=by unfold nT tX;exact Dt _ _ _
def eH.append(h:eH a)(k:eH b):eH (a++b):=fun x E=>by rcases zD.1 E with u|u;exact h x u;exact k x u
def eH.zs(n:Nat):eH (zs n):=fun x h=>by
 have:=eq_of_mem_replicate h
 omega
def eH.one{x:Int}(h:0<=x/\x<256):eH [x]:=fun y u=>by simp at u;subst u;exact h
def qwW{kind:Int}(h:0<=kind/\kind<256)(u:eH body):eH (kP number kind body):=
 (((((sW _ _).append (.one h)).append (sW _ _)).append (.one oM)).append u).append (.zs _)
def Co{kind:Int}(h:0<=kind/\kind<256)(u:eH body):eH (eC number kind body):=(sW _ _).append (qwW h u)
def GD{kind:Int}(J:0<=number/\number<4294967296)(R:body.length<=500):eU number (eC number kind body)=(kind,body,0):=by
 have u:wrap .u32 (body.length:Int)=(body.length:Int):=nX _ oJ;have e0:eC number kind body=be (nT (kP number kind body)) 4++(be number 4++([kind]++(be body.length 2++([0]++(body++zs (500-body.length)))))):=by
  rw[eC];conv=>lhs;rhs;rw[kP]
  rw[u];simp only[zV]
 have l4:=kr (nT (kP number kind body)) 4;have e1:(eC number kind body).take 4=be (nT (kP number kind body)) 4:=(by rw[eC,take_append_of_le_length (by rw[kr];exact zM _),zS (by rw[kr];exact zM _)]);have U:(eC number kind body).drop 4=kP number kind body:=(by rw[eC,drop_append_of_le_length (by rw[kr];exact zM _),drop_of_length_le (by rw[kr];exact zM _),xI]);have I:∀n,∃a b c d,be n 4=[a,b,c,d]:=fun n=>⟨_,_,_,_,rfl⟩;have V:∀n,∃a b,be n 2=[a,b]:=fun n=>⟨_,_,rfl⟩;obtain⟨a0,a1,a2,a3,ha⟩:=I (nT (kP number kind body));obtain⟨n0,n1,n2,n3,E⟩:=I number;obtain⟨l0,l1,G⟩:=V body.length;have h:eC number kind body=a0::a1::a2::a3::n0::n1::n2::n3::kind::l0::l1::0::(body++zs (500-body.length)):=by rw[e0,ha,E,G];rfl
 have g1:ib ((eC number kind body).take 4)=nT ((eC number kind body).drop 4):=(by rw[e1,U,Eo (qvr _)]);have g2:ib (((eC number kind body).take 8).drop 4)=number:=(by have:((eC number kind body).take 8).drop 4=be number 4:=(by rw[h,E];rfl);rw[this,Eo J]);have g3:ib (((eC number kind body).take 11).drop 9)=body.length:=(by have:((eC number kind body).take 11).drop 9=be body.length 2:=(by rw[h,G];rfl);rw[this,qrs oJ]);have g4:(eC number kind body).getD 11 0=0:=(by rw[h];rfl);have g5:(eC number kind body).getD 8 0=kind:=(by rw[h];rfl);have g6:(eC number kind body).drop (12+body.length)=zs (500-body.length):=(by rw[h,Nat.add_comm];show (body++zs (500-body.length)).drop body.length=_;rw[drop_append_of_le_length (zM _),drop_length,xI]);have g7:((eC number kind body).take (12+body.length)).drop 12=body:=(by rw[h,Nat.add_comm];show (body++zs (500-body.length)).take body.length=_;rw[take_append_of_le_length (zM _),xZ]);rw[eU,if_neg (by rw[wU R];simp),if_neg (by rw[g1];simp),if_neg (by rw[g2];simp),g3,g4,if_neg oO,zJ,g6,if_neg,g5,g7];rintro⟨x,hx,h0⟩;exact h0 (eq_of_mem_replicate hx)
def cmpL:List Int->List Int->Int
 | [],[]=>0
 | [],_::_=>-1
 | _::_,[]=>1
 | a::r,b::s=>if a<b then -1 else if b<a then 1 else cmpL r s
abbrev fE (a b:List Int):Prop:=cmpL a b<0
def F9:∀a b:List Int,cmpL a b=-1\/cmpL a b=0\/cmpL a b=1
 | [],[]=>.inr (.inl rfl)
 | [],_::_=>.inl rfl
 | _::_,[]=>.inr (.inr rfl)
 | a::r,b::s=>by rw[cmpL];split;exact .inl rfl;split;exact .inr (.inr rfl);exact F9 r s
def D8:∀a:List Int,cmpL a a=0
 | []=>rfl
 | a::r=>by rw[cmpL,iN,iN];exact D8 r
def Dd:∀ {a b:List Int},cmpL a b=0->a=b
 | [],[],_=>rfl
 | [],_::_,h=>by simp[cmpL] at h
 | _::_,[],h=>by simp[cmpL] at h
 | a::r,b::s,h=>by rw[cmpL] at h;split at h;cases h;split at h;cases h;rw[Dd h,show a=b by omega]
def tu:∀a b:List Int,cmpL b a =-cmpL a b
 | [],[]=>rfl
 | [],_::_=>rfl
 | _::_,[]=>rfl
 | a::r,b::s=>by rw[cmpL,cmpL];by_cases h1:a<b;rw[if_neg (show ¬b<a by omega),if_pos h1,if_pos h1];rfl;by_cases h2:b<a;rw[if_pos h2,if_neg h1,if_pos h2];rw[if_neg h2,if_neg h1,if_neg h1,if_neg h2];exact tu r s
def qW:¬fE a a:=by unfold fE;rw[D8];decide
def pw:∀ {a b c:List Int},fE a b->fE b c->fE a c
 | [],[],_,h,_=>by simp[fE,cmpL] at h
 | [],_::_,[],_,h=>by simp[fE,cmpL] at h
 | [],_::_,_::_,_,_=>by simp[fE,cmpL]
 | _::_,[],_,h,_=>by simp[fE,cmpL] at h
 | _::_,_::_,[],_,h=>by simp[fE,cmpL] at h
 | a::r,b::s,c::t,h,g=>by unfold fE at h g⊢;rw[cmpL] at h g⊢;by_cases h1:a<b;by_cases g1:b<c;rw[iP];decide;rw[if_neg g1] at g;by_cases g2:c<b;rw[if_pos g2] at g;omega;rw[iP];decide;rw[if_neg h1] at h;by_cases h2:b<a;rw[if_pos h2] at h;omega;rw[if_neg h2] at h;by_cases g1:b<c;rw[iP];decide;rw[if_neg g1] at g;by_cases g2:c<b;rw[if_pos g2] at g;omega;rw[if_neg g2] at g;rw[iN,iN];exact pw (a:=r) (b:=s) (c:=t) h g
def sA(h:fE a b):¬fE b a:=fun g=>qW (pw h g)
def yy(h:fE a b):a≠b:=fun e=>by rw[e] at h;exact qW h
def qwt(a b:List Int):fE a b\/a=b\/fE b a:=by rcases F9 a b with h|h|h;exact .inl (by unfold fE;omega);exact .inr (.inl (Dd h));refine .inr (.inr ?_);unfold fE;rw[tu];omega
def BU:¬fE a b↔a=b\/fE b a:=by constructor;intro h;rcases qwt a b with u|u|u;exact absurd u h;exact .inl u;exact .inr u;rintro (rfl|h);exact qW;exact sA h
abbrev lP (a b:List Int):Prop:=¬fE b a
def BJ{c:List Int}(h:lP a b)(g:fE b c):fE a c:=by rcases BU.1 h with u|u;rw[<- u];exact g;exact pw u g
def rq{c:List Int}(h:fE a b)(g:lP b c):fE a c:=by rcases BU.1 g with u|u;rw[u];exact h;exact pw h u
def zj{c:List Int}(h:lP a b)(g:lP b c):lP a c:=fun k=>by rcases BU.1 h with u|u;subst u;exact g k;exact g (pw k u)
abbrev Key:=List Int
variable {k:Key}
abbrev fR:=List (List Int×List Int)
variable {l:fR}
def dN (l:List Key) (k:Key):Nat:=(l.takeWhile fun a=>decide (fE a k)).length
def eh (l:List Key) (k:Key):Nat:=(l.takeWhile fun a=>decide (lP a k)).length
def fL (l:List Key):Prop:=l.Pairwise fE
def qf6{α:Type}(p:α->Bool)(l:List α):(l.takeWhile p).length<=l.length:=(takeWhile_sublist p).length_le
def FP(l:List Key)(k:Key):dN l k<=l.length:=qf6 _ l
def Ak(l:List Key)(k:Key):eh l k<=l.length:=qf6 _ l
def He{α:Type}(p:α->Bool):∀l:List α,l.take (l.takeWhile p).length=l.takeWhile p
 | []=>rfl
 | a::r=>by
  rw[takeWhile_cons];cases h:p a with
  | true=>simp[He p r]
  | false=>simp
def EH{α:Type}{p:α->Bool}:∀ {l:List α} {x:α},x∈l.takeWhile p->p x=true
 | a::r,x,h=>by
  rw[takeWhile_cons] at h;cases u:p a with
  | true=>
   rw[u] at h;rcases zG.1 h with rfl|h;exact u;exact EH h
  | false=>rw[u] at h;cases h
def Fm{α:Type}{p:α->Bool}:∀ {l:List α} {x:α} {r:List α},l.drop (l.takeWhile p).length=x::r->p x=false
 | a::s,x,r,h=>by
  rw[takeWhile_cons] at h;cases u:p a with
  | true=>
   rw[u] at h;exact Fm (l:=s) (oP h)
  | false=>
   rw[u] at h;simp at h;rw[<- h.1];exact u
def qrW{l:List Key}{a:Key}(h:a∈l.take (dN l k)):fE a k:=by unfold dN at h;rw[He] at h;exact zC (p:=fE a k) (EH (p:=fun a=>decide (fE a k)) h)
def qnu{l:List Key}{a:Key}(h:a∈l.take (eh l k)):lP a k:=by unfold eh at h;rw[He] at h;exact zC (p:=lP a k) (EH (p:=fun a=>decide (lP a k)) h)
def xe{x:Key}{r:List Key}(h:fL (x::r)):∀a∈r,fE x a:=(yJ.1 h).1
def fL.drop{l:List Key}(h:fL l)(n:Nat):fL (l.drop n):=List.Pairwise.sublist (drop_sublist n l) h
def fL.take{l:List Key}(h:fL l)(n:Nat):fL (l.take n):=List.Pairwise.sublist (take_sublist n l) h
def qqu{l:List Key}{a:Key}(G:fL l)(h:a∈l.drop (dN l k)):lP k a:=by
 have u:=G.drop (dN l k);cases e:l.drop (dN l k) with
 | nil=>rw[e] at h;cases h
 | cons x r=>
  have E:lP k x:=zB (Fm (p:=fun a=>decide (fE a k)) e);rw[e] at h u;rcases zG.1 h with rfl|h;exact E;exact zj E (sA (xe u a h))
def qlG{l:List Key}{a:Key}(G:fL l)(h:a∈l.drop (eh l k)):fE k a:=by
 have u:=G.drop (eh l k);cases e:l.drop (eh l k) with
 | nil=>rw[e] at h;cases h
 | cons x r=>
  have E:fE k x:=Classical.not_not.1 (zB (Fm (p:=fun a=>decide (lP a k)) e));rw[e] at h u;rcases zG.1 h with rfl|h;exact E;exact pw E (xe u a h)
def fM (k v:Key):fR->fR
 | []=>[(k,v)]
 | x::r=>if fE k x.1 then (k,v)::x::r else if k=x.1 then (k,v)::r else x::fM k v r
def gr (k:Key) (l:fR):fR:=l.filter fun x=>decide (x.1≠k)
abbrev dP (l:fR):List Key:=l.map (·.1)
def fg (l:fR):Prop:=fL (dP l)
def Bc{k v:Key}:∀ {a:fR} {l:fR},(∀x∈a,fE x.1 k)->fM k v (a++l)=a++fM k v l
 | [],l,_=>rfl
 | x::a,l,h=>by have u:=h x oL;rw[xJ,fM,if_neg (sA u),if_neg (fun e=>yy u e.symm),Bc fun y E=>h y (zN _ E),xJ]
def qlC{k v:Key}{b:fR}(h:∀x∈b,fE k x.1):∀l:fR,fM k v (l++b)=fM k v l++b
 | []=>by
  cases b with
  | nil=>rfl
  | cons x r=>
   show fM k v (x::r)=(k,v)::x::r;rw[fM,if_pos (h x oL)]
 | x::l=>by rw[xJ,fM,fM];split;rfl;split;rfl;rw[qlC h l,xJ]
def Ef{v w:Key}{a r:fR}(h:∀x∈a,fE x.1 k):fM k v (a++(k,w)::r)=a++(k,v)::r:=by rw[Bc h,fM,if_neg qW,if_pos rfl]
def qwl{v:Key}{a b:fR}(h:∀x∈a,fE x.1 k)(u:∀x∈b,fE k x.1):fM k v (a++b)=a++(k,v)::b:=by
 rw[Bc h];cases b with
 | nil=>rfl
 | cons x r=>rw[fM,if_pos (u x oL)]
def AK{k v:Key}{x:Key×Key}:∀ {l:fR},x∈fM k v l->x=(k,v)\/x∈l
 | [],h=>.inl (by simpa[fM] using h)
 | y::l,h=>by rw[fM] at h;split at h;rcases zG.1 h with h|h;exact .inl h;exact .inr h;split at h;rcases zG.1 h with h|h;exact .inl h;exact .inr (zN _ h);rcases zG.1 h with h|h;exact .inr (by rw[h];simp);rcases AK h with h|h;exact .inl h;exact .inr (zN _ h)
def Dg{k v:Key}:∀ {l:fR},fg l->fg (fM k v l)
 | [],_=>pairwise_singleton _ _
 | x::l,h=>by have E:=yJ.1 (show (x.1::dP l).Pairwise fE from h);rw[fM];split;rename_i G;refine yJ.2 ⟨fun a u=>?_,h⟩;rcases zG.1 u with rfl|u;exact G;exact pw G (E.1 a u);split;rename_i G;refine yJ.2 ⟨fun a u=>?_,E.2⟩;show fE k a;rw[G];exact E.1 a u;rename_i I J;refine yJ.2 ⟨fun a u=>?_,Dg E.2⟩;obtain⟨y,R,rfl⟩:=mem_map.1 u;rcases AK R with rfl|R;rcases BU.1 I with e|e;exact absurd e J;exact e;exact E.1 _ (zZ R)
def Cn{k v:Key}:∀ {l:fR},k∉dP l->(fM k v l).length=l.length+1
 | [],_=>rfl
 | x::l,h=>by rw[fM];split;rfl;split;rename_i e;exact absurd (by rw[e];simp) h;rw[yI,Cn fun u=>h (zN _ u),yI]
def DK{k v:Key}:∀ {l:fR},fg l->k∈dP l->(fM k v l).length=l.length
 | x::l,G,h=>by have E:=yJ.1 (show (x.1::dP l).Pairwise fE from G);rw[fM];split;rename_i u;rcases zG.1 h with e|e;rw[e] at u;exact absurd u qW;exact absurd u (sA (E.1 k e));split;rfl;rename_i u;rcases zG.1 h with e|e;exact absurd e u;rw[yI,DK E.2 e,yI]
def qm6{a:fR}(h:∀x∈a,fE x.1 k):gr k (a++l)=a++gr k l:=by unfold gr;rw[xC,filter_eq_self.2];intro x u;exact yA (yy (h x u))
def qlt{b:fR}(h:∀x∈b,fE k x.1):gr k (l++b)=gr k l++b:=by unfold gr;rw[xC];congr 1;rw[filter_eq_self];intro x u;exact yA fun e=>yy (h x u) e.symm
def qxG{w:Key}{a b:fR}(h:∀x∈a,fE x.1 k)(u:∀x∈b,fE k x.1):gr k (a++(k,w)::b)=a++b:=by rw[qm6 h,show (k,w)::b=[(k,w)]++b from rfl,qlt u];unfold gr;simp
def qpg(h:fg l):fg (gr k l):=List.Pairwise.sublist (List.Sublist.map _ filter_sublist) h
def Gc{x:Key×Key}:x∈gr k l↔x∈l/\x.1≠k:=by unfold gr;rw[mem_filter];simp
def fg.tl{a b:fR}:fg (a++b)↔fg a/\fg b/\∀x∈a,∀y∈b,fE x.1 y.1:=by unfold fg fL dP;rw[xN,pairwise_append];constructor;rintro⟨h,u,E⟩;exact⟨h,u,fun x G y I=>E _ (zZ G) _ (zZ I)⟩;rintro⟨h,u,E⟩;refine⟨h,u,fun a J b R=>?_⟩;obtain⟨x,G,rfl⟩:=mem_map.1 J;obtain⟨y,I,rfl⟩:=mem_map.1 R;exact E x G y I
def yz(u:fg l):(∀x∈l.take (dN (dP l) k),fE x.1 k)/\∀x∈l.drop (dN (dP l) k),lP k x.1:=by refine⟨fun x h=>qrW (l:=dP l) ?_,fun x h=>qqu (l:=dP l) u ?_⟩;rw[<- xP];exact zZ h;rw[<- xQ];exact zZ h
def quP{v:Key}(V:fg l):fM k v l=if (dP l)[dN (dP l) k]?=some k then l.set (dN (dP l) k) (k,v) else l.take (dN (dP l) k)++[(k,v)]++l.drop (dN (dP l) k):=by
 obtain⟨G,h2⟩:=yz (k:=k) V;have I:fg (l.drop (dN (dP l) k)):=(by unfold fg dP;rw[xQ];exact fL.drop V _);generalize hi:dN (dP l) k=i at G h2 I;have J:l=l.take i++l.drop i:=(xE i l).symm;cases e:l.drop i with
 | nil=>
  have hn:l.length<=i:=drop_eq_nil_iff.1 e;rw[if_neg (by rw[yS (by rw[zK];exact hn)];simp)];conv=>lhs;rw[J,e]
  rw[Bc G];simp[fM]
 | cons x r=>
  have hx:=h2 x (by rw[e];simp);have u:i<l.length:=by rcases Nat.lt_or_ge i l.length with h|h;exact h;rw[vE h] at e;cases e
  have hg:l[i]=x:=by
   have:=zY u
   rw[e] at this;exact (vC this).1.symm
  have hr:l.drop (i+1)=r:=by
   have:=zY u
   rw[e] at this;exact (vC this).2.symm
  have R:(dP l)[i]?=some x.1:=(by rw[zQ,zA u,hg];rfl);rw[R];by_cases hk:x.1=k
  ·rw[if_pos (by rw[hk])];conv=>lhs;rw[J,e]
   obtain⟨a,w⟩:=x;dsimp only at hk;subst hk;rw[Ef G,set_eq_take_append_cons_drop,if_pos u,hr]
  ·rw[if_neg (fun h=>hk (yO h))];have E:fE k x.1:=by rcases BU.1 hx with h|h;exact absurd h hk;exact h
   conv=>lhs;rw[J,e]
   rw[qwl G];simp;intro y U;rcases zG.1 U with rfl|U;exact E;rw[e] at I;exact pw E (xe (x:=x.1) (r:=dP r) I y.1 (zZ U))
def wH(G:fg l):(dP l)[dN (dP l) k]?=some k↔k∈dP l:=by
 constructor;exact fun h=>yF h;intro R;obtain⟨U,V⟩:=yz (k:=k) G;obtain⟨x,E,rfl⟩:=mem_map.1 R;have u:x∈l.drop (dN (dP l) x.1):=by rw[<- xE (dN (dP l) x.1) l,zD] at E;rcases E with E|E;exact absurd (U x E) qW;exact E
 have I:fg (l.drop (dN (dP l) x.1)):=(by unfold fg dP;rw[xQ];exact fL.drop G _);cases e:l.drop (dN (dP l) x.1) with
 | nil=>rw[e] at u;cases u
 | cons y r=>
  have hy:=V y (by rw[e];simp);rw[e] at u I;have he:y.1=x.1:=by rcases zG.1 u with rfl|u;rfl;exact absurd (xe (x:=y.1) (r:=dP r) I x.1 (zZ u)) hy
  have J:(l.drop (dN (dP l) x.1))[0]?=some y:=(by rw[e];rfl);rw[xA] at J;rw[zQ,show l[dN (dP l) x.1]?=some y by simpa using J,<- he];rfl
def qm7(E:fg l)(R:k∈dP l):gr k l=l.take (dN (dP l) k)++l.drop (dN (dP l) k+1):=by
 have u:=(wH E).2 R;obtain⟨J,U⟩:=yz (k:=k) E;generalize dN (dP l) k=i at J U u;have h:i<l.length:=by
  have:=(zP.1 u).1
  simpa using this
 have V:l=l.take i++l[i]::l.drop (i+1):=(by rw[<- zY h,xE]);have G:l[i].1=k:=(by rw[zQ,zA h] at u;exact yO u);have I:fg (l.drop i):=(by unfold fg dP;rw[xQ];exact fL.drop E _);rw[zY h] at I;conv=>lhs;rw[V]
 obtain⟨a,w,e⟩:∃a w,l[i]=(a,w):=⟨_,_,rfl⟩;rw[e] at G I⊢;dsimp only at G;subst G;exact qxG J fun y hy=>xe (x:=a) (r:=dP (l.drop (i+1))) I y.1 (zZ hy)
def rG (t:Int):Int×Int:=
 if t=0 then (16,88) else if t=1 then (16,108) else if t=2 then (16,1) else if t=3 then (16,16)
 else if t=4 then (24,16) else if t=5 then (24,16) else if t=6 then (24,65) else if t=7 then (1,8) else (0,0)
def qw1(t:Int):t=0\/t=1\/t=2\/t=3\/t=4\/t=5\/t=6\/t=7\/(t≠0/\t≠1/\t≠2/\t≠3/\t≠4/\t≠5/\t≠6/\t≠7):=by omega
def qqV{t:Int}{w:World}(h:K (rG t) w):cW 74 [.i t] dm w K:=by apply qqx;rcases qw1 t with rfl|rfl|rfl|rfl|rfl|rfl|rfl|rfl|⟨u,E,G,I,J,R,U,V⟩<;>simpa[rG, *] using h
def tC (k v:Int):Int×Int:=if k<1\/k>24\/v<0\/v>108 then (0,0) else (498 / (k+v),(498+k) / (4+k))
def qyA{k v:Int}{w:World}(h:∀w',nA w w'->K (tC k v) w'):cW 122 [.i k,.i v] dm w K:=by
 apply qrK;by_cases hc:k<1\/k>24\/v<0\/v>108;refine sS true w (fun M u=>?_) ?_;by_cases h1:k<1;simpa[h1] using u;by_cases h2:k>24;simpa[h1,h2] using u;by_cases h3:v<0;simpa[h1,h2,h3] using u;have E:v>108:=oJ;simpa[h1,h2,h3,E] using u
 have:=h w (.refl w)
 simpa[tC,hc] using this;refine sS false w (fun M u=>?_) ?_;simpa[show ¬k<1 by omega,show ¬k>24 by omega,show ¬v<0 by omega,show ¬v>108 by omega] using u
 have:=h w.drew (nA.refl w).drew
 simp only[tC,hc,if_false] at this;have e1:IntKind.i64.wrap (k+v)=k+v:=IntWalk.i64_in _ oJ;have G:IntKind.i64.wrap (4+k)=4+k:=IntWalk.i64_in _ oJ;have I:IntKind.i64.wrap (498+k)=498+k:=IntWalk.i64_in _ oJ;have U:0<k+v:=oJ;have V:0<4+k:=oJ;have J:(498:Int).tdiv (k+v)=498 / (k+v):=Int.tdiv_eq_ediv_of_nonneg oJ;have R:(498+k).tdiv (4+k)=(498+k) / (4+k):=Int.tdiv_eq_ediv_of_nonneg oJ;have b1:498 / (k+v)<=498:=Int.ediv_le_self _ oJ;have b2:(498+k) / (4+k)<=498+k:=Int.ediv_le_self _ oJ;have b3:0<=498 / (k+v):=Int.ediv_nonneg oJ oJ;have b4:0<=(498+k) / (4+k):=Int.ediv_nonneg oJ oJ;rw[e1,G,I,J,R,IntWalk.i64_in _ ⟨oJ,oJ⟩,IntWalk.i64_in _ ⟨oJ,oJ⟩];exact⟨oJ,oJ,this⟩
abbrev AD (t:Int):Prop:=0<=t/\t<=7
end
section
open Go Go.Pt List
open Go.IntKind (wrap)
attribute [local irreducible] ld dK iF mK iY fq st new idx i3 ji fy jk iL lN gU nn call dU inv run eX iD join loop held ext jQ eu mr ma mv IntKind.wrap
variable {B F F1 F2 S X:List Nat} {K:Int->WP} {L:List (Nat×Obj)} {T:TypeId} {Z:List Value} {body c l t:List Int} {cs:Array Value} {db:Option Addr} {defb fb mb pb r:Nat} {f:List (Int×Value)} {n q:Int} {s sl sn:Sl} {w w' w0:World}
def eJ (n:Nat):Nat:=if n=0 then 0 else (n-1) / 124+1
def qqL{n:Nat}(G:n<=1000000)(h:K (eJ n) w):cW 141 [.i n] dj w K:=by
 refine qmm ?_;apply cD<;>intro u
 have:=u
 have E:n=0:=oJ;subst E;exact h
 have:=u
 have E:n≠0:=oJ;rw[eJ,if_neg E] at h;rw[gq ((n:Int)-1) oJ];have e:Int.tdiv ((n:Int)-1) 124=(((n-1) / 124:Nat):Int):=(by rw[Int.tdiv_eq_ediv_of_nonneg oJ];omega);rw[e,gq (((n-1) / 124:Nat):Int) oJ,gq ((((n-1) / 124:Nat):Int)+1) oJ];exact h
def iG:Int->List Int->Bool
 | _,[]=>true
 | a,x::r=>decide (a<x)&&iG x r
def qr9{K:Bool->WP}(h:Rd S w s l)(hl:l.length<=1000000)(I:K (iG 1 l) w): cW 206 [s.v] dk w K:=by
 refine qk7 ?_;have U:=h.1;refine je (fun x w'=>w'=w/\∃i:Nat,x.2=i/\i<=l.length/\iG x.1 (l.drop i)=iG 1 l) (fun x _=>((l.length:Int)-x.2).toNat) ⟨rfl,0,rfl,oJ,oL⟩ ?_;rintro⟨a,ii⟩ w' ⟨rfl,i,G,hi,E⟩ X V;simp only at G E;subst G;apply cD<;>intro J;have u:i<l.length:=oJ;refine Rd.at h i rfl (zA u) ?_;rw[zY u,iG] at E;apply cD<;>intro R
 have:=R
 rw[show decide (a<l[i])=false by rw[decide_eq_false_iff_not];omega,Bool.false_and] at E;rw[<- E] at I;exact I
 have:=R
 rw[show decide (a<l[i])=true by rw[yN];omega,Bool.true_and] at E;rw[gq _ oJ];exact V _ _ ⟨rfl,i+1,oL,oJ,E⟩ oN;have u:i=l.length:=oJ;subst u;rw[drop_length] at E;rw[<- E] at I;exact I
def qyT(n:Int):gA n 0=wrap .u8 n:=by
 unfold gA;have:Int.fdiv n (2^min (8*0) 32)=n:=by show Int.fdiv n (2^0)=n;simp
 rw[this]
def qpW{K:Sl->WP}(h:fV w s l B)(hl:l.length<=1000000)(hk:∀E B' w',fV w' E (l++be n 4) B'->Fr B w w'->(∀b∈B',b∈B\/w.heap.size<=b)->K E w'): new (.cells #[.b (wrap .u8 (Int.fdiv n (2^24))),.b (wrap .u8 (Int.fdiv n (2^16))),.b (wrap .u8 (Int.fdiv n (2^8))),.b (wrap .u8 n)] 5) w fun r w2=> Pt.run di ((Builtin.append_ #[101,101] 101 #[s.v,.slice (pW r) 4 4]).run prog w2) fun E w'=>K E w':=by obtain⟨i5,G,hz,I,J⟩:=vq;refine oB (oE [] w) fun r w1 e1 R ho=>?_;have U:be n 4=[gA n 3,gA n 2,gA n 1,gA n 0]:=rfl;have af:=R.size;refine eP.j1 (ys:=be n 4) (e:=5) (h.q7 R) lr oK G hz I rfl (.ofSlice _ (e':=5) oK _ 4 4 _ (by rw[rx];simp[kr]) (fun j u hj=>?_) (fun u hu=>?_)) (kr n 4).symm (by rw[J];omega) oJ fun E B' w' g1 g2 g3 _=>?_;rw[Addr.q9,jq (ho.at (i:=0) rfl),xS];rw[rx,U,qyT] at hj;rw[List.getElem?_toArray];exact hj;rw[rx] at hu;obtain⟨x,_,rfl⟩:=mem_map.1 hu;rfl;refine hk E B' w' g1 ((R.mono (fun i G _=>by cases G)).j8 g2 (fun b V=>.inl V)) (fun b V=>?_);rcases g3 b V with h|h;exact .inl h;exact .inr oJ
def qtz{K:Sl->WP}(h:fV w s l B)(G:l.length<=1000000)(I:∀E B' w',fV w' E (l++be n 4) B'->Fr B w w'->(∀b∈B',b∈B\/w.heap.size<=b)->K E w'): cW 208 [s.v,.u n] di w K:=by exact qnj<|qpW h G I
def GG{A B:Int}(k:Nat)(I:0<=A)(E:A%2^k=0)(J:0<=B)(h:B<2^k)(R:A+B<4294967296):bits .or .u32 A B=A+B:=by
 obtain⟨a,rfl⟩:∃a:Nat,A=a:=⟨A.toNat,oJ⟩;obtain⟨b,rfl⟩:∃b:Nat,B=b:=⟨B.toNat,oJ⟩;have G:a%2^k=0:=by have:((a:Int)%((2^k:Nat):Int))=0:=(by rw[Int.natCast_pow];exact E);omega
 have u:b<2^k:=(by have:(b:Int)<((2^k:Nat):Int):=(by rw[Int.natCast_pow];exact h);omega);obtain⟨q,rfl⟩:∃q,a=2^k*q:=⟨a / 2^k,by have:=Nat.div_add_mod a (2^k);omega⟩;show wrap .u32 ((BitVec.ofInt 32 ((2^k*q:Nat):Int)||| BitVec.ofInt 32 (b:Int)).toNat:Nat)=_;rw[BitVec.toNat_or,BitVec.ofInt_natCast,BitVec.ofInt_natCast,BitVec.toNat_ofNat,BitVec.toNat_ofNat,Nat.mod_eq_of_lt (show 2^k*q<2^32 by omega),Nat.mod_eq_of_lt (show b<2^32 by omega),<- Nat.two_pow_add_eq_or_of_lt u];rw[nX _ oJ];omega
def oq (a b c d:Int):Int:=bits .or .u32 (bits .or .u32 (bits .or .u32 (wrap .u32 (wrap .u32 a*2^24)) (wrap .u32 (wrap .u32 b*2^16))) (wrap .u32 (wrap .u32 c*2^8))) (wrap .u32 d)
def qrq{a b c d:Int}(h:0<=a/\a<256)(u:0<=b/\b<256)(E:0<=c/\c<256)(G:0<=d/\d<256):oq a b c d=((a*256+b)*256+c)*256+d:=by unfold oq;rw[nX a oJ,nX b oJ,nX c oJ,nX d oJ,nX (a*2^24) oJ,nX (b*2^16) oJ,nX (c*2^8) oJ];rw[GG (A:=a*2^24) (B:=b*2^16) 24 oJ oJ oJ oJ oJ];rw[GG (B:=c*2^8) 16 oJ oJ oJ oJ oJ];rw[GG (B:=d) 8 oJ oJ oJ oJ oJ];omega
def qxy(h:0<=n/\n<4294967296):oq (n / 16777216%256) (n / 65536%256) (n / 256%256) (n%256)=n:=by rw[qrq oJ oJ oJ oJ];omega
def fu (l:List Int):Int:=oq (l.getD 0 0) (l.getD 1 0) (l.getD 2 0) (l.getD 3 0)
def getD_some{n:Nat}(h:n<l.length):l[n]?=some (l.getD n 0):=by rw[yR,zA h];rfl
def qwb(h:eE S w s l)(R:4<=l.length)(u:K (fu l) w): (idx s 0 1 fun a=>ld .b a w fun E=>idx s 1 1 fun a=>ld .b a w fun G=>idx s 2 1 fun a=>ld .b a w fun I=>idx s 3 1 fun a=>ld .b a w fun J=>K (oq E G I J) w):=by exact eE.at h 0 rfl (getD_some oJ)<|eE.at h 1 rfl (getD_some oJ)<|eE.at h 2 rfl (getD_some oJ)<|eE.at h 3 rfl (getD_some oJ)<|u
def qty(h:eE S w s l)(E:4<=l.length)(G:K (fu l) w.drew):cW 211 [s.v] du w K:=by exact qni<|qwb (w:=w.drew) h E G
def qrQ{A B:Int}(k:Nat)(I:0<=A)(E:A%2^k=0)(J:0<=B)(h:B<2^k)(R:A+B<4294967296):bits .or .i64 A B=A+B:=by
 obtain⟨a,rfl⟩:∃a:Nat,A=a:=⟨A.toNat,oJ⟩;obtain⟨b,rfl⟩:∃b:Nat,B=b:=⟨B.toNat,oJ⟩;have G:a%2^k=0:=by have:((a:Int)%((2^k:Nat):Int))=0:=(by rw[Int.natCast_pow];exact E);omega
 have u:b<2^k:=(by have:(b:Int)<((2^k:Nat):Int):=(by rw[Int.natCast_pow];exact h);omega);obtain⟨q,rfl⟩:∃q,a=2^k*q:=⟨a / 2^k,by have:=Nat.div_add_mod a (2^k);omega⟩;show wrap .i64 ((BitVec.ofInt 64 ((2^k*q:Nat):Int)||| BitVec.ofInt 64 (b:Int)).toNat:Nat)=_;rw[BitVec.toNat_or,BitVec.ofInt_natCast,BitVec.ofInt_natCast,BitVec.toNat_ofNat,BitVec.toNat_ofNat,Nat.mod_eq_of_lt (show 2^k*q<2^64 by omega),Nat.mod_eq_of_lt (show b<2^64 by omega),<- Nat.two_pow_add_eq_or_of_lt u];rw[gq _ oJ];omega
def kG (l:List Int):Int:=l.getD 4 0*256+l.getD 5 0
def jZ (l:List Int) (n:Nat):List Int:=(List.range n).map fun i=>fu (l.drop (6+4*i))
def ik (l:List Int):Int×List Int×Int:=
 if l.length<6 then (0,[],2) else
 if fu l=1\/kG l>123\/(l.length:Int)≠6+4*kG l then (0,[],2) else
 if iG 1 (jZ l (kG l).toNat) then (fu l,jZ l (kG l).toNat,0) else (0,[],2)
def qvx{K:Int×Sl×Int->WP}(h:eE S w s l)(hB:eH l)(hl:l.length<=100000)(hk:∀s' B w',lc w' s' (ik l).2.1 B->Fr [] w w'->(∀b∈B,w.heap.size<=b)->K ((ik l).1,s',(ik l).2.2) w'): cW 175 [s.v] dE w K:=by
 refine qk5 ?_;have J:=h.1;have U:∀ {e:Int} {w':World},ik l=(0,[],e)->Fr [] w w'->K (0,dG,e) w':=by
  intro e w' he hf
  have:=hk dG [] w' (by rw[he];exact .nil _ _ _) hf oL
  rw[he] at this;exact this
 apply dV<;>intro E
 have:=zC E
 exact U (by rw[ik,iP]) (.refl _ _);have h6:¬l.length<6:=(by have:=zB E;omega);have fd:Fr [] w w.drew:=(Fr.refl _ _).drew;have G:Fr [] w w.drew.drew:=fd.drew;obtain⟨_,b4,o4,al,aL,am,T4,aM,ab,an⟩:=ed.at h 4 (getD_some (l:=l) (n:=4) oJ);obtain⟨_,b5,o5,ao,aN,ap,T5,aO,ac,aq⟩:=ed.at h 5 (getD_some (l:=l) (n:=5) oJ);have g4:am[o4+4]?=some (.b (l.getD 4 0)):=(by have:=congrArg (·[0]?) an;simpa using this);have g5:ap[o5+5]?=some (.b (l.getD 5 0)):=(by have:=congrArg (·[0]?) aq;simpa using this);have c4:∀ {w':World},Fr [] w w'->w'.cell? ⟨b4,o4+Int.toNat 4*1,none⟩=some (.b (l.getD 4 0)):=fun f=>by rw[jq (by rw[f.block b4 (eV ab) oL];exact ab)];exact g4
 have c5:∀ {w':World},Fr [] w w'->w'.cell? ⟨b5,o5+Int.toNat 5*1,none⟩=some (.b (l.getD 5 0)):=fun f=>by rw[jq (by rw[f.block b5 (eV ac) oL];exact ac)];exact g5
 refine qv al ⟨oJ,oJ⟩<|pK (l.getD 4 0) (c4 fd)<|qv ao ⟨oJ,oJ⟩<|pK (l.getD 5 0) (c5 fd)<|qty (w:=w.drew) (S:=S) h oJ<|jU (c5 G) (c4 G) ?_;have r4:0<=l.getD 4 0/\l.getD 4 0<256:=hB _ (yF (getD_some (l:=l) (n:=4) oJ));have r5:0<=l.getD 5 0/\l.getD 5 0<256:=hB _ (yF (getD_some (l:=l) (n:=5) oJ));have ad:bits .or .i64 (wrap .i64 (wrap .i64 (l.getD 4 0)*2^8)) (wrap .i64 (l.getD 5 0))=kG l:=by rw[gq (l.getD 4 0) oJ,gq (l.getD 5 0) oJ,gq (l.getD 4 0*2^8) oJ,qrQ 8 oJ oJ oJ oJ oJ];rfl
 have aI:0<=kG l/\kG l<65536:=(by unfold kG;omega);rw[ad];refine hU (fun b w'=>b=decide (fu l=1\/kG l>123\/(l.length:Int)≠6+4*kG l)/\w'=w.drew.drew) ?_ ?_;apply dV<;>intro E;exact⟨by rw[yA (Or.inl (oP E))],rfl⟩;have ar:¬fu l=1:=(oP E);apply cD<;>intro V;exact⟨by rw[yA (Or.inr (Or.inl (V)))],rfl⟩;have ae:¬kG l>123:=V;refine⟨?_,rfl⟩;rw[gq (4*kG l) oJ,gq (6+4*kG l) oJ,J];by_cases h3:(l.length:Int)=6+4*kG l<;>simp[ar,ae,h3];rintro b w1 ⟨rfl,rfl⟩;refine dV (fun E=>U (by rw[ik,if_neg h6,if_pos (zC E)]) G) (fun E=>?_);have aa:=zB E;have af:kG l<=123:=by rcases Int.lt_or_le 123 (kG l) with h|h;exact absurd (Or.inr (Or.inl h)) aa;exact h
 have au:(l.length:Int)=6+4*kG l:=Classical.byContradiction fun h=>aa (Or.inr (Or.inr h));have pv:ik l=if iG 1 (jZ l (kG l).toNat) then (fu l,jZ l (kG l).toNat,0) else (0,[],2):=by rw[ik,if_neg h6,if_neg aa]
 obtain⟨n,hn⟩:∃n:Nat,kG l=n:=⟨(kG l).toNat,oJ⟩;rw[hn] at af au pv⊢;rw[zJ] at pv;refine je (fun x w'=>∃(i:Nat) (B:List Nat),x.2=i/\i<=n/\lc w' x.1 (jZ l i) B/\Fr [] w w'/\∀b∈B,w.heap.size<=b) (fun x _=>((n:Int)-x.2).toNat)
  ⟨0,[],rfl,oJ,.nil _ _ _,G,oL⟩ ?_
 rintro⟨s1,ii⟩ w2 ⟨i,B,ag,hi,R,f2,n2⟩ X hX;simp only at ag R;subst ag;apply cD<;>intro E;have ah:i<n:=oJ;rw[gq (4*(i:Int)) oJ,gq (6+4*(i:Int)) oJ];have h2:eE S w2 s l:=h.q7 f2;refine ed.part h2 (6+4*i) l.length oL (by rw[J];rfl) oJ oJ fun s3 l3 r3 _=>?_;rw[xZ] at r3;refine qty r3 (by rw[yC];omega) ?_;have ai:Fr [] w w2.drew:=f2.drew;refine EX (w:=w2.drew) (B:=B) R (by simp[jZ];omega) fun s4 B4 w4 g1 g2 g3=>?_;rw[gq _ oJ];have a0:=ai.size;refine hX _ _ ⟨i+1,B4,oL,oJ,?_,ai.j8 g2 (fun b R=>.inr (n2 b R)),fun b R=>?_⟩ oN;have:jZ l (i+1)=jZ l i++[fu (l.drop (6+4*i))]:=(by simp[jZ,range_succ]);rw[this];exact g1;rcases g3 b R with h|h;exact n2 b h;omega;have ah:i=n:=oJ;subst ah;refine qr9 (S:=[]) (R.jw qZ oL) (by simp[jZ];omega) ?_;apply dV<;>intro hr;have I:¬iG 1 (jZ l i)=true:=(oP hr);exact U (by rw[pv,if_neg I]) f2;have I:iG 1 (jZ l i)=true:=by simpa using hr
 have:=hk s1 B w2 (by rw[pv,if_pos I];exact R) f2 n2
 rw[pv,if_pos I] at this;exact this
def tD:Sl->List Value:=fun s=>[s.v]
def qre:∀x,(tD x).length=1:=fun _=>rfl
def qAo:∃i,prog.info? 101=some i/\i.zero=some (.slice none 0 0)/\i.size=1/\i.bytes=24:=th oK
def jy (S:List Nat) (w:World) (s:Sl) (u:List (List Int)) (B:List Nat):Prop:=
 ∃h:List Sl,eP tD 1 w s h B/\h.length=u.length/\∀(i:Nat) sl l,h[i]?=some sl->u[i]?=some l->eE (S++B) w sl l
def jy.nil(S:List Nat)(w:World):jy S w dG [] []:=⟨[],.nil _ _ _,rfl,fun i sl l h=>by simp at h⟩
def jy.q8{S S':List Nat}{w w':World}{s:Sl}{I:List (List Int)}{B:List Nat}(h:jy S w s I B)(f:Fr S w w')(J:∀b∈B,b∉S)(E:∀b∈S',b∈S\/w.heap.size<=b):jy S' w' s I B:=by obtain⟨G,R,U,V⟩:=h;refine⟨G,R.q8 f J,U,fun i sl l hi hl=>(V i sl l hi hl).q8 (f.mono fun b u _=>zH _ u) fun b u=>?_⟩;rcases zD.1 u with u|u;rcases E b u with h|h;exact .inl (zH _ h);exact .inr h;exact .inl (zI _ u)
def jy.push{S:List Nat}{w:World}{s sl:Sl}{R:List (List Int)}{B:List Nat}{l:List Int}{T:TypeId}{K:Sl->WP}(h:jy S w s R B)(hr:eE (S++B) w sl l)(hl:R.length<=1000000)(kk:∀J B' w',jy S w' J (R++[l]) B'->Fr B w w'->(∀b∈B',b∈B\/w.heap.size<=b)->K J w'): Pt.new (.cells #[sl.v] T) w fun r w1=>Pt.run di ((Builtin.append_ #[171,171] 171 #[s.v,.slice (pW r) 1 1]).run prog w1) K:=by
 obtain⟨i,hi,hz,U,V⟩:=qAo;obtain⟨I,h1,h2,h3⟩:=h;refine eP.push (e:=101) (x:=sl) h1 qre (by simp[tD,Value.oneCell']) oK hi hz U rfl rfl (by rw[V];omega) oJ fun J B' w' b' f' n'=>kk J B' w' ⟨_,b',by simp[h2],fun j sj lj E u=>?_⟩ f' n';have hw:∀b∈S++B',b∈S++B\/w.heap.size<=b:=fun b G=>by rcases zD.1 G with G|G;exact .inl (zH _ G);rcases n' b G with h|h;exact .inl (zI _ h);exact .inr h
 have hf:Fr (S++B) w w':=f'.mono fun b G _=>zI _ G;by_cases hjl:j<I.length;rw[yZ hjl] at E;rw[yZ oJ] at u;exact (h3 j sj lj E u).q8 hf hw;by_cases hje:j=I.length;subst hje;rw[yY (zM _),Nat.sub_self] at E;rw[h2,yY (zM _),Nat.sub_self] at u;simp at E u;subst E u;exact hr.q8 hf hw;rw[yS (by rw[zF];simp;omega)] at E;cases E
def iQ (next:Int) (c:List Int):List Int:=be next 4++[wrap .u8 (Int.fdiv c.length (2^8)),wrap .u8 c.length]++c.flatMap (be · 4)
def gw (numbers y5:List Int) (k:Nat):List (List Int):=(List.range k).map fun i=>iQ (y5.getD (i+1) 0) ((numbers.drop (123*i)).take 123)
def gu (numbers y5:List Int):List (List Int)×Int:=
 if iG 1 numbers=false\/numbers.length>123*y5.length then ([],1) else if ∃p∈y5,p<2 then ([],1) else (gw numbers y5 y5.length,0)
def qxp{K:Value->WP}(G:∀u E w',Fr [] w w'->(∀S w0 L,dQ S w0 w L->dQ S w0 w' ((u,.cells #[.i n] 3 (0,0))::(E,.cells #[s.v] 172 (0,0))::L))->K (.func (.func 240) #[] #[dF u,dF E]) w'): cW 207 [s.v,.i n] dr w K:=by exact qk6<|Pt.CB<|Pt.CB<|G _ _ _ (((Fr.refl [] w).alloc _).alloc _) fun S w0 L h=>(h.alloc _).alloc _
def Ca:∀l:List Int,(l.flatMap (be · 4)).length=l.length*4
 | []=>rfl
 | x::l=>by rw[yH,zF,kr,Ca l,yI];omega
def qzE(a b:Int):([a,b]:List Int).length=2:=rfl
def qt7{G:List Nat}{sp:Sl}{numbers y5:List Int}{K:Sl×Int->WP}(hn:Rd S w sn numbers)(hp:Rd S w sp y5)(b6:numbers.length<=100000)(b7:y5.length<=100000)(hG:∀b∈G,b<w.heap.size)(hk:∀s' B w',jy G w' s' (gu numbers y5).1 B->Fr [] w w'->(∀b∈B,w.heap.size<=b)->K (s',(gu numbers y5).2) w'): cW 172 [sn.v,sp.v] dl w K:=by
 refine qjV ?_;have bm:=hn.1;have bn:=hp.1;have aY:∀ {w':World},gu numbers y5=([],1)->Fr [] w w'->K (dG,1) w':=by
  intro w' he hf
  have:=hk dG [] w' (by rw[he];exact .nil _ _) hf oL
  rw[he] at this;exact this
 refine oB (oE [] w) fun r1 w1 e1 f1 ho=>?_;have bo:Rd S w1 sn numbers:=hn.q7 ho.fr;have bp:Rd S w1 sp y5:=hp.q7 ho.fr;refine hU (fun b w'=>b=decide (iG 1 numbers=false\/numbers.length>123*y5.length)/\w'=w1) ?_ ?_;refine qr9 bo oJ ?_;apply dV<;>intro hc;have hr:iG 1 numbers=false:=(oP hc);exact⟨by rw[yA (Or.inl hr)],rfl⟩;have hr:iG 1 numbers=true:=(oP hc);refine oA ho 0 rfl sp rfl ⟨?_,rfl⟩;rw[gq (123*(sp.len:Int)) oJ,bm,bn];have e:decide ((numbers.length:Int)>123*(y5.length:Int))=decide (numbers.length>123*y5.length):=by by_cases h:numbers.length>123*y5.length;rw[yA h,yA];omega;rw[zU h,zU];omega
 rw[e];by_cases h:numbers.length>123*y5.length<;>simp[hr,h];rintro b w2 ⟨rfl,rfl⟩;refine dV (fun hc=>aY (by rw[gu,if_pos (zC hc)]) ho.fr) (fun hc=>?_);have aZ:=zB hc;refine oA ho 0 rfl sp rfl<|je (fun x w'=>w'=w2/\∃i:Nat,x.2.2=i/\i<=y5.length/\∀p∈y5.take i,¬p<2) (fun x _=>((y5.length:Int)-x.2.2).toNat) ⟨rfl,0,rfl,oJ,oL⟩ ?_;rintro⟨sx,ex,ii⟩ w3 ⟨rfl,i,a0,hi,au⟩ X hX;simp only at a0;subst a0;dsimp only;apply cD<;>intro hc;have av:i<y5.length:=oJ;refine Rd.at bp i rfl (zA av) ?_;apply cD<;>intro hx;exact aY (by rw[gu,if_neg aZ,if_pos ⟨y5[i],zX av,hx⟩]) ho.fr;rw[gq _ oJ];refine hX _ _ ⟨rfl,i+1,oL,oJ,fun p hp=>?_⟩ oN;rw[yG av] at hp;rcases zD.1 hp with hp|hp;exact au p hp;simp at hp;subst hp;exact hx;have av:i=y5.length:=oJ;subst av;rw[xZ] at au;have bx:gu numbers y5=(gw numbers y5 y5.length,0):=by rw[gu,if_neg aZ,if_neg];rintro⟨p,hp,h2⟩;exact au p hp h2
 rw[bx] at hk;refine oB ho fun ro w4 eo fo ho=>oA ho 1 rfl sp rfl<|qxp fun rp rl w5 f5 a1=>?_;have bz:=a1 _ _ _ ho;refine dQ.jQ (lb:=[dF rp,dF rl]) bz rfl oK fun Dm l R Bz J E E0 w6 el eD ca a2 hy=>qir<|oA a2 2 rfl sp.len rfl<|je (fun x w'=>∃(j:Nat) (cl so:Sl) (Bo:List Nat),x=j/\j<=y5.length/\Rd [] w cl (numbers.drop (123*j))/\jy ([l,Dm,rp,rl,ro,r1]++G) w' so (gw numbers y5 j) Bo/\(∀b∈Bo,w.heap.size<=b/\b∉[l,Dm,rp,rl,ro,r1])/\
   dQ [] w w' [(l,R),(Dm,.deferred (some [])),(rp,.cells #[.i sp.len] 3 (0,0)),(rl,.cells #[cl.v] 172 (0,0)),(ro,.cells #[so.v] 171 (0,0)),(r1,.cells #[sp.v] 172 (0,0))]) (fun x _=>((y5.length:Int)-x).toNat)
  ⟨0,sn,dG,[],rfl,oJ,hn.j6 (fun b I=>by cases I),.nil _ _,oL,a2⟩ ?_
 rintro x w7 ⟨j,cl,so,Bo,rfl,hj,aM,aw,ap,ad⟩ X hX;have am:∀b∈Bo,b∉[l,Dm,rp,rl,ro,r1]++G:=fun b I V=>by
  rcases zD.1 V with V|V;exact (ap b I).2 V
  have:=hG b V;have:=(ap b I).1;omega
 have bB:=aM.1;rw[yC] at bB;apply cD<;>intro hc
 ·have cd:j<y5.length:=oJ;refine oA ad 3 rfl cl rfl<|oA ad 3 rfl cl rfl ?_;obtain⟨m,V,ac⟩:∃m:Nat,(if (123:Int)<(cl.len:Int) then 123 else (cl.len:Int))=m/\m=Nat.min 123 cl.len:=(by by_cases h:123<cl.len;exact⟨123,by rw[iP];rfl,(xR oJ).symm⟩;exact⟨cl.len,by rw[iN],(Nat.min_eq_right oJ).symm⟩);rw[V];have bC:m<=123:=(by rw[ac];exact Nat.min_le_left _ _);have bX:m<=cl.len:=(by rw[ac];exact Nat.min_le_right _ _);refine ed.part aM 0 m rfl rfl oJ (by rw[yC];omega) fun cs bY aE _=>?_;rw[xF] at aE;have an:(numbers.drop (123*j)).take m=(numbers.drop (123*j)).take 123:=(by by_cases h:123<cl.len;rw[ac];congr 1;exact xR oJ;have:m=cl.len:=(by rw[ac];exact Nat.min_eq_right oJ);rw[this,zS (by rw[yC];omega),zS (by rw[yC];omega)]);generalize bD:(numbers.drop (123*j)).take m=chunk at aE an;have a3:chunk.length=m:=(by rw[<- bD,yL,yC];omega);have aK:cs.len=m:=oJ;refine hy ((j:Int),cs) w7 _ (ad.at (i:=0) rfl) ?_;dsimp only;refine⟨ad.at (i:=0) rfl,?_⟩;have U:=ad.gW (o':=Bz) 0 rfl;have aa:=U.vn [];have a4:Rd [] (Pt.gW w7 l Bz) sp y5:=(hp.j6 (fun b I=>by cases I)).q7 U.fr;have ax:jy ([l,Dm,rp,rl,ro,r1]++G) (Pt.gW w7 l Bz) so (gw numbers y5 j) Bo:=aw.q8 ((tc (eV (ad.at (i:=0) rfl)) Bz).mono fun b I _=>by simp at I;subst I;simp) am (fun b I=>.inl I);have a5:=aw.choose_spec.1.lt;refine hU (fun x w'=>x=y5.getD (j+1) 0/\w'=Pt.gW w7 l Bz) ?_ ?_;refine oA aa 5 rfl sp rfl ?_;rw[gq ((j:Int)+1) oJ];apply cD<;>intro aN;have h2:j+1<y5.length:=oJ;exact oA aa 5 rfl sp rfl<|Rd.at a4 (j+1) oJ (getD_some h2)<|⟨rfl,rfl⟩;have h2:¬j+1<y5.length:=oJ;exact⟨by rw[yR,yS oJ];rfl,rfl⟩;rintro x w8 ⟨rfl,rfl⟩;generalize bE:y5.getD (j+1) 0=next
  have hW:(Pt.gW w7 l Bz).heap.size=w7.heap.size:=uB _ _ _;generalize cf:Pt.gW w7 l Bz=w8 at U aa a4 hW ax;have bZ:Rd [] w8 cs chunk:=aE.q7 U.fr;have ao:∀p∈[l,Dm,rp,rl,ro,r1],p<w8.heap.size:=fun p hp=>by have aq:=fun (k:Nat) (q:Nat×Obj) (hq:_[k]?=some q)=>eV (U.at (i:=k) hq);simp only[zG,xX,or_false] at hp;rcases hp with rfl|rfl|rfl|rfl|rfl|rfl;exact aq 0 _ rfl;exact aq 1 _ rfl;exact aq 2 _ rfl;exact aq 3 _ rfl;exact aq 4 _ rfl;exact aq 5 _ rfl
  obtain⟨i5,bF,bG,a6,a7⟩:=vq;refine qtz (s:=dG) (l:=[]) (B:=[]) (.nil _ _ _) oL fun s9 B9 w9 b9 f9 n9=>?_;rw[xI] at b9;have aa:=aa.q7 f9;refine oB aa fun r2 ci cj a8 aa=>?_;have aP:∀b∈B9,w8.heap.size<=b:=fun b I=>by rcases n9 b I with h|h;cases h;exact h
  refine eP.j1 (ys:=[wrap .u8 (Int.fdiv chunk.length (2^8)),wrap .u8 chunk.length]) (e:=5) (b9.q7 a8) lr oK bF bG a6 rfl (.ofSlice _ (e':=5) oK _ 2 2 _ (by rw[rx];rfl) (fun q u hq=>?_) (fun u hu=>?_)) rfl (by rw[a7,kr];decide) (by rw[kr];decide) fun ck a9 cm bI bJ bK _=>?_;rw[Addr.q9,jq (aa.at (i:=0) rfl),xS,aK,<- a3];rw[rx] at hq;rw[List.getElem?_toArray];exact hq;rw[rx] at hu;obtain⟨x,_,rfl⟩:=mem_map.1 hu;rfl;have cn:=f9.size;have b2:=a8.size;have bL:=b9.lt;have aa:=(aa.sub (sublist_cons_self _ _)).q8 bJ (fun b I=>.inr (aP b I)) (fun p hp I=>by have h1:=ao p.1 (zZ (f:=(·.1)) hp);have h2:=aP _ I;omega);have a':∀b∈a9,w8.heap.size<=b:=fun b I=>by rcases bK b I with h|h;exact aP b h;omega
  refine je (fun x w'=>∃(q:Nat) (Bq:List Nat),x.2=q/\q<=m/\fV w' x.1 (be next 4++[wrap .u8 (Int.fdiv chunk.length (2^8)),wrap .u8 chunk.length]++(chunk.take q).flatMap (be · 4)) Bq/\(∀b∈Bq,w8.heap.size<=b)/\
    dQ ([l,Dm,rp,rl,ro,r1]++[]) w8 w' [(l,Bz),(Dm,.deferred (some [])),(rp,.cells #[.i sp.len] 3 (0,0)),(rl,.cells #[cl.v] 172 (0,0)),(ro,.cells #[so.v] 171 (0,0)),(r1,.cells #[sp.v] 172 (0,0))]) (fun x _=>((m:Int)-x.2).toNat)
   ⟨0,a9,rfl,oJ,by simpa using bI,a',aa⟩ ?_
  rintro⟨bN,qq⟩ aQ ⟨q,Bq,ba,co,bq,nq,hq⟩ Y hY;simp only at ba bq;subst ba;dsimp only;rw[aK];apply cD<;>intro aR
  ·have ay:q<chunk.length:=oJ;have aT:Rd [] aQ cs chunk:=aE.q7 (U.wh (T:=[]) oL hq.fr);refine Rd.at aT q rfl (zA ay) ?_;have aU:(be next 4++[wrap .u8 (Int.fdiv chunk.length (2^8)),wrap .u8 chunk.length]++(chunk.take q).flatMap (be · 4)).length<=1000000:=(by rw[zF,zF,kr,Ca,yL,qzE];omega);refine qtz bq aU fun bb aF aG aV aW aX=>?_;rw[gq _ oJ];refine hY _ _ ⟨q+1,aF,oL,oJ,?_,fun b I=>?_,hq.q8 aW (fun b I=>.inr (nq b I)) (fun p hp I=>?_)⟩ oN;rw[yG ay,yQ,flatMap_singleton,<- zV];exact aV;rcases aX b I with h|h;exact nq b h;exact zL hq.fr.size h;have h1:=ao p.1 (zZ (f:=(·.1)) hp);have h2:=nq _ I;omega
  ·have bO:q=m:=oJ;subst bO;rw[zS oJ] at bq;refine oA hq 4 rfl so rfl ?_;have bc:eE (([l,Dm,rp,rl,ro,r1]++G)++Bo) aQ bN (iQ next chunk):=bq.jw lr fun b I V=>by
    have h2:=nq _ I;rcases zD.1 V with V|V;rcases zD.1 V with V|V
    have:=ao b V;omega
    have:=hG b V;have:=U.fr.size;omega
    have:=a5 b V;omega
   have aH:jy ([l,Dm,rp,rl,ro,r1]++G) aQ so (gw numbers y5 j) Bo:=ax.q8 (hq.fr.mono fun b I _=>by rw[xH] at I;exact zH _ I) am (fun b I=>.inl I);refine jy.push aH bc (by rw[gw,zK,length_range];omega) fun bb aF aG aV aW aX=>?_;have az:=(U.wt (T:=[]) oL hq).q8 aW (fun b I=>.inr (ap b I).1) (fun p hp I=>(ap _ I).2 (zZ (f:=(·.1)) hp));refine oD az 4 rfl _ fun cq az bP=>⟨az.at (i:=0) rfl,?_⟩;have ay:=az.gW (o':=R) 0 rfl;refine cond_false rfl<|oA ay 3 rfl cl rfl<|ed.part aM q (numbers.drop (123*j)).length rfl (by rw[yC];show (cl.len:Int)=_;omega) (by rw[yC];omega) (zM _) fun cr b4 bd _=>oD ay 3 rfl _ fun bQ bR bS=>?_;rw[gq _ oJ];have aA:∀b∈aF,w.heap.size<=b/\b∉[l,Dm,rp,rl,ro,r1]:=fun b I=>by
    rcases aX b I with h|h;exact ap b h;have h1:=hq.fr.size;refine⟨?_,fun V=>?_⟩
    have:=U.fr.size;omega
    have:=ao b V;omega
   have ff:Fr [l,Dm,rp,rl,ro,r1] aG bQ:=
    (bP.mono fun b I _=>by simp at I;subst I;simp).j8 ((tc (eV (az.at (i:=0) rfl)) R).mono (T:=[l,Dm,rp,rl,ro,r1]) fun b I _=>by simp at I;subst I;simp) (fun b I=>.inl I) |>.j8 (bS.mono (T:=[l,Dm,rp,rl,ro,r1]) fun b I _=>by simp at I;subst I;simp) (fun b I=>.inl I)
   have aI:=aV.q8 (ff.mono fun b I _=>zH _ I) (fun b I V=>by
    rcases zD.1 V with V|V;exact (aA b I).2 V
    have:=hG b V;have:=(aA b I).1;omega) (fun b I=>.inl I)
   have bf:((numbers.drop (123*j)).take (numbers.drop (123*j)).length).drop q=numbers.drop (123*(j+1)):=(by rw[xZ,xD];by_cases h:123<cl.len;rw[show q=123 by rw[ac];exact xR oJ,Nat.mul_add];have:q=cl.len:=(by rw[ac];exact Nat.min_eq_right oJ);rw[vE oJ,vE oJ]);rw[bf] at bd;have aU:gw numbers y5 (j+1)=gw numbers y5 j++[iQ next chunk]:=(by rw[gw,range_succ,xN,map_singleton,bE,<- an];rfl);refine hX _ _ ⟨j+1,cr,bb,aF,oL,oJ,bd,by rw[aU];exact aI,aA,bR⟩ oJ
 have bT:j=y5.length:=oJ;subst bT;refine .inl ⟨ad.at (i:=0) rfl,?_⟩;have U:=ad.gW (o':=E0) 0 rfl;refine oA U 4 rfl so rfl<|dQ.eu U.ls 1 rfl fun aG hd=>?_;have bU:jy ([l,Dm,rp,rl,ro,r1]++G) (Pt.gW w7 l E0) so (gw numbers y5 y5.length) Bo:=aw.q8 ((tc (eV (ad.at (i:=0) rfl)) E0).mono fun b I _=>by simp at I;subst I;simp) am (fun b I=>.inl I);exact hk so Bo aG (bU.q8 (S':=G) (hd.fr.mono fun b I _=>zH _ I) am (fun b I=>.inl (zI _ I))) (U.back hd.fr) (fun b I=>(ap b I).1)
def eT (q:Int) (t:List Int):List Value:=.int .u64 q::t.map (Value.int .u32)
def gy (q:Int) (t:List Int):List Int:=be (wrap .u32 (Int.fdiv q (2^32))) 4++be (wrap .u32 q) 4++t.flatMap (be · 4)
def yo(h:t.length=27):(gy q t).length=116:=by rw[gy,zF,zF,kr,kr,Ca,h]
def pM(h:t.length=27):(eT q t).length=28:=by simp[eT,h]
def AY(n:Nat)(h:n<t.length):(eT q t).toArray[n+1]?=some (.u (t.getD n 0)):=by simp[eT,yR,zA h]
def DJ(q:Int)(t:List Int):((eT q t).all Value.oneCell')=true:=by rw[all_eq_true];intro v h;rcases zG.1 h with rfl|h;rfl;obtain⟨x,_,rfl⟩:=mem_map.1 h;rfl
def qq4{α:Type}{enc:α->List Value}{k:Nat}{l:List α}(h:eP enc k w s l B):eP enc k w.drew s l B:=h
def nG (w0:World) (L:List (Nat×Obj)) (B:List Nat):Prop:=∀b∈B,w0.heap.size<=b/\b∉L.map (·.1)
def nG.cons{o:Obj}(h:nG w0 L B)(G:r∉B):nG w0 ((r,o)::L) B:=fun b u=>⟨(h b u).1,fun E=>by rcases zG.1 E with rfl|E;exact G u;exact (h b u).2 E⟩
def nG.tail{p:Nat×Obj}(h:nG w0 (p::L) B):nG w0 L B:=fun b u=>⟨(h b u).1,fun E=>(h b u).2 (zN _ E)⟩
def Gz{j:Nat}(h:j+3<=l.length):l.drop j=l.getD j 0::l.getD (j+1) 0::l.getD (j+2) 0::l.drop (j+3):=by rw[zY oJ,zY (i:=j+1) oJ,zY (i:=j+1+1) oJ];simp only[yR];rw[zA (show j<l.length by omega),zA (show j+1<l.length by omega),zA (show j+2<l.length by omega)];rfl
def qH{j:Nat}(h:j+3<=l.length):l.take (j+3)=l.take j++[l.getD j 0,l.getD (j+1) 0,l.getD (j+2) 0]:=by rw[take_add,Gz h];rfl
def qAz{j:Nat}(h:j+3<=l.length):(l.map (Value.int .u32)).extract j (j+3)=[.u (l.getD j 0),.u (l.getD (j+1) 0),.u (l.getD (j+2) 0)]:=by rw[extract_eq_take_drop,<- xQ,Gz h,show j+3-j=3 by omega];rfl
def vp{K:Sl->WP}(I:dQ [] w0 w L)(h:fV w s l B)(J:nG w0 L B)(V:l.length<=1000000)(hk:∀G B' w',dQ [] w0 w' L->fV w' G (l++be n 4) B'->nG w0 L B'->K G w'): cW 209 [s.v,.u n] di w K:=by
 refine qsk<|qpW h V fun G B' w' b' f' n'=>hk G B' w' (I.q8 f' (fun b E=>.inr (J b E).1) (fun p R E=>(J _ E).2 (zZ R))) b' fun b E=>?_;rcases n' b E with U|U;exact J b U;refine⟨zL I.fr.size U,fun hm=>?_⟩;obtain⟨p,R,rfl⟩:=mem_map.1 hm
 have:=eV (I.eI p R)
 omega
def qvL{K:Sl->WP}(hv:Hv w)(R:t.length=27)(hk:∀b T w',w'.heap[b]?=some (.cells (fT (eC (wrap .u32 (Int.tmod q 2)) 1 (gy q t))) T (0,0))->Fr [] w w'->w.heap.size<=b->K ⟨pW b,512,512⟩ w'): cW 173 [.agg (eT q t).toArray] di w K:=by
 refine qoS<|oB (oE [] w) fun r1 w1 e1 f1 E=>?_;have c0:(eT q t).toArray[0]?=some (.int .u64 q):=rfl;have J:=fun n (h:n<27)=>AY (q:=q) (t:=t) n oJ;refine oA E.drew 0 rfl q c0<|oA E.drew 0 rfl q c0<|vp (s:=dG) (l:=[]) (B:=[]) E.drew (.nil _ _ _) (fun b G=>by cases G) oL fun s5 B5 w6 E b5 U=>ig (E.cell (off:=0) 0 rfl c0)<|vp E b5 U (by simp[kr]) fun s8 B8 w9 E b8 n8=>oA E.drew 0 rfl (t.getD 0 0) (J 0 oM)<|oA E.drew 0 rfl (t.getD 1 0) (J 1 oM)<|oA E.drew 0 rfl (t.getD 2 0) (J 2 oM)<|vp E.drew (qq4 b8) n8 (by simp[kr]) fun aD aE aF E ae af=>jU (E.cell (off:=3) 0 rfl (J 2 oM)) (E.cell (off:=2) 0 rfl (J 1 oM))<|vp E ae af (by simp[kr]) fun aG aH aI E ag ah=>ig (E.cell (off:=3) 0 rfl (J 2 oM))<|vp E ag ah (by simp[kr]) fun aJ ai aK E V aj=>?_;have hr:((eT q t).toArray.toList.drop 4).take 24=(t.drop 3).map (Value.int .u32):=by show (List.drop 3 (t.map (Value.int .u32))).take 24=_;rw[xQ,zS (by rw[yC,zK,R];decide)]
 refine qC (E.at (i:=0) rfl) ((t.drop 3).map (Value.int .u32)) (by rw[zK,yC,R]) hr ?_;have ak:(t.drop 3).length=24:=(by rw[yC,R]);have al:t=[t.getD 0 0,t.getD 1 0,t.getD 2 0]++t.drop 3:=by
  have:=Gz (l:=t) (j:=0) oJ
  rw[xF] at this;exact this
 have base:[]++be (wrap .u32 (Int.fdiv q (2^32))) 4++be (wrap .u32 q) 4++be (t.getD 0 0) 4++be (t.getD 1 0) 4++be (t.getD 2 0) 4=be (wrap .u32 (Int.fdiv q (2^32))) 4++be (wrap .u32 q) 4++[t.getD 0 0,t.getD 1 0,t.getD 2 0].flatMap (be · 4):=oL;rw[base] at V;refine je (fun x w'=>∃(i:Nat) (B:List Nat),x.2=i/\i<=8/\fV w' x.1 (be (wrap .u32 (Int.fdiv q (2^32))) 4++be (wrap .u32 q) 4++[t.getD 0 0,t.getD 1 0,t.getD 2 0].flatMap (be · 4)++((t.drop 3).take (3*i)).flatMap (be · 4)) B/\dQ [] w w' [(r1,.cells (eT q t).toArray 185 (0,0))]/\nG w [(r1,.cells (eT q t).toArray 185 (0,0))] B) (fun x _=>(8-x.2).toNat)
  ⟨0,ai,rfl,oJ,by simpa using V,E,aj⟩ ?_
 rintro⟨s,ii⟩ w2 ⟨i,B,aa,aM,I,E,nb⟩ X hX;simp only at aa I;subst aa;dsimp only;have ap:(be (wrap .u32 (Int.fdiv q (2^32))) 4++be (wrap .u32 q) 4++[t.getD 0 0,t.getD 1 0,t.getD 2 0].flatMap (be · 4)++((t.drop 3).take (3*i)).flatMap (be · 4)).length<=200:=by rw[zF,zF,zF,kr,kr,Ca,Ca,yL,ak];show 4+4+3*4+_<=200;omega
 apply cD<;>intro hc;have hi:i<8:=oJ;refine pD ⟨oJ,oJ⟩ ?_;have h3:3*i+3<=(t.drop 3).length:=oJ;refine qyZ ((t.drop 3).getD (3*i) 0,(t.drop 3).getD (3*i+1) 0,(t.drop 3).getD (3*i+2) 0) ?_ ?_
 have:=qAz h3
 rw[show Int.toNat (i:Int)*3=3*i by simp;omega];exact this;refine oB E fun r2 w3 e3 f3 u=>oD u 0 rfl _ fun w4 u f4=>?_;have an:=I.lt;have ab:r2∉B:=fun G=>by have:=an _ G;omega
 have I:=(I.q7 f3).q8 f4 (fun b G hm=>by simp only[zE] at hm;subst hm;exact ab G);refine oA u.drew 0 rfl ((t.drop 3).getD (3*i) 0) rfl<|oA u.drew 0 rfl ((t.drop 3).getD (3*i+1) 0) rfl<|oA u.drew 0 rfl ((t.drop 3).getD (3*i+2) 0) rfl<|vp u.drew (qq4 I) (nb.cons ab) oJ fun s5 B5 w5 u b5 U=>jU (u.cell (off:=2) 0 rfl rfl) (u.cell (off:=1) 0 rfl rfl)<|vp u b5 U (by rw[zF,kr];omega) fun s6 B6 w6 u b6 n6=>ig (u.cell (off:=2) 0 rfl rfl)<|vp u b6 n6 (by rw[zF,zF,kr,kr];omega) fun s7 B7 w7 u b7 n7=>?_;rw[gq _ oJ];refine hX _ _ ⟨i+1,B7,oL,oJ,?_,u.sub (sublist_cons_self _ _),n7.tail⟩ oN;rw[show 3*(i+1)=3*i+3 by omega,qH h3,yQ];have e:([(t.drop 3).getD (3*i) 0,(t.drop 3).getD (3*i+1) 0,(t.drop 3).getD (3*i+2) 0]:List Int).flatMap (be · 4)=be ((t.drop 3).getD (3*i) 0) 4++be ((t.drop 3).getD (3*i+1) 0) 4++be ((t.drop 3).getD (3*i+2) 0) 4:=oL;rw[e];simpa only[zV] using b7;obtain rfl:i=8:=by omega
 rw[zS oJ,zV,<- yQ,<- al] at I;refine oA E 0 rfl q c0 ?_;have G:=I.jw (S:=[]) lr oL;refine Fj G (hv.q7 E.fr) (by show (gy q t).length<=_;rw[yo R];decide) (fun h=>?_) fun _ b T w5 h5 f5 U=>?_;have h':500<(gy q t).length:=h;rw[yo R] at h';exact absurd h' oM;exact hk b T w5 h5 (E.fr.j8 f5 oL) (zL E.fr.size U)
def vT(R:dQ [] w0 w L)(i:Nat)(hi:L[i]?=some (r,.cells #[s.v] 101 (0,0)))(h:eE [] w0 s l)(U:4<=l.length)(V:∀G w',eE [] w0 G (l.drop 4)->dQ [] w0 w' (L.set i (r,.cells #[G.v] 101 (0,0)))->K (fu l) w'): dU prog (.func (.func 259) #[] #[dF r]) [] du w K:=by refine sV (lb:=[dF r]) rfl oK<|qli ?_;have E:=R.drew;have I:eE [] w.drew s l:=h.q7 E.fr;exact oA E i hi s rfl<|eE.at I 0 rfl (getD_some oJ)<|oA E i hi s rfl<|eE.at I 1 rfl (getD_some oJ)<|oA E i hi s rfl<|eE.at I 2 rfl (getD_some oJ)<|oA E i hi s rfl<|eE.at I 3 rfl (getD_some oJ)<|oA E i hi s rfl<|ed.drop h 4 rfl U oJ fun G h'=>oH E i hi _ rfl rfl rfl fun w' J _=>V G w' h' J
def iw (l:List Int):Int:=bits .or .u64 (wrap .u64 (wrap .u64 (fu l)*2^32)) (wrap .u64 (fu (l.drop 4)))
def lD (l:List Int):List Int:=(List.range 27).map fun i=>fu (l.drop (8+4*i))
def tr(l:List Int):(lD l).length=27:=by simp[lD]
def kZ (q:Int) (f:Nat->Int) (n:Nat):Array Value:=(eT q ((List.range n).map f++zs (27-n))).toArray
def qn5{x y:Int}{A Z:List Int}:dS (eT q (A++x::Z)).toArray (A.length+1) [.u y]=(eT q (A++y::Z)).toArray:=by
 apply Array.ext'
 have:=EK (.int .u64 q::A.map (Value.int .u32)) [Value.int .u32 x] [Value.int .u32 y] (Z.map (Value.int .u32)) rfl
 rw[pR _ _ _ (by simp[eT])];simpa[eT] using this
def Ah{f:Nat->Int}{n:Nat}(h:n<27):dS (kZ q f n) (n+1) [.u (f n)]=kZ q f (n+1):=by
 have E:zs (27-n)=0::zs (27-(n+1)):=by rw[show 27-n=(27-(n+1))+1 by omega];rfl
 have:=qn5 (q:=q) (x:=0) (y:=f n) (A:=(List.range n).map f) (Z:=zs (27-(n+1)))
 rw[zK,length_range] at this;rw[kZ,E,this,kZ,range_succ,xN,zV];rfl
def qw7{h:Int}{f:Nat->Int}{n:Nat}:dS (kZ q f n) 0 [.int .u64 h]=kZ h f n:=by apply Array.ext';rw[pR _ _ _ (by simp[kZ,eT])];simp[kZ,eT]
def Aw{f:Nat->Int}{n:Nat}(h:n<=27):(kZ q f n).size=28:=by simp[kZ,eT,pA];omega
def qw6{f:Nat->Int}:kZ q f 27=(eT q ((List.range 27).map f)).toArray:=by show (eT q ((List.range 27).map f++[])).toArray=_;rw[xH]
def qvK{K:List Value->WP}(h:eE S w s l)(hl:l.length=116)(hk:∀w',Fr [] w w'->K (eT (iw l) (lD l)) w'): cW 241 [s.v] [.k7] w K:=by
 refine qoT ?_;have h0:eE [] w s l:=h.j6 oL;have U:((prog.info? 185).bind (·.zero)).map (fun z=>z.cells.toList)=some (eT 0 (zs 27)):=oK;refine oB (oE [] w) fun r1 w1 e1 f1 u=>oI u U fun r3 w2 e3 u=>oI u U fun G w3 e5 u=>vT u 2 rfl h0 oJ fun s1 w4 h1 u=>?_;have I:∀(q:Int),(eT q (zs 27)).toArray=kZ q (fun i=>fu (l.drop (8+4*i))) 0:=fun q=>rfl;refine oG u 0 rfl (kZ (wrap .u64 (wrap .u64 (fu l)*2^32)) (fun i=>fu (l.drop (8+4*i))) 0) ?_ rfl ?_ fun w5 u _=>?_;rw[I 0];exact qw7;exact zO rfl;refine oA u.drew 0 rfl (wrap .u64 (wrap .u64 (fu l)*2^32)) rfl<|vT u.drew 2 rfl h1 (by rw[yC];omega) fun s2 w6 V u=>ig (u.cell (off:=0) 0 rfl rfl)<|oG u 0 rfl (kZ (iw l) (fun i=>fu (l.drop (8+4*i))) 0) qw7 rfl (zO rfl) fun w7 u _=>?_;rw[xD] at V;refine vT u 2 rfl V (by rw[yC];omega) fun s3 w8 h3 u=>oG u 0 rfl (kZ (iw l) (fun i=>fu (l.drop (8+4*i))) 1) (Ah oM) rfl (by show 1+1<=_;rw[Aw oM];decide) fun w9 u _=>?_;rw[xD] at h3;refine vT u 2 rfl h3 (by rw[yC];omega) fun s4 al h4 u=>oG u 0 rfl (kZ (iw l) (fun i=>fu (l.drop (8+4*i))) 2) (Ah oM) rfl (by show 2+1<=_;rw[Aw oM];decide) fun am u _=>?_;rw[xD] at h4;refine vT u 2 rfl h4 (by rw[yC];omega) fun s5 ao h5 u=>oG u 0 rfl (kZ (iw l) (fun i=>fu (l.drop (8+4*i))) 3) (Ah oM) rfl (by show 3+1<=_;rw[Aw oM];decide) fun ap u _=>?_;rw[xD] at h5;refine je (fun x w'=>∃(i:Nat) (J:Sl),x=i/\i<=8/\eE [] w J (l.drop (20+12*i))/\
   dQ [] w w' [(G,.cells (kZ (iw l) (fun i=>fu (l.drop (8+4*i))) (3+3*i)) 185 (0,0)),(r3,.cells (eT 0 (zs 27)).toArray 185 (0,0)),(r1,.cells #[J.v] 101 (0,0))]) (fun x _=>(8-x).toNat)
  ⟨0,s5,rfl,oJ,h5,u⟩ ?_
 rintro x aq ⟨i,J,rfl,ar,hx,u⟩ X hX;apply cD<;>intro R;have hi:i<8:=oJ;refine pD ⟨oJ,oJ⟩ ?_;simp only[Addr.q9];have aw:Int.toNat (i:Int)=i:=oJ;refine vT u 2 rfl hx (by rw[yC];omega) fun s6 E h6 u=>?_;show Pt.st ⟨G,4+Int.toNat (i:Int)*3+0,none⟩ _ _ _;refine oG u 0 rfl (kZ (iw l) (fun i=>fu (l.drop (8+4*i))) (3+3*i+1)) ?_ rfl ?_ fun ax u _=>?_;rw[show 20+12*i=8+4*(3+3*i) by omega,show 4+Int.toNat (i:Int)*3+0=(3+3*i)+1 by omega];exact Ah (f:=fun i=>fu (l.drop (8+4*i))) oJ;rw[Aw oJ];show _+1<=28;omega;rw[xD] at h6;refine vT u 2 rfl h6 (by rw[yC];omega) fun s7 ay h7 u=>?_;show Pt.st ⟨G,0+4+Int.toNat (i:Int)*3+1,none⟩ _ _ _;refine oG u 0 rfl (kZ (iw l) (fun i=>fu (l.drop (8+4*i))) (3+3*i+2)) ?_ rfl ?_ fun az u _=>?_;rw[show 20+12*i+4=8+4*(3+3*i+1) by omega];show dS _ (0+4+Int.toNat (i:Int)*3+1) _=_;rw[show 0+4+Int.toNat (i:Int)*3+1=(3+3*i+1)+1 by omega];exact Ah (f:=fun i=>fu (l.drop (8+4*i))) oJ;rw[Aw oJ];show 0+4+Int.toNat (i:Int)*3+1+1<=28;omega;rw[xD] at h7;refine vT u 2 rfl h7 (by rw[yC];omega) fun s8 aB h8 u=>?_;show Pt.st ⟨G,0+4+Int.toNat (i:Int)*3+2,none⟩ _ _ _;refine oG u 0 rfl (kZ (iw l) (fun i=>fu (l.drop (8+4*i))) (3+3*i+3)) ?_ rfl ?_ fun aC u _=>?_;rw[show 20+12*i+4+4=8+4*(3+3*i+2) by omega];show dS _ (0+4+Int.toNat (i:Int)*3+2) _=_;rw[show 0+4+Int.toNat (i:Int)*3+2=(3+3*i+2)+1 by omega];exact Ah (f:=fun i=>fu (l.drop (8+4*i))) oJ;rw[Aw oJ];show 0+4+Int.toNat (i:Int)*3+2+1<=28;omega;rw[xD] at h8;rw[gq _ oJ];refine hX _ _ ⟨i+1,s8,oL,oJ,?_,?_⟩ oJ;rw[show 20+12*(i+1)=20+12*i+4+4+4 by omega];exact h8;rw[show 3+3*(i+1)=3+3*i+3 by omega];exact u;obtain rfl:i=8:=by omega
 rw[show 3+3*8=27 from rfl,qw6] at u;refine qC (u.at (i:=0) rfl) (eT (iw l) (lD l)) (pM (tr l)) (by rw[xF];exact zS (Nat.le_of_eq (pM (tr l))))<|pD (pM (tr l))<|oG u 1 rfl (eT (iw l) (lD l)).toArray ?_ (DJ _ _) ?_ fun E u _=>?_;apply Array.ext';rw[pR _ _ _ (by rw[pM (tr l)];decide),pM (tr l),take_zero,xI,drop_of_length_le oM,xH];rw[pM (tr l)];decide;exact qC (u.at (i:=1) rfl) (eT (iw l) (lD l)) (pM (tr l)) (by rw[xF];exact zS (Nat.le_of_eq (pM (tr l))))<|hk E u.fr
def tz:((prog.info? 185).bind (·.zero)).map (fun z=>z.cells.toList)=some (eT 0 (zs 27)):=by kernel_rfl
def qvj{P:Program}{t:TypeId}{z:Value}{offs:Array (Nat×Nat)}(u:(P.info? t).bind (·.zero)=some z)(E:P.underlying t=some (.struct (fieldsOf P t)))(h:∀w,((fieldsOf P t).mapM fun f=>do pure (f.offset,<- sizeOf f.type):Sem (Array (Nat×Nat))).run P w=.ok offs w)(w:World): (Instr.build t #[]).run P w=.ok (.agg z.cells) w:=by simp only[Instr.build,Sem.run_bind,uZ u,Result.andThen_ok,run_underlying E,h,Instr.fill,Sem.run_pure]
def zq{K:List Value->Prop}(k:K (eT 0 (zs 27))):eX [gX.k7] (fun w'=>(Instr.build 185 #[]).run prog w') w K:=by
 obtain⟨z,u,h⟩:=yT.1 tz;refine ru (ts:=[gX.k7]) (eT 0 (zs 27)) ?_ k
 have:=qvj (P:=prog) (t:=185) (offs:=#[(0,1),(1,1),(2,1),(3,1),(4,24)]) u oK (fun w=>oK) w
 rw[this];show Result.ok (Value.agg z.cells) w=.ok (Value.agg (eT 0 (zs 27)).toArray) w;rw[<- h]
def lZ{vs:List Value}(h:vs.length=cs.size):dS cs 0 vs=vs.toArray:=by apply Array.ext';rw[pR _ _ _ oJ,take_zero,xI,drop_of_length_le (by rw[Array.length_toList];omega),xH]
def Dh(h:t.length=27):(eT q t).toArray.size=28:=by rw[size_toArray];exact pM h
def uF{u:Nat×Nat}{K:List Value->Prop}(E:w.heap[r]?=some (.cells (eT q t).toArray T u))(h:t.length=27)(k:K (eT q t)):iF 28 (dh r) w K:=
 qC E (eT q t) (pM h) (by rw[xF,zS (Nat.le_of_eq (pM h))]) k
def zn{I:Int}{E:List Int}{K:WP}(J:dQ [] w0 w L)(i:Nat)(hi:L[i]?=some (r,.cells (eT I E).toArray T (0,0)))(G:E.length=27)(h:t.length=27)(R:∀w',dQ [] w0 w' (L.set i (r,.cells (eT q t).toArray T (0,0)))->K w'):gU ((eT q t).length=28) (st (dh r) (eT q t) w K):=by refine pD (pM h)<|oG J i hi (eT q t).toArray (lZ (by rw[Dh G,pM h])) (DJ _ _) (by rw[Dh G,pM h];decide) fun w' u _=>R w' u
def uj{J:Int}{G:List Int}{K:List Value->WP}(R:dQ [] w0 w L)(i:Nat)(hi:L[i]?=some (r,.cells (eT J G).toArray T (0,0)))(U:G.length=27)(I:t.length=27)(V:∀w',Fr [] w0 w'->K (eT q t) w'):gU ((eT q t).length=28) (st (dh r) (eT q t) w fun w'=>iF 28 (dh r) w' fun vs=>K vs w'):=by
 refine zn R i hi U I fun w' u=>?_;have E:i<L.length:=by rcases Nat.lt_or_ge i L.length with h|h;exact h;rw[yS h] at hi;cases hi
 exact uF (u.at (i:=i) (by rw[List.getElem?_set_self E])) I (V w' u.fr)
abbrev nJ:=Int×List Int
def gC:nJ:=(0,zs 27)
def eZ (place:Int) (l:List Int):nJ×Int:=
 if (eU place l).2.2≠0 then (gC,(eU place l).2.2)
 else if (eU place l).1≠1\/(eU place l).2.1.length≠116 then (gC,2)
 else if Int.tmod (iw (eU place l).2.1) 2≠place then (gC,2)
 else ((iw (eU place l).2.1,lD (eU place l).2.1),0)
def wY(place:Int)(l:List Int):(eZ place l).1.2.length=27:=by unfold eZ;split<;>(try rfl);split<;>(try rfl);split<;>rfl
def gS (a b:List Int):nJ×Int:=
 if (eZ 0 a).2≠0/\(eZ 1 b).2≠0 then (gC,5)
 else if (eZ 0 a).2≠0\/((eZ 1 b).2=0/\(eZ 1 b).1.1>(eZ 0 a).1.1) then ((eZ 1 b).1,0)
 else ((eZ 0 a).1,0)
def qlK(a b:List Int):(gS a b).1.2.length=27:=by unfold gS;split<;>(try rfl);split<;>exact wY _ _
def qqU{place:Int}{K:List Value×Int->WP}(h:eE S w s l)(hv:Hv w)(hB:eH l)(hl:l.length<=100000)(V:place=0\/place=1)(hk:∀w',Fr [] w w'->K (eT (eZ place l).1.1 (eZ place l).1.2,(eZ place l).2) w'): cW 210 [.i place,s.v] dA w K:=by
 refine qqw<|oI (oE [] w) tz fun r1 w1 e1 u=>?_;have aa:wrap .u32 place=place:=by rcases V with rfl|rfl<;>kernel_rfl
 have ab:wrap .u64 place=place:=by rcases V with rfl|rfl<;>kernel_rfl
 rw[aa,ab];refine hU (fun b w'=>b=false/\w'=w1) ?_ ?_;rcases V with rfl|rfl;exact cond_false rfl ⟨rfl,rfl⟩;exact cond_true rfl ⟨rfl,rfl⟩;rintro b w2 ⟨rfl,rfl⟩;refine cond_false rfl ?_;have G:∀ {e:Int} {w':World},eZ place l=(gC,e)->Fr [] w w'->K (eT 0 (zs 27),e) w':=by
  intro e w' I hf
  have:=hk w' hf
  rw[I] at this;exact this
 refine GL (h.q7 u.fr) (hv.q7 u.fr) hB hl fun s3 B3 w3 b3 f3 n3=>?_;have u:=u.q7 f3;apply dV<;>intro E;have I:(eU place l).2.2≠0:=(oP E);exact zq<|uj u 0 rfl rfl rfl fun w4 f4=>G (by rw[eZ,if_pos I]) f4;have I:¬(eU place l).2.2≠0:=(oP E);refine hU (fun b w'=>b=decide ((eU place l).1≠1\/(eU place l).2.1.length≠116)/\w'=w3) ?_ ?_;apply dV<;>intro E;have U:(eU place l).1≠1:=(oP E);exact⟨by simp[U],rfl⟩;have U:(eU place l).1=1:=(oP E);have ac:s3.len=(eU place l).2.1.length:=b3.len;refine⟨?_,rfl⟩;dsimp only;rw[ac];by_cases hx:(eU place l).2.1.length=116;rw[hx];simp[U];have:¬(((eU place l).2.1.length:Int)=116):=oJ;simp[U,hx,this];rintro b w4 ⟨rfl,rfl⟩;apply dV<;>intro E;exact zq<|uj u 0 rfl rfl rfl fun w5 f5=>G (by rw[eZ,if_neg I,if_pos (zC E)]) f5;have J:=zB E;have R:(eU place l).2.1.length=116:=by rcases Nat.decEq (eU place l).2.1.length 116 with h|h;exact absurd (Or.inr h) J;exact h
 have ae:=b3.jw (S:=[]) lr oL;refine qvK ae R fun w5 f5=>?_;have u:=u.q7 f5;refine oI u tz fun r6 w6 e6 u=>zn u 0 rfl rfl (tr _) fun w7 u=>oA u 0 rfl (iw (eU place l).2.1) rfl ?_;apply dV<;>intro E;have hq:Int.tmod (iw (eU place l).2.1) 2≠place:=(oP E);exact zq<|uj u 1 rfl rfl rfl fun w8 f8=>G (by rw[eZ,if_neg I,if_neg J,if_pos hq]) f8;have hq:¬Int.tmod (iw (eU place l).2.1) 2≠place:=(oP E);refine uF (u.at (i:=0) rfl) (tr _)<|uj u 1 rfl rfl (tr _) fun w8 f8=>?_
 have:=hk w8 f8
 rw[eZ,if_neg I,if_neg J,if_neg hq] at this;exact this
def quq{sa sb:Sl}{a b:List Int}{K:List Value×Int->WP}(ha:eE S w sa a)(hb:eE S w sb b)(hv:Hv w)(R:eH a)(U:eH b)(V:a.length<=100000)(aa:b.length<=100000)(hk:∀w',Fr [] w w'->K (eT (gS a b).1.1 (gS a b).1.2,(gS a b).2) w'): cW 174 [sa.v,sb.v] dA w K:=by
 refine qn7<|oI (oE [] w) tz fun r1 w1 e1 h=>qqU (ha.q7 h.fr) (hv.q7 h.fr) R V (.inl rfl) fun w2 f2=>?_;have h:=h.q7 f2;refine oI h tz fun r3 w3 e3 h=>zn h 0 rfl rfl (wY _ _) fun w4 h=>qqU (hb.q7 h.fr) (hv.q7 h.fr) U aa (.inr rfl) fun w5 f5=>?_;have h:=h.q7 f5;refine oI h tz fun r6 w6 e6 h=>zn h 0 rfl rfl (wY _ _) fun w7 h=>hU (fun c w'=>c=decide ((eZ 0 a).2≠0/\(eZ 1 b).2≠0)/\w'=w7) ?_ ?_;apply dV<;>intro u;have E:(eZ 0 a).2≠0:=(oP u);refine⟨?_,rfl⟩;by_cases J:(eZ 1 b).2=0<;>simp[E,J];have E:(eZ 0 a).2=0:=(oP u);exact⟨by simp[E],rfl⟩;rintro c w8 ⟨rfl,rfl⟩;apply dV<;>intro u;refine zq<|uj h 2 rfl rfl rfl fun w9 f9=>?_
 have:=hk w9 f9
 rw[gS,if_pos (zC u)] at this;exact this;have hn:=zB u;refine hU (fun c w'=>c=decide ((eZ 0 a).2≠0\/((eZ 1 b).2=0/\(eZ 1 b).1.1>(eZ 0 a).1.1))/\w'=w8) ?_ ?_;apply dV<;>intro u;have E:(eZ 0 a).2≠0:=(oP u);exact⟨by simp[E],rfl⟩;have E:(eZ 0 a).2=0:=(oP u);apply dV<;>intro u;have J:(eZ 1 b).2=0:=(oP u);refine oA h 0 rfl (eZ 1 b).1.1 rfl<|oA h 1 rfl (eZ 0 a).1.1 rfl<|⟨?_,rfl⟩;by_cases h3:(eZ 1 b).1.1>(eZ 0 a).1.1<;>simp[E,J,h3];have J:(eZ 1 b).2≠0:=(oP u);exact⟨by simp[E,J],rfl⟩;rintro c w9 ⟨rfl,rfl⟩;apply cD<;>intro u;refine uF (h.at (i:=0) rfl) (wY _ _)<|uj h 2 rfl rfl (wY _ _) fun G I=>?_
 have:=hk G I
 rw[gS,if_neg hn,if_pos (u)] at this;exact this;refine uF (h.at (i:=1) rfl) (wY _ _)<|uj h 2 rfl rfl (wY _ _) fun G I=>?_
 have:=hk G I
 rw[gS,if_neg hn,if_neg (u)] at this;exact this
abbrev rP:TypeId:=191
abbrev BR:TypeId:=187
def look {β:Type} (n:Int):List (Int×β)->Option (Nat×β)
 | []=>none
 | p::r=>if n=p.1 then some (0,p.2) else (look n r).map fun q=>(q.1+1,q.2)
def gQ {β:Type} (n:Int) (v:β) (l:List (Int×β)):List (Int×β):=match look n l with|some q=>l.set q.1 (n,v)|none=>l++[(n,v)]
def ju {β:Type} (n:Int) (l:List (Int×β)):List (Int×β):=match look n l with|some q=>l.eraseIdx q.1|none=>l
def vV{β γ:Type}(g:β->γ)(n:Int):∀l:List (Int×β),look n (l.map fun e=>(e.1,g e.2))=(look n l).map fun q=>(q.1,g q.2)
 | []=>rfl
 | p::r=>by simp only[xO,look];by_cases h:n=p.1;simp[h];rw[if_neg h,if_neg h,vV g n r];cases look n r<;>rfl
def xo(n:Int):∀l:List (Int×Value),posOf n l=look n l
 | []=>rfl
 | p::r=>by simp only[posOf,look,xo n r]
def tf{β:Type}{n:Int}:∀ {l:List (Int×β)} {q:Nat×β},look n l=some q->l[q.1]?=some (n,q.2)/\(n,q.2)∈l
 | p::r,q,h=>by simp only[look] at h;by_cases hp:n=p.1;rw[if_pos hp] at h;cases h;subst hp;exact⟨rfl,oL⟩;rw[if_neg hp] at h;obtain⟨x,u,rfl⟩:=yT.1 h;obtain⟨E,G⟩:=tf u;exact⟨by simpa using E,zN _ G⟩
def uq{β:Type}{n:Int}:∀ {l:List (Int×β)},look n l=none↔n∉l.map (·.1)
 | []=>by simp[look]
 | p::r=>by simp only[look,xO,zG,not_or];by_cases hp:n=p.1;simp[hp];rw[if_neg hp,Option.map_eq_none_iff,uq (l:=r)];simp[hp]
def Dj{β γ:Type}(g:β->γ)(n:Int)(v:β)(l:List (Int×β)):(gQ n v l).map (fun e=>(e.1,g e.2))=gQ n (g v) (l.map fun e=>(e.1,g e.2)):=by
 unfold gQ;rw[vV];cases look n l with
 | none=>simp
 | some q=>simp[map_set]
def qra{β γ:Type}(g:β->γ)(n:Int)(l:List (Int×β)):(ju n l).map (fun e=>(e.1,g e.2))=ju n (l.map fun e=>(e.1,g e.2)):=by
 unfold ju;rw[vV];cases look n l with
 | none=>rfl
 | some q=>simp only[Option.map_some];exact uY _ l q.1
def CF{β:Type}{v:β}{l:List (Int×β)}{e:Int×β}(h:e∈gQ n v l):e∈l\/e=(n,v):=by unfold gQ at h;split at h;exact mem_or_eq_of_mem_set h;rcases zD.1 h with h|h;exact .inl h;exact .inr (oP h)
def qrI{β:Type}{l:List (Int×β)}{e:Int×β}(h:e∈ju n l):e∈l:=by unfold ju at h;split at h;exact mem_of_mem_eraseIdx h;exact h
def GK{t et:TypeId}{v:Value}(ht:prog.underlying t=some (.map 63 et)){b:Nat}(h:jc jt w b f)(x:Int): ∃o,(Instr.mapUpdate t (.map (some b)) (jt x) v).run prog w=.ok () (gW w b o)/\jc jt (gW w b o) b (gQ x v f):=by
 have K:=uS;cases J:posOf x f with
 | none=>
  obtain⟨o,R,h2⟩:=jc.new ht K h x (v:=v) J;refine⟨o,R,?_⟩;rw[xo] at J;rw[gQ,J];exact h2
 | some q=>
  obtain⟨E,c,V,he,hs,hc⟩:=h;have hq:=J;rw[xo] at hq;obtain⟨R,_⟩:=tf hq;have I:=he;simp only[mI] at I;have hi:E[q.1]?.map (·.key)=some (jt x):=by
   have:=congrArg (·[q.1]?) I
   simp only[zQ,R,Option.map_some] at this;rw[<- xL];cases G:E.toList[q.1]? with
   | none=>rw[G] at this;cases this
   | some e=>rw[G] at this;simp at this;simp[this.1]
  refine⟨.map (E.modify q.1 fun e=>{ e with key:=jt x,val:=v }) c,?_,E.modify q.1 fun e=>{ e with key:=jt x,val:=v },c,?_,?_,?_,?_⟩;simp[Instr.mapUpdate,run_underlying ht,Go.MapKept.run_getObj_map V,K.check,tZ K he,J,hi,Instr.keyThatStays,Instr.sameBits,Go.MapKept.run_setObj_map _ V];rfl;rw[oV _ _ _ _ (eV V),if_pos rfl];rw[gQ,hq];show ((E.modify q.1 _).toList).map _=(f.set q.1 (x,v)).map _;rw[Array.toList_modify];apply ext_getElem?;intro j;have u:=congrArg (·[j]?) I;simp only[zQ] at u;rw[zQ,zQ,List.getElem?_modify,List.getElem?_set];by_cases hqj:q.1=j;subst hqj;have ab:=(zP.1 R).1;rw[R] at u;cases G:E.toList[q.1]? with
  | none=>rw[G] at u;cases u
  | some e=>simp[ab]
  simp only[hqj,if_false];rw[<- u];cases E.toList[j]?<;>rfl;have e:(E.modify q.1 fun e=>{ e with key:=jt x,val:=v }).toList.map (·.born)=E.toList.map (·.born):=by rw[Array.toList_modify];apply ext_getElem?;intro j;rw[zQ,zQ,List.getElem?_modify];by_cases hqj:q.1=j;subst hqj;cases E.toList[q.1]?<;>simp;simp[hqj]
  rw[e];exact hs;intro e U;rw[Array.toList_modify] at U;obtain⟨j,u⟩:=mem_iff_getElem?.1 U;rw[List.getElem?_modify] at u;by_cases hqj:q.1=j;subst hqj;cases G:E.toList[q.1]? with
  | none=>rw[G] at u;simp at u
  | some e0=>
   rw[G] at u;simp at u;subst u;exact hc e0 (yF G)
  simp[hqj] at u;exact hc e (yF (by rw[xL];exact u))
section
structure dZ where
 j9:nJ
 Q5:List Int
 Q9:List Int
 x6:Int
 Q3:Bool
 Q1:List Int
 J7:List Int
 J8:List (Int×Int×List Int)
 Q2:List Int
abbrev kW:=Int×Sl×List Int
def li (x:kW):Value:=.agg #[.b x.1,x.2.1.v]
def m9 (sl sn:Sl) (x6:Int) (Q3:Bool) (fb defb mb:Nat):List Value:=
 [sl.v,sn.v,.i x6,.bool Q3,dF fb,dF defb,.map (some mb)]
def fO (db:Option Addr) (j9:nJ) (sl sn:Sl) (x6:Int) (Q3:Bool) (fb defb mb:Nat) (Q2:List Int):Array Value:=
 ((.pointer db::eT j9.1 j9.2)++m9 sl sn x6 Q3 fb defb mb++Q2.map (Value.int .u32)).toArray
section
variable {db:Option Addr} {j9:nJ} {sl sn:Sl} {x6:Int} {Q3:Bool} {fb defb mb:Nat} {Q2:List Int}
def sq(h:j9.2.length=27):(Value.pointer db::eT j9.1 j9.2).length=29:=by rw[yI,pM h]
def qtU(h:j9.2.length=27):(fO db j9 sl sn x6 Q3 fb defb mb Q2).size=36+Q2.length:=by rw[fO,size_toArray,zF,zF,sq h,zK];rfl
def Ci:(fO db j9 sl sn x6 Q3 fb defb mb Q2)[0]?=some (.pointer db):=rfl
def qwH:(fO db j9 sl sn x6 Q3 fb defb mb Q2)[1]?=some (.int .u64 j9.1):=rfl
def Ew(E:j9.2.length=27)(n:Nat)(h:n<27):(fO db j9 sl sn x6 Q3 fb defb mb Q2)[n+2]?=some (.u (j9.2.getD n 0)):=by
 rw[fO,List.getElem?_toArray,zV,yZ (by rw[sq E];omega),List.getElem?_cons_succ]
 have:=AY (q:=j9.1) (t:=j9.2) n oJ
 rw[List.getElem?_toArray] at this;exact this
def zv(u:j9.2.length=27)(j:Nat)(h:j<7):(fO db j9 sl sn x6 Q3 fb defb mb Q2)[29+j]?=(m9 sl sn x6 Q3 fb defb mb)[j]?:=by rw[fO,List.getElem?_toArray,zV,yY (by rw[sq u];omega),sq u,vD,yZ (by exact h)]
def Fz(h:j9.2.length=27):(fO db j9 sl sn x6 Q3 fb defb mb Q2)[29]?=some sl.v:=zv h 0 oM
def qx5(h:j9.2.length=27):(fO db j9 sl sn x6 Q3 fb defb mb Q2)[30]?=some sn.v:=zv h 1 oM
def Am(h:j9.2.length=27):(fO db j9 sl sn x6 Q3 fb defb mb Q2)[32]?=some (.bool Q3):=zv h 3 oM
def xz(h:j9.2.length=27):(fO db j9 sl sn x6 Q3 fb defb mb Q2)[33]?=some (dF fb):=zv h 4 oM
def CM(h:j9.2.length=27):(fO db j9 sl sn x6 Q3 fb defb mb Q2)[34]?=some (dF defb):=zv h 5 oM
def sX(h:j9.2.length=27):(fO db j9 sl sn x6 Q3 fb defb mb Q2)[35]?=some (.map (some mb)):=zv h 6 oM
end
structure Rows (F:List Nat) (w:World) (sl sn:Sl) (Q5 Q9:List Int) (fs:List (Int×kW)):Prop where
 Q5:Rd F w sl Q5
 Q9:Rd F w sn Q9
 y8:∀ e∈fs,eE F w e.2.2.1 e.2.2.2
def Rows.q8{F F':List Nat}{w w':World}{sl sn:Sl}{Q5 Q9:List Int}{E:List (Int×kW)}(h:Rows F w sl sn Q5 Q9 E)(f:Fr F w w')(u:∀b∈F',b∈F\/w.heap.size<=b):Rows F' w' sl sn Q5 Q9 E:=
 ⟨h.Q5.q8 f u,h.Q9.q8 f u,fun e G=>(h.y8 e G).q8 f u⟩
structure nS (w:World) (X:List Nat) (pb:Nat) (db:Option Addr) (M:dZ) (fb defb mb:Nat) (sl sn:Sl) (F1 F2:List Nat) (fs:List (Int×kW)):Prop where
 cell:w.heap[pb]?=some (.cells (fO db M.j9 sl sn M.x6 M.Q3 fb defb mb M.Q2) rP (0,0))
 Q1:gO w fb F1 M.Q1
 J7:gO w defb F2 M.J7
 map:jc jt w mb (fs.map fun e=>(e.1,li e.2))
 J8:M.J8=fs.map fun e=>(e.1,e.2.1,e.2.2.2)
 rows:Rows (X++pb::mb::(F1++F2)) w sl sn M.Q5 M.Q9 fs
 ow:∀ b∈X,b<w.heap.size
 mC:∀ b∈X,b∉pb::mb::(F1++F2)
 sep:pb≠mb/\(∀ b∈F1,b≠pb/\b≠mb/\b∉F2)/\(∀ b∈F2,b≠pb/\b≠mb)
 Q8:M.j9.2.length=27
 x7:M.Q2.length=24
def eF (w:World) (X:List Nat) (pb:Nat) (db:Option Addr) (F:List Nat) (M:dZ):Prop:=
 ∃fb defb mb sl sn h F2 u,F=pb::mb::(h++F2)/\nS w X pb db M fb defb mb sl sn h F2 u
def nS.cY{M:dZ}{u:List (Int×kW)}(h:nS w X pb db M fb defb mb sl sn F1 F2 u):mb<w.heap.size:=by exact h.map.lt
def nS.lt{w:World}{X:List Nat}{pb:Nat}{db:Option Addr}{M:dZ}{fb defb mb:Nat}{sl sn:Sl}{F1 F2:List Nat}{E:List (Int×kW)}(h:nS w X pb db M fb defb mb sl sn F1 F2 E):∀b∈pb::mb::(F1++F2),b<w.heap.size:=by intro b u;rcases zG.1 u with rfl|u;exact eV h.cell;rcases zG.1 u with rfl|u;exact h.cY;rcases zD.1 u with u|u;exact h.Q1.lt b u;exact h.J7.lt b u
def eF.lt{w:World}{X:List Nat}{pb:Nat}{db:Option Addr}{F:List Nat}{M:dZ}(h:eF w X pb db F M):∀b∈F,b<w.heap.size:=by obtain⟨fb,defb,mb,sl,sn,E,F2,G,rfl,u⟩:=h;exact u.lt
def nS.q8{w w':World}{S X:List Nat}{pb:Nat}{db:Option Addr}{M:dZ}{fb defb mb:Nat}{sl sn:Sl}{F1 F2:List Nat}{G:List (Int×kW)}(h:nS w X pb db M fb defb mb sl sn F1 F2 G)(f:Fr S w w')(E:∀b∈pb::mb::(F1++F2),b∉S)(I:Rows (X++pb::mb::(F1++F2)) w' sl sn M.Q5 M.Q9 G):nS w' X pb db M fb defb mb sl sn F1 F2 G where
 cell:=by rw[f.block pb (eV h.cell) (E pb oL)];exact h.cell
 Q1:=h.Q1.q8 f fun b u=>E b (by simp[u])
 J7:=h.J7.q8 f fun b u=>E b (by simp[u])
 map:=h.map.q8 f (E mb oL)
 J8:=h.J8
 rows:=I
 ow:=fun b u=>yD (h.ow b u) f.size
 mC:=h.mC
 sep:=h.sep
 Q8:=h.Q8
 x7:=h.x7
def nS.q7{M:dZ}{E:List (Int×kW)}(h:nS w X pb db M fb defb mb sl sn F1 F2 E)(f:Fr [] w w'):nS w' X pb db M fb defb mb sl sn F1 F2 E:=
 h.q8 f oL (h.rows.q8 (f.mono (fun b u=>by cases u)) (fun b u=>.inl u))
def eF.q7{w w':World}{X:List Nat}{pb:Nat}{db:Option Addr}{F:List Nat}{M:dZ}(h:eF w X pb db F M)(f:Fr [] w w'):eF w' X pb db F M:=by obtain⟨fb,defb,mb,sl,sn,u,F2,E,rfl,G⟩:=h;exact⟨fb,defb,mb,sl,sn,u,F2,E,rfl,G.q7 f⟩
def Ct{u:List Nat}(n1:∀b∈u,b∈F1\/w.heap.size<=b):∀b∈pb::mb::(u++F2),b∈pb::mb::(F1++F2)\/w.heap.size<=b:=fun b h=>by simp only[zG,zD] at h⊢;rcases h with h|h|h|h;exact .inl (.inl h);exact .inl (.inr (.inl h));rcases n1 b h with E|E;exact .inl (.inr (.inr (.inl E)));exact .inr E;exact .inl (.inr (.inr (.inr h)))
def Gp{u:List Nat}(n1:∀b∈u,b∈F2\/w.heap.size<=b):∀b∈pb::mb::(F1++u),b∈pb::mb::(F1++F2)\/w.heap.size<=b:=fun b h=>by simp only[zG,zD] at h⊢;rcases h with h|h|h|h;exact .inl (.inl h);exact .inl (.inr (.inl h));exact .inl (.inr (.inr (.inl h)));rcases n1 b h with E|E;exact .inl (.inr (.inr (.inr E)));exact .inr E
def Aa{F':List Nat}(n:∀b∈F',b∈F\/w.heap.size<=b):∀b∈X++F',b∈X++F\/w.heap.size<=b:=fun b u=>by rcases zD.1 u with h|h;exact .inl (zH _ h);rcases n b h with h|h;exact .inl (zI _ h);exact .inr h
def GS{F':List Nat}(E:∀b∈X,b<w.heap.size)(G:∀b∈X,b∉F)(n:∀b∈F',b∈F\/w.heap.size<=b):∀b∈X,b∉F':=fun b u h=>by
 rcases n b h with h|h;exact G b u h
 have:=E b u;omega
def nS.qb{M:dZ}{E:List Nat}{J:List (Int×kW)}(h:nS w X pb db M fb defb mb sl sn F1 F2 J)(f:Fr F1 w w')(U:gO w' fb E l)(G:∀b∈E,b∈F1\/w.heap.size<=b): nS w' X pb db { M with Q1:=l } fb defb mb sl sn E F2 J where
 cell:=by rw[f.block pb (eV h.cell) (fun u=>(h.sep.2.1 pb u).1 rfl)];exact h.cell
 Q1:=U
 J7:=h.J7.q8 f fun b u I=>(h.sep.2.1 b I).2.2 u
 map:=h.map.q8 f (fun u=>(h.sep.2.1 mb u).2.1 rfl)
 J8:=h.J8
 rows:=h.rows.q8 (f.mono fun b u _=>by simp[u]) (Aa (Ct G))
 ow:=fun b u=>yD (h.ow b u) f.size
 mC:=GS h.ow h.mC (Ct G)
 sep:=⟨h.sep.1,fun b u=>by rcases G b u with R|R;exact h.sep.2.1 b R;have l1:=eV h.cell;have l2:=h.cY;exact⟨oJ,oJ,fun V=>by have:=h.J7.lt b V;omega⟩,h.sep.2.2⟩
 Q8:=h.Q8
 x7:=h.x7
def nS.wF{M:dZ}{E:List Nat}{R:List (Int×kW)}(h:nS w X pb db M fb defb mb sl sn F1 F2 R)(f:Fr F2 w w')(U:gO w' defb E l)(I:∀b∈E,b∈F2\/w.heap.size<=b): nS w' X pb db { M with J7:=l } fb defb mb sl sn F1 E R where
 cell:=by rw[f.block pb (eV h.cell) (fun u=>(h.sep.2.2 pb u).1 rfl)];exact h.cell
 Q1:=h.Q1.q8 f fun b u J=>(h.sep.2.1 b u).2.2 J
 J7:=U
 map:=h.map.q8 f (fun u=>(h.sep.2.2 mb u).2 rfl)
 J8:=h.J8
 rows:=h.rows.q8 (f.mono fun b u _=>by simp[u]) (Aa (Gp I))
 ow:=fun b u=>yD (h.ow b u) f.size
 mC:=GS h.ow h.mC (Gp I)
 sep:=⟨h.sep.1,fun b u=>⟨(h.sep.2.1 b u).1,(h.sep.2.1 b u).2.1,fun V=>by
  rcases I b V with G|G;exact (h.sep.2.1 b u).2.2 G
  have:=h.Q1.lt b u;omega⟩,fun b u=>by
  rcases I b u with G|G;exact h.sep.2.2 b G;have l1:=eV h.cell;have l2:=h.cY;exact⟨oJ,oJ⟩⟩
 Q8:=h.Q8
 x7:=h.x7
def nS.rJ{o:Obj}{M:dZ}{J E:List (Int×kW)}(h:nS w X pb db M fb defb mb sl sn F1 F2 J)(U:jc jt (gW w mb o) mb (E.map fun e=>(e.1,li e.2)))(u:∀e∈E,e∈J\/eE (X++pb::mb::(F1++F2)) w e.2.2.1 e.2.2.2): nS (gW w mb o) X pb db { M with J8:=E.map fun e=>(e.1,e.2.1,e.2.2.2) } fb defb mb sl sn F1 F2 E:=by
 have f:Fr [mb] w (gW w mb o):=ww h.cY o;have R:Fr (X++pb::mb::(F1++F2)) w (gW w mb o):=f.mono fun b u _=>by simp only[zE] at u;subst u;simp
 have G:=h.rows.q8 R (F':=X++pb::mb::(F1++F2)) (fun b u=>.inl u);exact {
  cell:=by rw[f.block pb (eV h.cell) (oP h.sep.1)];exact h.cell
  Q1:=h.Q1.q8 f fun b u=>by simpa using (h.sep.2.1 b u).2.1
  J7:=h.J7.q8 f fun b u=>by simpa using (h.sep.2.2 b u).2
  map:=U
  J8:=rfl
  rows:=⟨G.Q5,G.Q9,fun e V=>by rcases u e V with I|I;exact G.y8 e I;exact I.q8 R (fun b u=>.inl u)⟩
  ow:=fun b u=>yD (h.ow b u) f.size
  mC:=h.mC
  sep:=h.sep
  Q8:=h.Q8
  x7:=h.x7 }
def eF.pg{X':List Nat}{M:dZ}(h:eF w X pb db F M)(f:Fr X w w')(E:∀b∈X',b<w'.heap.size)(I:∀b∈X',b∈X\/w.heap.size<=b):eF w' X' pb db F M:=by
 obtain⟨fb,defb,mb,sl,sn,J,F2,U,rfl,h⟩:=h;have V:∀b∈pb::mb::(J++F2),b∉X:=fun b u E=>h.mC b E u;have G:=h.q8 (w':=w') f V (h.rows.q8 (f.mono fun b u _=>zH _ u) (fun b u=>.inl u));refine⟨fb,defb,mb,sl,sn,J,F2,U,rfl,{ G with rows:=h.rows.q8 (f.mono fun b u _=>zH _ u) (fun b u=>?_),ow:=E,mC:=fun b u R=>?_ }⟩;rcases zD.1 u with u|u;rcases I b u with u|u;exact .inl (zH _ u);exact .inr u;exact .inl (zI _ u);rcases I b u with u|u;exact h.mC b u R
 have:=h.lt b R;omega
def eF.sep{M:dZ}(h:eF w X pb db F M):∀b∈X,b∉F:=by obtain⟨fb,defb,mb,sl,sn,u,F2,E,rfl,h⟩:=h;exact h.mC
end
section
def qxg(h:Rd S w s l)(V:l.length<=1000000)(J:∀x:Int,(decide (x>=0)=decide (n∈l))->K x w): cW 227 [s.v,.u n] dj w K:=by refine qn3 ?_;have R:=h.1;refine je (fun x w'=>w'=w/\∃i:Nat,x=i/\i<=l.length/\n∉l.take i) (fun x _=>((l.length:Int)-x).toNat) ⟨rfl,0,rfl,oJ,oL⟩ ?_;rintro x w' ⟨rfl,i,rfl,hi,E⟩ X U;apply dV<;>intro G;have I:i<l.length:=(by have:=zC G;omega);refine Rd.at h i rfl (zA I) ?_;apply dV<;>intro G;have e:n=l[i]:=(oP G);refine J _ ?_;rw[yA (show (i:Int)>=0 by omega),yA (by rw[e];exact zX I)];have e:n≠l[i]:=(oP G);rw[gq _ oJ];refine U _ _ ⟨rfl,i+1,oL,oJ,?_⟩ oJ;rw[yG I];simp only[zD,zE,not_or];exact⟨E,e⟩;have:i=l.length:=(by have:=zB G;omega);subst this;rw[xZ] at E;refine J _ ?_;rw[zU oM,zU E]
def qsw{K:Bool->WP}(h:Rd S w s l)(E:l.length<=1000000)(G:K (decide (n∈l)) w): cW 186 [s.v,.u n] dk w K:=by refine qkn<|qxg h E fun x I=>?_;rw[I];exact G
def qz4:∀w,(zeroValue 247).run prog w=.ok (.agg #[.b 0,.slice none 0 0]) w:=fun w=>by kernel_rfl
def yg:prog.underlying BR=some (.map 63 247):=by kernel_rfl
def Cd{E:List (Int×kW)}{K:((Int×Sl)×Bool)->Prop}(h:kJ jt w mb (E.map fun e=>(e.1,li e.2)))(I:∀q,look n E=some q->K ((q.2.1,q.2.2.1),true))(J:look n E=none->K ((0,dG),false)): eX [gX.agg [Cell.int .u8,Cell.slice],gX.one Cell.bool] (fun w'=>(Instr.lookup BR (.map (some mb)) (.u n) true).run prog w') w K:=by
 have:=qsb (P:=prog) yg qz4 uS h n
 rw[xo,vV] at this;cases G:look n E with
 | none=>
  rw[G] at this;exact ru (ts:=[gX.agg [Cell.int .u8,Cell.slice],gX.one Cell.bool]) ((0,dG),false) this (J G)
 | some q=>
  rw[G] at this;exact ru (ts:=[gX.agg [Cell.int .u8,Cell.slice],gX.one Cell.bool]) ((q.2.1,q.2.2.1),true) this (I q G)
section
variable {w:World} {X:List Nat} {pb:Nat} {db:Option Addr} {F:List Nat} {M:dZ}
def qxn(h:eF w X pb db F M)(E:K M.Q1.length w):cW 129 [dF pb] dj w K:=by obtain⟨fb,defb,mb,sl,sn,G,F2,I,rfl,u⟩:=h;refine qjp<|fG (iI u.cell (pW fb) (xz u.Q8) ?_);exact qtd u.Q1 E
def gi (M:dZ) (n:Int):Bool:=!(decide (n<2)||decide (n>=M.j9.2.getD 0 0)||decide (n∈M.Q5)||decide (n∈M.Q1)||decide (n∈M.J7))&&(look n M.J8).isNone
def qqQ{K:Bool->WP}(h:eF w X pb db F M)(hl:M.Q5.length<=1000000)(hk:∀w',Fr [] w w'->K (gi M n) w'):cW 155 [dF pb,.u n] dk w K:=by
 obtain⟨fb,defb,mb,sl,sn,F1,F2,fs,rfl,E⟩:=h;refine qjt<|hU (fun b w'=>b=(decide (n<2)||decide (n>=M.j9.2.getD 0 0)||decide (n∈M.Q5)||decide (n∈M.Q1)||decide (n∈M.J7))/\w'=w) ?_ ?_;refine dV (fun G=>⟨by rw[G];rfl,rfl⟩) fun G=>fG ?_;simp only[Addr.q9];refine iI E.cell (M.j9.2.getD 0 0) (Ew E.Q8 0 oM)<|dV (fun I=>⟨by rw[G,I];rfl,by trivial⟩) fun I=>fG (iI E.cell sl (Fz E.Q8) ?_);refine qsw E.rows.Q5 hl<|dV (fun J=>⟨by rw[G,I,J];rfl,by trivial⟩) fun J=>fG (iI E.cell (pW fb) (xz E.Q8) ?_);refine Gm E.Q1<|dV (fun R=>⟨by rw[G,I,J,R];rfl,by trivial⟩) fun R=>fG<|iI E.cell (pW defb) (CM E.Q8)<|Gm E.J7 ⟨by rw[G,I,J,R];rfl,by trivial⟩;rintro b w' ⟨rfl,rfl⟩;have V:(look n M.J8).isNone=(look n fs).isNone:=by rw[E.J8,vV (fun x:kW=>(x.1,x.2.2))];cases look n fs<;>rfl
 apply dV<;>intro G
 have:=hk w' (.refl _ _)
 rw[gi,G] at this;exact this;refine fG ?_;simp only[Addr.q9];refine iI E.cell (some mb) (sX E.Q8)<|Cd E.map.at (fun q hq=>?_) (fun hq=>?_);refine oB (oE [] w') fun r w1 e1 f1 U=>oH U 0 rfl _ rfl rfl rfl fun w2 U _=>?_
 have:=hk w2 U.fr
 rw[gi,G,V,hq] at this;exact this;refine oB (oE [] w') fun r w1 e1 f1 U=>oH U 0 rfl _ rfl rfl rfl fun w2 U _=>?_
 have:=hk w2 U.fr
 rw[gi,G,V,hq] at this;exact this
def gc (M:dZ) (kind:Int) (body:List Int):(Int×Int)×dZ:=
 if M.Q3 then ((0,7),M) else if body.length>500 then ((0,3),M) else
 match M.Q1 with
 | []=>((0,6),M)
 | n::r=>((n,0),{ M with Q1:=r,J8:=gQ n (kind,body) M.J8 })
def qxl{kind:Int}{K:Int×Int->WP}(h:eF w X pb db F M)(hb:eE (X++F) w s body)(hl:body.length<=100000)(hf:M.Q1.length<=1000000)(hk:∀F' w',eF w' X pb db F' (gc M kind body).2->Fr F w w'->(∀b∈F',b∈F\/w.heap.size<=b)->K (gc M kind body).1 w'): cW 164 [dF pb,.b kind,s.v] dt w K:=by
 have h0:=h;obtain⟨fb,defb,mb,sl,sn,F1,F2,fs,rfl,hx⟩:=h;have hlen:=hb.1;refine qjn (p:=pW pb) (body:=s) ?_;have same:∀ {e:Int},gc M kind body=((0,e),M)->K (0,e) w:=by
  intro e he
  have:=hk _ w (by rw[he];exact h0) (.refl _ _) (fun b hb=>.inl hb)
  rw[he] at this;exact this
 refine fG (iI (c:=.bool) hx.cell M.Q3 (Am hx.Q8) ?_);refine dV (fun hc=>same (by rw[gc,if_pos hc])) (fun hc=>?_);have ho:¬M.Q3=true:=(by rw[hc];decide);apply cD<;>intro hc
 have:=hc
 exact same (by rw[gc,if_neg ho,iP]);have hb5:¬body.length>500:=oJ;refine fG (iI (c:=.ptr) hx.cell (pW fb) (xz hx.Q8) ?_);refine qyO hx.Q1 hf fun F1' w1 hp1 f1 n1=>?_;have hx1:=hx.qb f1 hp1 n1;have fF:Fr (pb::mb::(F1++F2)) w w1:=f1.mono fun b hb _=>by simp[hb]
 have nF:=Ct (w:=w) (pb:=pb) (mb:=mb) (F2:=F2) n1;cases hfr:M.Q1 with
 | nil=>
  have hmv:gc M kind body=((0,6),M):=(by rw[gc,if_neg ho,if_neg hb5,hfr]);rw[hfr] at hp1 hx1;refine cond_true rfl ?_;have hM:{ M with Q1:=(tN []).2 }=M:=(by show { M with Q1:=[] }=M;rw[<- hfr]);rw[hM] at hx1
  have:=hk _ w1 (by rw[hmv];exact⟨fb,defb,mb,sl,sn,F1',F2,fs,rfl,hx1⟩) fF nF
  rw[hmv] at this;exact this
 | cons n r=>
  have hmv:gc M kind body=((n,0),{ M with Q1:=r,J8:=gQ n (kind,body) M.J8 }):=(by rw[gc,if_neg ho,if_neg hb5,hfr]);rw[hfr] at hp1 hx1;refine cond_false rfl<|fG ?_;simp only[Addr.q9];have c1:w1.heap[pb]?=_:=hx1.cell;refine iI (w:=w1.drew) (c:=.map) c1 (some mb) (sX hx.Q8) ?_;have hb1:eE (X++pb::mb::(F1'++F2)) w1.drew s body:=hb.q8 (fF.drew.mono fun b hb _=>zI _ hb) (Aa nF);refine Ab hb1 oJ fun s2 B2 w2 b2 f2 n2 _ _=>?_;have f12:Fr [] w1 w2:=((Fr.refl [] w1).drew).trans f2;have hx2:=hx1.q7 f12;refine ig (by show _=_;rw[jq hx2.cell];exact sX hx.Q8) ?_;obtain⟨o,hr,hm⟩:=GK (v:=li (kind,s2,body)) yg hx2.map n;refine C3 _ hr ?_;have hm':jc jt (gW w2 mb o) mb ((gQ n (kind,s2,body) fs).map fun e=>(e.1,li e.2)):=(by rw[Dj li];exact hm);have hx3:=hx2.rJ hm' fun e he=>by
   rcases CF he with h1|h1;exact .inl h1;subst h1;refine .inr (b2.jw lr fun b hb hb2=>?_);have l2:w1.heap.size<=b:=n2 b hb;rcases zD.1 hb2 with hb2|hb2
   have:=hx1.ow b hb2;omega
   have:=hx1.lt b hb2;omega
  have hM:(gQ n (kind,s2,body) fs).map (fun e=>(e.1,e.2.1,e.2.2.2))=gQ n (kind,body) M.J8:=(by rw[hx.J8];exact Dj (fun x:kW=>(x.1,x.2.2)) n (kind,s2,body) fs);rw[hM] at hx3;have f3:Fr (pb::mb::(F1++F2)) w (gW w2 mb o):=(fF.j8 f12 oL).j8 (ww hx2.cY o) fun b hb=>by simp only[zE] at hb;subst hb;exact .inl oL
  have:=hk _ (gW w2 mb o) (by rw[hmv];exact⟨fb,defb,mb,sl,sn,F1',F2,_,rfl,hx3⟩) f3 nF
  rw[hmv] at this;exact this
end
end
section
def nS.cL{M:dZ}{u:List (Int×kW)}(h:nS w X pb db M fb defb mb sl sn F1 F2 u)(n:Int):look n M.J8=(look n u).map fun q=>(q.1,q.2.1,q.2.2.2):=by rw[h.J8,vV (fun x:kW=>(x.1,x.2.2))]
section
variable {w:World} {X:List Nat} {pb:Nat} {db:Option Addr} {F:List Nat} {M:dZ}
def jp (M:dZ) (n kind:Int) (body:List Int):Int×dZ:=
 if M.Q3 then (7,M) else match look n M.J8 with
 | none=>(10,M)
 | some _=>if body.length>500 then (3,M) else (0,{ M with J8:=gQ n (kind,body) M.J8 })
def qyK{kind:Int}(h:eF w X pb db F M)(G:eE (X++F) w s body)(hl:body.length<=100000)(hk:∀w',eF w' X pb db F (jp M n kind body).2->Fr F w w'->K (jp M n kind body).1 w'): cW 163 [dF pb,.u n,.b kind,s.v] dj w K:=by
 have h0:=h;obtain⟨fb,defb,mb,sl,sn,F1,F2,fs,rfl,I⟩:=h;have aq:=G.1;refine qkd ?_;have J:∀ {e:Int} {w':World},jp M n kind body=(e,M)->Fr [] w w'->K e w':=by
  intro e w' he hf
  have:=hk w' (by rw[he];exact h0.q7 hf) (hf.mono (fun b G=>by cases G))
  rw[he] at this;exact this
 have R:=I.cL n;refine fG (iI I.cell M.Q3 (Am I.Q8) ?_);refine dV (fun hc=>J (by rw[jp,if_pos hc]) (.refl _ _)) (fun hc=>?_);have ho:¬M.Q3=true:=(by rw[hc];decide);refine fG ?_;simp only[Addr.q9];refine iI I.cell (some mb) (sX I.Q8)<|Cd I.map.at (fun q hq=>?_) (fun hq=>?_);rw[hq] at R;refine oB (oE [] w) fun r w1 e1 f1 E=>oH E 0 rfl _ rfl rfl rfl fun w2 E _=>cond_false rfl ?_;apply cD<;>intro hc
 have:=hc
 exact J (by rw[jp,if_neg ho,R];dsimp only [Option.map_some];rw[iP]) E.fr;have am:¬body.length>500:=oJ;have ac:jp M n kind body=(0,{ M with J8:=gQ n (kind,body) M.J8 }):=(by rw[jp,if_neg ho,R];dsimp only [Option.map_some];rw[if_neg am]);have ab:=I.q7 E.drew.fr;refine fG<|iI (w:=w2.drew) (c:=.map) ab.cell (some mb) (sX I.Q8)<|Ab (G.q7 E.drew.fr) oJ fun s2 B2 w3 b2 f2 n2 _ _=>?_;have ad:Fr [] w w3:=E.drew.fr.trans f2;have V:=I.q7 ad;refine ig (by show _=_;simp only[Addr.q9];rw[jq V.cell];exact sX I.Q8) ?_;obtain⟨o,hr,hm⟩:=GK (v:=li (kind,s2,body)) yg V.map n;refine C3 _ hr ?_;have an:jc jt (gW w3 mb o) mb ((gQ n (kind,s2,body) fs).map fun e=>(e.1,li e.2)):=(by rw[Dj li];exact hm);have ae:=V.rJ an fun e he=>by rcases CF he with h1|h1;exact .inl h1;subst h1;refine .inr (b2.jw lr fun b G U=>?_);have l2:w2.drew.heap.size<=b:=n2 b G;rcases zD.1 U with U|U;have:b<w2.heap.size:=ab.ow b U;have:w2.drew.heap.size=w2.heap.size:=rfl;omega;have:b<w2.heap.size:=ab.lt b U;have:w2.drew.heap.size=w2.heap.size:=rfl;omega
 have hM:(gQ n (kind,s2,body) fs).map (fun e=>(e.1,e.2.1,e.2.2.2))=gQ n (kind,body) M.J8:=(by rw[I.J8];exact Dj (fun x:kW=>(x.1,x.2.2)) n (kind,s2,body) fs);rw[hM] at ae;have f4:Fr (pb::mb::(F1++F2)) w (gW w3 mb o):=(ad.mono (T:=pb::mb::(F1++F2)) (fun b G=>by cases G)).j8 (ww V.cY o) fun b G=>by simp only[zE] at G;subst G;exact .inl oL
 have:=hk (gW w3 mb o) (by rw[ac];exact⟨fb,defb,mb,sl,sn,F1,F2,_,rfl,ae⟩) f4
 rw[ac] at this;exact this;rw[hq] at R;exact oB (oE [] w) fun r w1 e1 f1 E=>oH E 0 rfl _ rfl rfl rfl fun w2 E _=>cond_true rfl<|J (by rw[jp,if_neg ho,R];rfl) E.fr
def fl (M:dZ) (n:Int):Int×dZ:=
 if M.Q3 then (7,M) else match look n M.J8 with
 | some _=>(0,{ M with J8:=ju n M.J8,Q1:=ins n M.Q1 })
 | none=>if gi M n then (0,{ M with J7:=ins n M.J7 }) else (10,M)
def qxj(h:eF w X pb db F M)(hl:M.Q5.length<=1000000)(hf:M.Q1.length<=1000000)(hd:M.J7.length<=1000000)(hk:∀F' w',eF w' X pb db F' (fl M n).2->Fr F w w'->(∀b∈F',b∈F\/w.heap.size<=b)->K (fl M n).1 w'): cW 137 [dF pb,.u n] dj w K:=by
 have h0:=h;obtain⟨fb,defb,mb,sl,sn,F1,F2,fs,rfl,J⟩:=h;refine qjm ?_;have ab:∀ {e:Int} {w':World},fl M n=(e,M)->Fr [] w w'->K e w':=by
  intro e w' he hf
  have:=hk _ w' (by rw[he];exact h0.q7 hf) (hf.mono (fun b G=>by cases G)) (fun b G=>.inl G)
  rw[he] at this;exact this
 have R:=J.cL n;refine fG (iI J.cell M.Q3 (Am J.Q8) ?_);refine dV (fun hc=>ab (by rw[fl,if_pos hc]) (.refl _ _)) (fun hc=>?_);have ho:¬M.Q3=true:=(by rw[hc];decide);refine fG ?_;simp only[Addr.q9];refine iI J.cell (some mb) (sX J.Q8)<|Cd J.map.at (fun q hq=>?_) (fun hq=>?_);rw[hq] at R;refine oB (oE [] w) fun r w1 e1 f1 E=>oH E 0 rfl _ rfl rfl rfl fun w2 E _=>cond_true rfl ?_;have U:fl M n=(0,{ M with J8:=ju n M.J8,Q1:=ins n M.Q1 }):=(by rw[fl,if_neg ho,R];rfl);have V:=J.q7 E.fr;refine fG<|iI V.cell (some mb) (sX J.Q8) ?_;obtain⟨o,hr,hm⟩:=jc.del (ty:=0) yg uS V.map n;refine FH (ts:=[]) () _ hr ?_;have ar:jc jt (gW w2 mb o) mb ((ju n fs).map fun e=>(e.1,li e.2)):=by
  rw[qra li];rw[xo] at hm;unfold ju;cases hl:look n (fs.map fun e=>(e.1,li e.2)) with
  | none=>rw[hl] at hm;exact hm
  | some q=>rw[hl] at hm;exact hm
 have I:=V.rJ ar fun e he=>.inl (qrI he);have hM:(ju n fs).map (fun e=>(e.1,e.2.1,e.2.2.2))=ju n M.J8:=by rw[J.J8];exact qra (fun x:kW=>(x.1,x.2.2)) n fs
 rw[hM] at I;have f3:Fr (pb::mb::(F1++F2)) w (gW w2 mb o):=(E.fr.mono (T:=pb::mb::(F1++F2)) (fun b G=>by cases G)).j8 (ww V.cY o) fun b G=>by simp only[zE] at G;subst G;exact .inl oL
 refine fG (iI I.cell (pW fb) (xz J.Q8) ?_);refine FR I.Q1 hf fun av w4 ad f4 n4=>?_;have ae:=I.qb f4 ad n4;have hs:w.heap.size<=(gW w2 mb o).heap.size:=by rw[uB];exact E.fr.size
 have:=hk _ w4 (by rw[U];exact⟨fb,defb,mb,sl,sn,av,F2,_,rfl,ae⟩) (f3.j8 f4 fun b G=>.inl (by simp[G])) fun b G=>by rcases Ct n4 b G with h1|h1;exact .inl h1;exact .inr (zL hs h1)
 rw[U] at this;exact this;rw[hq] at R;refine oB (oE [] w) fun r w1 e1 f1 E=>oH E 0 rfl _ rfl rfl rfl fun w2 E _=>cond_false rfl<|qqQ (h0.q7 E.fr) hl fun w3 f3=>?_;have aa:=E.fr.trans f3;apply dV<;>intro hc;have hu:gi M n=false:=(oP hc);exact ab (by rw[fl,if_neg ho,R];show (if gi M n then _ else _)=_;rw[hu];rfl) aa;have hu:gi M n=true:=(oP hc);have U:fl M n=(0,{ M with J7:=ins n M.J7 }):=by rw[fl,if_neg ho,R];show (if gi M n then _ else _)=_;rw[hu];rfl
 have I:=J.q7 aa;refine fG (iI I.cell (pW defb) (CM J.Q8) ?_);refine FR I.J7 hd fun ay w4 ad f4 n4=>?_;have ae:=I.wF f4 ad n4
 have:=hk _ w4 (by rw[U];exact⟨fb,defb,mb,sl,sn,F1,ay,_,rfl,ae⟩) ((aa.mono (T:=pb::mb::(F1++F2)) (fun b G=>by cases G)).j8 f4 fun b G=>.inl (by simp[G])) fun b G=>by rcases Gp n4 b G with h1|h1;exact .inl h1;exact .inr (zL aa.size h1)
 rw[U] at this;exact this
end
end
def qM (e:MapEntry):Int:=match e.key with | .int _ n=>n|_=>0
def qxW{es:List MapEntry}(h:mI jt es f):es.map qM=f.map (·.1)/\∀e∈es,e.key=jt (qM e):=by
 induction es generalizing f with
 | nil=>cases f with
  | nil=>exact⟨rfl,oL⟩
  | cons p f=>simp[mI] at h
 | cons e es ih=>cases f with
  | nil=>simp[mI] at h
  | cons p f=>
   simp only[mI,xO,List.cons.injEq,Prod.mk.injEq] at h;obtain⟨⟨E,V⟩,I⟩:=h;obtain⟨J,R⟩:=ih I;have G:qM e=p.1:=(by unfold qM;rw[E]);refine⟨by rw[xO,xO,G,J],fun U u=>?_⟩;rcases zG.1 u with rfl|u;rw[G];exact E;exact R U u
def qpS{β:Type}{g:β->Nat}:∀ {l:List β} {e:β},(l.map g).Pairwise (· < ·)->e∈l->l.Perm (e::l.filter fun x=>!(g x==g e))
 | x::l,e,u,E=>by
  rw[xO,yJ] at u;rcases zG.1 E with rfl|E;have:(e::l).filter (fun x=>!(g x==g e))=l:=by
   rw[filter_cons_of_neg oL];exact filter_eq_self.2 fun y G=>by
    have:=u.1 (g y) (zZ G)
    have h:g y≠g e:=oJ;simp[h]
  rw[this];have I:=u.1 (g e) (zZ E);have h:g x≠g e:=oJ;rw[filter_cons_of_pos (by simp[h])];exact ((qpS u.2 E).cons x).trans (List.Perm.swap e x _)
def left (es:Array MapEntry) (seen:Array Nat):List MapEntry:=es.toList.filter fun e=>!seen.toList.contains e.born
def qwv{es:Array MapEntry}{seen:Array Nat}{e:MapEntry}(hs:(es.toList.map (·.born)).Pairwise (· < ·))(he:e∈es.toList)(hn:e.born∉seen.toList):(left es seen).Perm (e::left es (seen.push e.born)):=by have h1:left es (seen.push e.born)=(left es seen).filter fun x=>!(x.born==e.born):=(by rw[left,left,filter_filter];congr 1;funext x;rw[Array.toList_push];by_cases h:x.born=e.born<;>simp[h]);rw[h1];refine qpS (g:=fun x:MapEntry=>x.born) ?_ (mem_filter.2 ⟨he,by simpa using hn⟩);exact hs.sublist (filter_sublist.map _)
def seenAt (w:World) (u:Nat):Nat:=match w.heap[u]? with|some (.mapIter _ _ h _)=>h.size|_=>0
def qp4{E:Nat}{a:Option Nat}{b c:Nat}{u:Array Nat}(h:w.heap[E]?=some (.mapIter a b u c)):seenAt w E=u.size:=by unfold seenAt;rw[h]
def qqg{rk:Nat}{K:Sl->WP}(hm:jc jt w mb f)(hrk:w.heap[rk]?=some (.cells #[.map (some mb)] T (0,0)))(hf:f.length<=100000)(hk:∀s' B l' w',lc w' s' l' B->l'.Perm (f.map (·.1))->Fr [] w w'->(∀b∈B,w.heap.size<=b)->K s' w'): cW 248 [.slice none 0 0,.func (.func 224) #[] #[dF rk]] di w K:=by
 refine qju (s:=dG) ?_;obtain⟨es,c,hb,he,hs,hc⟩:=hm;obtain⟨hkm,hkey⟩:=qxW he;have hesl:es.toList.length=f.length:=(by have:=congrArg List.length hkm;simpa using this);have hbW:∀ {w':World},Fr [] w w'->w'.heap[mb]?=some (.map es c):=fun f=>by rw[f.block mb (eV hb) oL];exact hb
 have hrW:∀ {w':World},Fr [] w w'->w'.heap[rk]?=some (.cells #[.map (some mb)] T (0,0)):=fun f=>by rw[f.block rk (eV hrk) oL];exact hrk
 refine oB (oE [] w) fun r1 w1 e1 f1 ho=>dQ.jQ (lb:=[dF rk]) ho rfl oK fun Dm l R Bz J E E0 w6 el eD f56 ho6 hy=>qny<|iI (c:=.map) (hrW ho6.fr) (some mb) rfl<|FH (ts:=dr) _ _ (qwZ yg (hbW ho6.fr)) ?_;have ho7:=ho6.alloc (.mapIter (some mb) c #[] c);generalize hit:w6.heap.size=it at ho7;refine je (fun _ w'=>∃(seen:Array Nat) (so:Sl) (xs:List Int) (Bo:List Nat),
   dQ [] w w' [(it,.mapIter (some mb) c seen c),(l,R),(Dm,.deferred (some [])),(r1,.cells #[so.v] 172 (0,0))]/\(xs++(left es seen).map qM).Perm (f.map (·.1))/\xs.length=seen.size/\lc w' so xs Bo/\
   ∀b∈Bo,w.heap.size<=b/\b∉[it,l,Dm,r1]) (fun _ w'=>f.length-seenAt w' it)
  ⟨#[],dG,[],[],ho7,?_,rfl,.nil _ _ _,oL⟩ ?_
 have:left es #[]=es.toList:=(by unfold left;exact filter_eq_self.2 oL);rw[this,hkm];exact .refl _;rintro _ w8 ⟨seen,so,xs,Bo,ho8,hperm,hxl,hbu,hBo⟩ X hX;have hxs:xs.length+(left es seen).length=f.length:=(by have:=hperm.length_eq;simpa using this);refine qz7 (hbW ho8.fr) (ho8.at (i:=0) rfl) hc (fun hall=>?_) (fun e hem hne w9 hsame=>?_);have hl0:left es seen=[]:=filter_eq_nil_iff.2 fun e he=>by simpa using hall e he
 rw[hl0,map_nil,xH] at hperm;refine .inl ⟨ho8.at (i:=1) rfl,?_⟩;have ho9:=ho8.gW (o':=E0) 1 rfl;have hbu9:=hbu.q8 (tc (eV (ho8.at (i:=1) rfl)) E0) (fun b hb hm=>by simp only[zE] at hm;subst hm;exact (hBo _ hb).2 oL);exact oA (c:=.slice) ho9 3 rfl so rfl<|dQ.eu ho9.ls 2 rfl fun w10 hd=>hk so Bo xs w10 (hbu9.q8 hd.fr (fun b hb=>(hBo b hb).2)) hperm (ho9.back hd.fr) (fun b hb=>(hBo b hb).1);have ho9:=(ho8.q7 (.of_same hsame)).gW (o':=.mapIter (some mb) c (seen.push e.born) c) 0 rfl;have hbu9:lc (Pt.gW w9 it (.mapIter (some mb) c (seen.push e.born) c)) so xs Bo:=(hbu.q7 (.of_same hsame)).q8 (tc (eV ((ho8.q7 (.of_same hsame)).at (i:=0) rfl)) _) (fun b hb hm=>by simp only[zE] at hm;subst hm;exact (hBo _ hb).2 oL);generalize hw10:Pt.gW w9 it (.mapIter (some mb) c (seen.push e.born) c)=w10 at ho9 hbu9;refine qzP (hbW ho9.fr) (ho9.at (i:=0) rfl) hem hs ?_;rw[hkey e hem];refine hy (qM e) w10 _ (ho9.at (i:=1) rfl) ?_;dsimp only;refine⟨ho9.at (i:=1) rfl,?_⟩;have hoA:=ho9.gW (o':=Bz) 1 rfl;have hbuA:=hbu9.q8 (tc (eV (ho9.at (i:=1) rfl)) Bz) (fun b hb hm=>by simp only[zE] at hm;subst hm;exact (hBo _ hb).2 oL);refine oA (c:=.slice) hoA 3 rfl so rfl<|EX hbuA oJ fun s11 B11 w11 b11 f11 n11=>?_;have hLlt:∀p∈[it,l,Dm,r1],p<(Pt.gW w10 l Bz).heap.size:=fun p hp=>by have hlt:=fun (k:Nat) (q:Nat×Obj) (hq:_[k]?=some q)=>eV (hoA.at (i:=k) hq);simp only[zG,xX,or_false] at hp;rcases hp with rfl|rfl|rfl|rfl;exact hlt 0 _ rfl;exact hlt 1 _ rfl;exact hlt 2 _ rfl;exact hlt 3 _ rfl
 have hB11:∀b∈B11,w.heap.size<=b/\b∉[it,l,Dm,r1]:=fun b hb=>by rcases n11 b hb with h|h;exact hBo b h;refine⟨zL hoA.fr.size h,fun hm=>?_⟩;exact Nat.lt_irrefl _ (yD (hLlt b hm) h)
 have hoB:=hoA.q8 f11 (fun b hb=>.inr (hBo b hb).1) (fun p hp hb=>(hBo _ hb).2 (zZ (f:=(·.1)) hp));refine oD hoB 3 rfl _ fun w12 hoC f12=>⟨hoC.at (i:=1) rfl,?_⟩;have hoD:=hoC.gW (o':=R) 1 rfl;have b12:=(b11.q8 f12 (fun b hb hm=>by simp only[zE] at hm;subst hm;exact (hB11 _ hb).2 oL)).q8 (tc (eV (hoC.at (i:=1) rfl)) R) (fun b hb hm=>by simp only[zE] at hm;subst hm;exact (hB11 _ hb).2 oL);refine cond_false rfl ?_;have hpk:=qwv hs hem hne;refine hX _ _ ⟨seen.push e.born,s11,xs++[qM e],B11,hoD,?_,by simp[hxl],b12,hB11⟩ ?_;refine List.Perm.trans ?_ hperm;rw[zV];exact (hpk.symm.map qM).append_left xs;have h1:=qp4 (ho8.at (i:=0) rfl);have h2:seenAt (Pt.gW w12 l R) it=(seen.push e.born).size:=qp4 (hoD.at (i:=0) rfl);have h3:=hpk.length_eq;rw[yI] at h3;show f.length-seenAt (Pt.gW w12 l R) it<f.length-seenAt w8 it;rw[h1,h2,Array.size_push];omega
abbrev lS:={l:List Int // l.length=512}
def jh (b:lS):List Value:=b.1.map (Value.int .u8)
def sL(b:lS):(jh b).length=512:=by rw[jh,zK,b.2]
def lU (x:Int×lS):List Value:=Value.int .i64 x.1::jh x.2
def uC(x:Int×lS):(lU x).length=513:=by rw[lU,yI,sL]
def lS.zero:lS:=⟨zs 512,pA 512⟩
structure dI where
 Q6:List lS
 Q7:List (Int×lS)
 y6:Int
 down:Bool
 writes:Int
variable {D:dI}
structure dI.Ok (D:dI):Prop where
 at_:∀ x∈D.Q7,0<=x.1/\x.1<D.Q6.length
 y6:-1<=D.y6/\D.y6<=1000000000
 Q6:D.Q6.length<=4096
 Q7:D.Q7.length<=1000000
 writes:0<=D.writes/\D.writes<=1000000000
 nU:∀ b∈D.Q6,eH b.1
 nR:∀ x∈D.Q7,eH x.2.1
abbrev DT:TypeId:=263
def jz (D:dI) (sb:Nat) (h:Sl):Array Value:=#[.slice (pW sb) D.Q6.length D.Q6.length,h.v,.i D.y6,.bool D.down,.i D.writes]
def eQ (w:World) (db:Nat) (F:List Nat) (D:dI):Prop:=
 ∃(sb:Nat) (T:TypeId) (h:Sl) (B:List Nat),F=db::sb::B/\(db::sb::B).Nodup/\w.heap[db]?=some (.cells (jz D sb h) DT (0,0))/\w.heap[sb]?=some (.cells (D.Q6.flatMap jh).toArray T (0,0))/\eP lU 513 w h D.Q7 B
def eQ.q8{w w':World}{db:Nat}{F S:List Nat}{D:dI}(h:eQ w db F D)(f:Fr S w w')(u:∀b∈F,b∉S):eQ w' db F D:=by obtain⟨sb,T,E,B,rfl,J,G,I,R⟩:=h;exact⟨sb,T,E,B,rfl,J,by rw[f.block db (eV G) (u _ oL)];exact G,by rw[f.block sb (eV I) (u _ oL)];exact I,R.q8 f (fun b U=>u b (by simp[U]))⟩
def eQ.q7{db:Nat}(h:eQ w db F D)(f:Fr [] w w'):eQ w' db F D:=h.q8 f (fun _ _ h=>by cases h)
def eQ.lt{w:World}{db:Nat}{F:List Nat}{D:dI}(h:eQ w db F D):∀b∈F,b<w.heap.size:=by obtain⟨sb,T,E,B,rfl,R,G,I,J⟩:=h;intro b u;simp only[zG] at u;rcases u with rfl|rfl|u;exact eV G;exact eV I;exact J.lt b u
def eQ.cell{db:Nat}(h:eQ w db F D):∃sb u,w.heap[db]?=some (.cells (jz D sb u) DT (0,0)):=by obtain⟨sb,T,u,B,rfl,G,E,I,J⟩:=h;exact⟨sb,u,E⟩
def eQ.mem{db:Nat}(h:eQ w db F D):db∈F:=by obtain⟨sb,T,u,B,rfl,_⟩:=h;simp
def sw (D:dI) (sb c:Nat) (h:Sl):Array Value:=#[.slice (pW sb) D.Q6.length c,h.v,.i D.y6,.bool D.down,.i D.writes]
def wn (w:World) (db:Nat) (F:List Nat) (D:dI) (c:Nat) (Z:List Value):Prop:=
 ∃(sb:Nat) (T:TypeId) (h:Sl) (B:List Nat),F=db::sb::B/\(db::sb::B).Nodup/\w.heap[db]?=some (.cells (sw D sb c h) DT (0,0))/\w.heap[sb]?=some (.cells (D.Q6.flatMap jh++Z).toArray T (0,0))/\eP lU 513 w h D.Q7 B
def eQ.z{db:Nat}(h:eQ w db F D):wn w db F D D.Q6.length []:=by obtain⟨sb,T,u,B,rfl,E,G,I,J⟩:=h;exact⟨sb,T,u,B,rfl,E,G,by rw[xH];exact I,J⟩
def eQ.x6{db:Nat}{D':dI}{sb:Nat}{E:Sl}(h:eQ w db F D)(hc:w.heap[db]?=some (.cells (jz D sb E) DT (0,0)))(f:Fr [db] w w')(hs:D'.Q6=D.Q6)(hw:D'.Q7=D.Q7)(R:w'.heap[db]?=some (.cells (jz D' sb E) DT (0,0))):eQ w' db F D':=by
 obtain⟨G,T,u,B,rfl,I,h1,h2,h3⟩:=h;have J:G=sb/\u=E:=by have q:=h1.symm.trans hc;have q0:=congrArg (fun o=>match o with|some (Obj.cells U _ _)=>(match U[0]? with|some (Value.slice (some a) _ _)=>a.block|_=>0)|_=>0) q;have q1:=congrArg (fun o=>match o with|some (Obj.cells U _ _)=>U[1]? | _=>none) q;refine⟨q0,?_⟩;have q2:Value.slice u.a u.len u.cap=Value.slice E.a E.len E.cap:=yO q1;cases E;cases u;simp only[Value.slice.injEq] at q2;obtain⟨rfl,rfl,rfl⟩:=q2;rfl
 obtain⟨rfl,rfl⟩:=J;have V:G≠db:=fun e=>by rw[e] at I;simp at I
 have hB:∀b∈B,b∉[db]:=fun b hb J=>by simp at J;subst J;simp at I;exact I.1.2 hb
 exact⟨G,T,u,B,rfl,I,R,by rw[hs,f.block G (eV h2) (oP V)];exact h2,by rw[hw];exact h3.q8 f hB⟩
def Ha{db:Nat}(h:eQ w db F D)(u:K D.Q6.length w):cW 140 [dF db] dj w K:=by refine qjk ?_;obtain⟨sb,E,G⟩:=h.cell;refine fG (iI G ⟨pW sb,D.Q6.length,D.Q6.length⟩ rfl ?_);exact u
def m8 (h:Nat):dI:=⟨List.replicate h .zero,[],-1,false,0⟩
def qzm{n:Nat}(h:n<=4096):(m8 n).Ok:=
 ⟨fun _ h=>(by cases h),⟨by show (-1:Int)<=-1;decide,by show (-1:Int)<=1000000000;decide⟩,by rw[m8];simpa using h,by simp[m8],by simp[m8],fun b u=>by rw[eq_of_mem_replicate u];exact eH.zs 512,fun _ h=>(by cases h)⟩
def qsM(n:Nat)(b:lS):(List.replicate n (jh b)).flatten=(List.replicate n b).flatMap jh:=by rw[flatMap_def,map_replicate]
set_option maxRecDepth 100000 in
def qyC{h:Int}{K:Option Addr×Int->WP}(G:(h<8\/h>4096)->K (none,1) w)(R:8<=h->h<=4096->∀db F w',eQ w' db F (m8 h.toNat)->Fr [] w w'->(∀b∈F,w.heap.size<=b)->K (pW db,0) w'): cW 106 [.i h] dC w K:=by
 refine qsI<|hU (fun b w'=>b=decide (h<8\/h>4096)/\w'=w) ?_ ?_;apply dV<;>intro E;exact⟨by rw[yA (Or.inl (zC E))],rfl⟩
 have:=zB E
 exact⟨by simp[this],rfl⟩;rintro b w1 ⟨rfl,rfl⟩;refine dV (fun E=>G (zC E)) (fun E=>?_);have hr:=zB E;have U:8<=h:=oJ;have V:h<=4096:=oJ;obtain⟨n,rfl⟩:∃n:Nat,h=n:=⟨h.toNat,oJ⟩;refine dQ.mkN (zero:=jh lS.zero) (oE [] w1) (sL _) oJ oJ oJ oJ fun sb w2 e2 u=>dQ.new u fun db w3 e3 s3 u=>?_;have I:(List.replicate (n:Int).toNat (jh lS.zero)).flatten=((m8 n).Q6).flatMap jh:=(by rw[zJ];exact qsM n _);refine R U V db [db,sb] w3 ⟨sb,296,dG,[],rfl,?_,?_,?_,.nil _ _ _⟩ u.fr (fun b J=>?_)
 have:=u.nodup;simpa using this
 have:=u.at (i:=0) rfl
 rw[this];simp[jz,m8]
 have:=u.at (i:=1) rfl
 rw[this,zJ,<- I,zJ];simp at J
 have:=u.own
 rcases J with rfl|rfl
 have:=u.own (b,_) (yF (i:=0) rfl)
 simpa using this
 have:=u.own (b,_) (yF (i:=1) rfl)
 simpa using this
def gV (D:dI):dI×Bool:=if D.y6=0 then ({ D with down:=true },true) else if D.y6>0 then ({ D with y6:=D.y6-1 },false) else (D,false)
def qvN{db:Nat}{K:Bool->WP}(h:eQ w db F D)(hD:D.y6<=1000000000)(V:∀w',eQ w' db F (gV D).1->Fr [db] w w'->K (gV D).2 w'): cW 171 [dF db] dk w K:=by
 refine qmi ?_;obtain⟨sb,I,J⟩:=h.cell;have u:dQ [db] w w [(db,.cells (jz D sb I) DT (0,0))]:=⟨by simpa using J,oL,.refl _ _,oL⟩;refine fG (oA u 0 rfl D.y6 rfl ?_);apply dV<;>intro R;have E:D.y6=0:=(oP R);refine fG<|oH u 0 rfl _ rfl rfl rfl fun w1 u _=>?_
 have:=V w1 (by rw[gV,if_pos E];exact h.x6 J u.fr rfl rfl (u.at (i:=0) rfl)) u.fr
 rw[gV,if_pos E] at this;exact this;have E:¬D.y6=0:=(oP R);refine hU (fun _ w'=>eQ w' db F (gV D).1/\Fr [db] w w') ?_ ?_;refine fG (oA u 0 rfl D.y6 rfl ?_);apply cD<;>intro U;have G:D.y6>0:=U;refine fG (oA u 0 rfl D.y6 rfl ?_);refine fG ?_;rw[gq _ oJ];refine oH u 0 rfl _ rfl rfl rfl fun w1 u _=>⟨?_,u.fr⟩;rw[gV,if_neg E,if_pos G];exact h.x6 J u.fr rfl rfl (u.at (i:=0) rfl);have G:¬D.y6>0:=U;refine⟨?_,.refl _ _⟩;rw[gV,if_neg E,if_neg G];exact h;rintro _ w1 ⟨h1,h2⟩
 have:=V w1 h1 h2
 have e:(gV D).2=false:=(by rw[gV,if_neg E];split<;>rfl);rw[e] at this;exact this
def qyx:∃i,prog.info? 298=some i/\(∃z,i.zero=some z/\z.cells.size=513)/\i.size=513/\i.bytes=520:=by have h:(prog.info? 298).map (fun i=>(i.zero.map (fun z=>z.cells.size),i.size,i.bytes))=some (some 513,513,520):=oK;obtain⟨i,G,u⟩:=yT.1 h;simp only[Prod.mk.injEq] at u;obtain⟨z,I,E⟩:=yT.1 u.1;exact⟨i,G,⟨z,I,E⟩,u.2.1,u.2.2⟩
def lE (D:dI) (n:Int) (b:lS):dI:={ D with Q7:=D.Q7++[(n,b)],writes:=D.writes+1 }
def en (D:dI) (n:Int) (l:List Int):dI×Int:=
 if D.down then (D,7) else if n<0\/n>=D.Q6.length then (D,4) else
 if h:l.length=512 then ((gV (lE D n ⟨l,h⟩)).1,if (gV (lE D n ⟨l,h⟩)).2 then 7 else 0) else (D,1)
def qsC(n:Int)(b:lS)(w:World):(Instr.build 298 #[(0,.i n),(1,.agg (jh b).toArray)]).run prog w=.ok (.agg (lU (n,b)).toArray) w:=by
 obtain⟨z,hz,hzs⟩:∃z,(prog.info? 298).bind (·.zero)=some z/\z.cells.size=513:=by obtain⟨i,hi,⟨z,hz,hzs⟩,_⟩:=qyx;exact⟨z,by rw[hi];exact hz,hzs⟩
 have:=qvk (P:=prog) (a:=.i n) (b:=.agg (jh b).toArray) (o1:=1) (s0:=1) (s1:=512) hz oK (fun w=>oK) rfl (by show (jh b).toArray.size=512;rw[size_toArray,sL]) rfl hzs w
 exact this
def qk2(l:List Int):((l.map (Value.int .u8)).all Value.oneCell')=true:=by rw[all_eq_true];intro v h;obtain⟨x,_,rfl⟩:=mem_map.1 h;rfl
def qrc(b:lS):((jh b).all Value.oneCell')=true:=qk2 _
def EF(x:Int×lS):((lU x).all Value.oneCell')=true:=by rw[lU,all_cons,qrc];rfl
def qwQ(h:eE S w s l)(G:l≠[]):∃b o u T E,s.a=some (dh b o)/\w.heap[b]?=some (.cells u T E)/\b∉S/\(u.toList.drop o).take l.length=l.map (Value.int .u8):=by
 rcases h.2.2 with I|⟨b,o,u,T,E,J,R,U,V⟩;exact absurd I G;refine⟨b,o,u,T,E,J,R,U,?_⟩;apply ext_getElem?;intro i;rw[xB,zQ];by_cases hi:i<l.length;rw[if_pos hi,xA,zA hi]
 have:=V i l[i] (zA hi)
 rw[xT] at this
 have:=congrArg (·[0]?) this
 simpa using this;rw[if_neg hi,yS oJ];rfl
def qo4{db:Nat}(h:eQ w db F D)(hD:D.Ok)(hs:eE S w s l)(hk:∀F' w',eQ w' db F' (en D n l).1->Fr F w w'->(∀b∈F',b∈F\/w.heap.size<=b)->K (en D n l).2 w'): cW 138 [dF db,.i n,s.v] dj w K:=by
 refine qjM (d:=pW db) (b:=s) ?_;have hlen:=hs.1;have hdb:=h.mem;obtain⟨sb,T,wsl,B,hF,hn,hc,hsb,hbuf⟩:=h;have h:eQ w db F D:=⟨sb,T,wsl,B,hF,hn,hc,hsb,hbuf⟩;have ho:dQ F w w [(db,.cells (jz D sb wsl) DT (0,0))]:=⟨by simpa using hc,oL,.refl _ _,by simp[hdb]⟩;refine fG (oA (c:=.bool) ho 0 rfl D.down rfl ?_);have same:∀ {e:Int},en D n l=(D,e)->∀ {w'},w'=w->K e w':=by
  rintro e he w' rfl
  have:=hk F w' (by rw[he];exact h) (.refl _ _) (fun b hb=>.inl hb)
  rw[he] at this;exact this
 refine dV (fun hd=>same (by rw[en,if_pos hd]) rfl) fun hd=>hU (fun b w'=>b=decide (n<0\/n>=D.Q6.length)/\w'=w) ?_ ?_;apply dV<;>intro hc;exact⟨by rw[yA (Or.inl (zC hc))],rfl⟩;refine fG (oA (c:=.slice) ho 0 rfl ⟨pW sb,D.Q6.length,D.Q6.length⟩ rfl ⟨?_,rfl⟩)
 have:=zB hc
 by_cases h2:n>=D.Q6.length<;>simp[this,h2];rintro b w1 ⟨rfl,rfl⟩;refine dV (fun hr=>same (by rw[en,if_neg (oP hd),if_pos (zC hr)]) rfl) (fun hr=>?_);have hr':=zB hr;refine dV (fun hq=>same ?_ rfl) (fun hq=>?_);have:¬l.length=512:=(by simp at hq;omega);rw[en,if_neg (oP hd),if_neg hr',dif_neg this];have h512:l.length=512:=(by simp at hq;omega);obtain⟨eI,hblk⟩:∃eI:lS,eI.1=l:=⟨⟨l,h512⟩,rfl⟩;have hw:en D n l=((gV (lE D n eI)).1,if (gV (lE D n eI)).2 then 7 else 0):=by rw[en,if_neg (oP hd),if_neg hr',dif_pos h512];have:eI=⟨l,h512⟩:=Subtype.ext hblk;rw[this]
 rw[hw] at hk;have hd1:=ho.drew;refine fG (oA (c:=.slice) hd1 0 rfl wsl rfl ?_);obtain⟨sbk,so,scs,sT,sfr,hsa,hsbk,hsS,hscs⟩:=qwQ hs (by rw[<- length_pos_iff];omega);obtain⟨sa,slen,scap⟩:=s;simp only at hsa hlen;subst hsa;refine qAd oJ<|qC (n:=512) (w:=w1.drew) hsbk (jh eI) (sL _) (by rw[<- h512,hscs,jh,hblk])<|ru (ts:=[.k7]) (lU (n,eI)) (qsC n eI _)<|pD (uC _)<|oB hd1 fun r w2 er fr2 ho2=>ig (ho2.cell (off:=1) 1 rfl rfl) ?_;obtain⟨iW,hi,⟨z,hz,hzs⟩,hsz,hby⟩:=qyx;have hwl:=hD.Q7;have hwr:=hD.writes;have hfz:=hD.y6;have fr2':Fr [] w1 w2:=(Fr.refl [] w1).drew.trans fr2;have hbuf2:eP lU 513 w2 wsl D.Q7 B:=hbuf.q7 fr2';have hsb2:w2.heap[sb]?=some (.cells (D.Q6.flatMap jh).toArray T (0,0)):=(by rw[fr2'.block sb (eV hsb) oL];exact hsb);have hBF:∀b∈B,b∈F:=fun b hb=>by rw[hF];simp[hb]
 have hdbB:∀b∈B,b≠db:=fun b hb e=>by subst e;simp at hn;exact hn.1.2 hb
 have hsbB:∀b∈B,b≠sb:=fun b hb e=>by subst e;simp at hn;exact hn.2.1 hb
 have hrB:∀b∈B,b≠r:=fun b hb e=>by have:=hbuf.lt b hb;have e1:w1.drew.heap.size=w1.heap.size:=rfl;omega
 refine eP.j1 (ys:=[(n,eI)]) (e:=298) hbuf2 uC oK hi hz hsz hzs (.ofSlice _ (e':=298) oK _ 1 1 _ ?_ ?_ ?_) rfl (by rw[hby];omega) oJ fun s' B' w3 g1 g2 g3 _=>?_;simp[uC];intro j u hj;rw[Addr.q9,jq (ho2.at (i:=0) rfl),xS];have:(lU (n,eI))[j]?=some u:=(oP hj);simpa using this;intro u hu;have:u∈lU (n,eI):=(oP hu);exact all_eq_true.1 (EF (n,eI)) u this;have ho3:dQ F w1 w3 [(r,.cells (lU (n,eI)).toArray 298 (0,0)),(db,.cells (jz D sb wsl) DT (0,0))]:=
  ho2.q8 g2 (fun b hb=>.inl (hBF b hb)) (fun p hp=>by simp at hp;rcases hp with rfl|rfl;exact fun hb=>hrB _ hb rfl;exact fun hb=>hdbB _ hb rfl)
 have hsb3:w3.heap[sb]?=some (.cells (D.Q6.flatMap jh).toArray T (0,0)):=(by rw[g2.block sb (eV hsb2) (fun hb=>hsbB _ hb rfl)];exact hsb2);have hc3:=ho3.at (i:=1) rfl;refine fG<|rm hc3 (jz { D with Q7:=D.Q7++[(n,eI)] } sb s') rfl rfl (zO rfl) fun w4 hc4 f4=>fG (iI (c:=.i) hc4 D.writes rfl ?_);refine fG ?_;rw[gq (D.writes+1) oJ];refine rm hc4 (jz (lE D n eI) sb s') rfl rfl (zO rfl) fun w5 hc5 f5=>?_;have hs2:=fr2'.size;have hs3:=g2.size;have hne:sb≠db:=fun e=>by rw[e] at hn;simp at hn
 have f35:Fr [db] w3 w5:=f4.trans f5;have hB'db:∀b∈B',b≠db:=fun b hb e=>by
  rcases g3 b hb with h'|h';exact hdbB b h' e
  have:=eV hc;omega
 have hB'sb:∀b∈B',b≠sb:=fun b hb e=>by
  rcases g3 b hb with h'|h';exact hsbB b h' e
  have:=eV hsb;omega
 have hB'n:B'.Nodup:=by rcases g1 with ⟨_,_,rfl⟩|⟨b',o',cs',T',rfl,_⟩;simp;simp
 have h5:eQ w5 db (db::sb::B') (lE D n eI):=(by refine⟨sb,T,s',B',rfl,?_,hc5,?_,?_⟩;simp only[nodup_cons,zG,not_or];exact⟨⟨fun e=>hne e.symm,fun hb=>hB'db _ hb rfl⟩,fun hb=>hB'sb _ hb rfl,hB'n⟩;rw[f35.block sb (eV hsb3) (oP hne)];exact hsb3;exact g1.q8 f35 (fun b hb=>by simpa using hB'db b hb));have hF':∀b∈db::sb::B',b∈F\/w1.heap.size<=b:=fun b hb=>by simp only[zG] at hb;rcases hb with rfl|rfl|hb;exact .inl hdb;exact .inl (by rw[hF];simp);rcases g3 b hb with h'|h';exact .inl (hBF b h');exact .inr oJ
 have f15:Fr F w1 w5:=((fr2'.mono (fun i hi _=>by cases hi)).j8 g2 (fun b hb=>.inl (hBF b hb))).j8 f35 (fun b hb=>by simp at hb;subst hb;exact .inl hdb);refine qvN h5 (by show D.y6<=_;omega) fun w6 h6 f6=>?_
 have:=hk (db::sb::B') w6 h6 (f15.j8 f6 (fun b hb=>by simp at hb;subst hb;exact .inl hdb)) hF'
 apply dV<;>intro ha;rw[ha] at this;exact this;rw[ha] at this;exact this
def fZ (s:List lS) (x:Int×lS):List lS:=s.set x.1.toNat x.2
def BK(l:List (Int×lS)):∀s:List lS,(l.foldl fZ s).length=s.length:=by
 induction l with
 | nil=>intro s;rfl
 | cons x l ih=>intro s;rw[foldl_cons,ih,fZ,xG]
def fY (D:dI):dI×Int:=
 if D.down then (D,7) else if (gV D).2 then ((gV D).1,7) else ({ (gV D).1 with Q6:=D.Q7.foldl fZ D.Q6,Q7:=[] },0)
def xv(D:dI):(gV D).1.Q6=D.Q6/\(gV D).1.Q7=D.Q7:=by unfold gV;split;exact⟨rfl,rfl⟩;split<;>exact⟨rfl,rfl⟩
def qqK{db:Nat}(h:eQ w db F D)(hD:D.Ok)(hk:∀F' w',eQ w' db F' (fY D).1->Fr F w w'->(∀b∈F',b∈F)->K (fY D).2 w'): cW 139 [dF db] dj w K:=by
 refine qk4 ?_;have ai:=h.mem;have aK:=hD.y6;refine hU (fun b w'=>(D.down=true/\b=true/\w'=w)\/(D.down=false/\b=(gV D).2/\eQ w' db F (gV D).1/\Fr [db] w w')) ?_ ?_;obtain⟨sb,E,hc⟩:=h.cell;refine fG (iI hc D.down rfl ?_);exact dV (fun V=>.inl ⟨V,rfl,rfl⟩) fun V=>qvN h oJ fun w1 h1 f1=>.inr ⟨V,rfl,h1,f1⟩;rintro b w1 (⟨V,rfl,rfl⟩|⟨V,rfl,h1,f1⟩);refine cond_true rfl ?_
 have:=hk F w1 (by rw[fY,if_pos V];exact h) (.refl _ _) (fun b hb=>hb)
 rw[fY,if_pos V] at this;exact this;have fF:Fr F w w1:=f1.mono (fun i G _=>by simp at G;subst G;exact ai);apply dV<;>intro ha
 have:=hk F w1 (by rw[fY,if_neg (by simp[V]),if_pos ha];exact h1) fF (fun b hb=>hb)
 rw[fY,if_neg (by simp[V]),if_pos ha] at this;exact this;have ay:fY D=({ (gV D).1 with Q6:=D.Q7.foldl fZ D.Q6,Q7:=[] },0):=(by rw[fY,if_neg (by simp[V]),if_neg (by simp[ha])]);rw[ay] at hk;obtain⟨ab,al⟩:=xv D;generalize (gV D).1=D1 at h1 ab al hk;obtain⟨sb,T,E,B,hF,hn,hc,an,I⟩:=h1;rw[ab] at an;rw[al] at I;have ae:sb≠db:=fun e=>by rw[e] at hn;simp at hn
 have hB:∀b∈B,b∉[sb]:=fun b hb he=>by simp at he;subst he;simp at hn;exact hn.2.1 hb
 have aM:=I.len;have az:=hD.Q7;have aA:=hD.Q6;refine fG (iI hc E rfl ?_);refine je (fun x w'=>∃i:Nat,x=i/\i<=D.Q7.length/\w'.heap[sb]?=some (.cells (((D.Q7.take i).foldl fZ D.Q6).flatMap jh).toArray T (0,0))/\Fr [sb] w1 w') (fun x _=>((D.Q7.length:Int)-x).toNat)
  ⟨0,rfl,oJ,an,.refl _ _⟩ ?_
 rintro x w2 ⟨i,rfl,G,J,f2⟩ X hX;have af:w2.heap[db]?=some (.cells (jz D1 sb E) DT (0,0)):=(by rw[f2.block db (eV hc) (by simpa using fun e=>ae e.symm)];exact hc);apply cD<;>intro R;have U:i<D.Q7.length:=oJ;have aB:ed lU 513 [] w2 E D.Q7:=(I.q8 f2 hB).jw uC oL;have ao:=zA U;have aO:=hD.at_ D.Q7[i] (zX U);refine aB.ib uC i rfl ao<|dQ.sh (oE [] w2) oK (uC _) (EF _) fun r w3 er ho=>?_;have aC:w3.heap[sb]?=some (.cells (((D.Q7.take i).foldl fZ D.Q6).flatMap jh).toArray T (0,0)):=(by rw[ho.fr.block sb (eV J) oL];exact J);have ag:w3.heap[db]?=some (.cells (jz D1 sb E) DT (0,0)):=(by rw[ho.fr.block db (eV af) oL];exact af);refine fG (iI (w:=w3.drew) ag ⟨pW sb,D1.Q6.length,D1.Q6.length⟩ rfl ?_);have ap:=ho.at (i:=0) rfl;refine iI (w:=w3.drew) ap D.Q7[i].1 rfl<|qC (n:=512) (w:=w3.drew) ap (jh D.Q7[i].2) (sL _) (by rw[show (lU D.Q7[i]).toArray.toList.drop 1=jh D.Q7[i].2 from rfl,zS (by rw[sL];exact zM _)]) ?_;have u:=BK (D.Q7.take i) D.Q6;refine uR oJ (by rw[ab];omega)<|pD (sL _) ?_;have ac:0+Int.toNat D.Q7[i].1*512+(jh D.Q7[i].2).length<=(((D.Q7.take i).foldl fZ D.Q6).flatMap jh).toArray.size:=by rw[size_toArray,qs sL,sL,u];omega
 refine rm (w:=w3.drew) aC (((((D.Q7.take i).foldl fZ D.Q6).set D.Q7[i].1.toNat D.Q7[i].2).flatMap jh).toArray) (by rw[xS];exact qs7 sL ((D.Q7.take i).foldl fZ D.Q6) D.Q7[i].1.toNat D.Q7[i].2 (by rw[u];omega)) (qrc _) ac fun w4 aD f4=>?_;rw[gq _ oJ];refine hX _ _ ⟨i+1,oL,oJ,?_,?_⟩ oJ;rw[yG U,foldl_append];exact aD;have aE:Fr [sb] w2 w3.drew:=ho.fr.drew.mono (fun i G _=>by cases G);exact f2.trans (aE.trans f4);have U:i=D.Q7.length:=oJ;subst U;rw[xZ] at J;refine fG ?_;have u:=BK D.Q7 D.Q6;refine rm af (jz { D1 with Q6:=D.Q7.foldl fZ D.Q6,Q7:=[] } sb dG) (by simp[dS,jz,u,ab]) rfl (zO rfl) fun w3 ag f3=>?_;have aF:Fr F w w3:=(fF.trans (f2.mono (fun i G _=>by simp at G;subst G;rw[hF];simp))).trans (f3.mono (fun i G _=>by simp at G;subst G;exact ai));refine hk [db,sb] w3 ⟨sb,T,dG,[],rfl,by simpa using fun e=>ae e.symm,ag,?_,.nil _ _ _⟩ aF (fun b hb=>by rw[hF];simp at hb;rcases hb with rfl|rfl<;>simp);rw[f3.block sb (eV J) (oP ae)];exact J
def iJ (n:Int):List (Int×lS)->Option lS
 | []=>none
 | x::r=>match iJ n r with|some b=>some b|none=>if x.1=n then some x.2 else none
def qpE{n:Int}:∀(l:List (Int×lS)) (i:Nat) (h:i<l.length),iJ n (l.drop (i+1))=none->l[i].1=n->iJ n l=some l[i].2
 | x::l,0,h,u,E=>by simp only[xS,drop_succ_cons,xF] at u;simp only[getElem_cons_zero] at E⊢;simp[iJ,u,E]
 | x::l,i+1,h,u,E=>by
  have:=qpE l i (oP h) (oP u) (oP E)
  simp only[iJ,this,getElem_cons_succ]
def quU:∀(l:List (Int×lS)) (i:Nat) (h:i<l.length),iJ n (l.drop (i+1))=none->l[i].1≠n->iJ n (l.drop i)=none:=by intro l i h E u;rw[zY h,iJ,E];simp[u]
def eA (D:dI) (n:Int):List Int×Int:=
 if D.down then ([],7) else if n<0\/n>=D.Q6.length then ([],4) else
 match iJ n D.Q7 with|some b=>(b.1,0)|none=>((D.Q6.getD n.toNat .zero).1,0)
def qsf{b o n:Nat}{h:Nat}{K:Sl->Prop}(u:0<n)(k:K ⟨some (dh b o),n,n⟩):iL (dh b o) n none none none h K:=by unfold iL;refine⟨oL,?_⟩;simp only[xW,zJ,Int.toNat_zero,Nat.sub_zero,Nat.zero_mul];rw[iN,FA];exact k
def qrd{b o:Nat}{h:Nat×Nat}{x:lS}(I:w.heap[b]?=some (.cells cs T h))(J:(cs.toList.drop o).take 512=jh x)(R:b∉S):eE S w ⟨some (dh b o),512,512⟩ x.1:=by
 refine⟨x.2.symm,zM _,.inr ⟨b,o,cs,T,h,rfl,I,R,fun i v u=>?_⟩⟩;have E:=(zP.1 u).1;rw[x.2] at E;rw[xT];have G:(jh x)[i]?=some (.b v):=(by rw[jh,zQ,u];rfl);rw[<- J,xB,if_pos E,xA] at G;apply ext_getElem?;intro j;rw[xB,xA];match j with
 | 0=>simpa using G
 | j+1=>simp
def qsv{K:Value->WP}(u:∀rb w',(∀S w0 L,dQ S w0 w L->dQ S w0 w' ((rb,.cells #[s.v] 261 (0,0))::L))->K (.func (.func 228) #[] #[dF rb]) w'): cW 187 [s.v] dr w K:=by exact qkm<|Pt.CB (u _ _ fun S w0 L h=>h.alloc _)
def qsL(l:List lS)(i:Nat)(x:lS)(h:l[i]?=some x):((l.flatMap jh++Z).drop (i*512)).take 512=jh x:=by have E:=(zP.1 h).1;have u:(l.flatMap jh).length=l.length*512:=qs sL l;rw[drop_append_of_le_length (by rw[u];omega),take_append_of_le_length (by rw[yC,u];omega)];exact Gf sL l i x h
def qvw{db c:Nat}{K:Sl×Int->WP}(h:wn w db F D c Z)(hD:D.Ok)(hk:∀s' B w',fV w' s' (eA D n).1 B->Fr [] w w'->(∀b∈B,w.heap.size<=b)->K (s',(eA D n).2) w'): cW 156 [dF db,.i n] dl w K:=by
 refine qk3<|oB (oE [] w) fun r1 w1 e1 f1 I=>oB I fun r3 w2 e2 f2 I=>oB I fun r5 w3 e3 f3 I=>?_;obtain⟨sb,T,ad,B,hF,hn,hc,aB,am⟩:=h;have aj:∀ {w':World},Fr [] w w'->w'.heap[db]?=some (.cells (sw D sb c ad) DT (0,0)):=fun f=>by rw[f.block db (eV hc) oL];exact hc
 have aC:∀ {w':World},Fr [] w w'->w'.heap[sb]?=some (.cells (D.Q6.flatMap jh++Z).toArray T (0,0)):=fun f=>by rw[f.block sb (eV aB) oL];exact aB
 have aD:∀ {e:Int} {w':World} {L'},eA D n=([],e)->dQ [] w w' L'->L'[1]?=some (r3,.cells #[.slice none 0 0] 101 (0,0))->L'[0]?=some (r5,.cells #[.i e] 69 (0,0))->ld Cell.slice (dh r3) w' fun s=>ld .i (dh r5) w' fun x=>K (s,x) w':=by
  intro e w' L' he I h1 h0;refine oA I 1 h1 dG rfl<|oA I 0 h0 e rfl ?_
  have:=hk dG [] w' (by rw[he];exact .nil _ _ _) I.fr oL
  rw[he] at this;exact this
 refine fG (iI (aj I.fr) D.down rfl ?_);apply dV<;>intro hd;exact oH I 1 rfl _ rfl rfl rfl fun w4 I _=>oH I 0 rfl _ rfl rfl rfl fun w5 I _=>aD (by rw[eA,if_pos hd]) I rfl rfl;refine hU (fun b w'=>b=decide (n<0\/n>=D.Q6.length)/\w'=w3.drew) ?_ ?_;refine oA I.drew 2 rfl n rfl<|dV (fun hc=>?_) (fun aU=>?_);exact⟨by rw[yA (Or.inl (zC hc))],rfl⟩;refine oA I.drew 2 rfl n rfl<|fG (iI (aj I.drew.fr) ⟨pW sb,D.Q6.length,c⟩ rfl ⟨?_,rfl⟩)
 have:=zB aU
 by_cases h2:n>=D.Q6.length<;>simp[this,h2];rintro b w4 ⟨rfl,rfl⟩;apply cD<;>intro hr;exact oH I.drew 1 rfl _ rfl rfl rfl fun w4 I _=>oH I 0 rfl _ rfl rfl rfl fun w5 I _=>aD (by rw[eA,if_neg (oP hd),if_pos (hr)]) I rfl rfl;have aW:=hr;have aX:0<=n:=oJ;have aY:n<D.Q6.length:=oJ;have aZ:=hD.Q7;have a0:=hD.Q6;have a1:=am.len;have aH:eA D n=match iJ n D.Q7 with|some b=>(b.1,0)|none=>((D.Q6.getD n.toNat .zero).1,0):=by rw[eA,if_neg (oP hd),if_neg aW]
 refine fG (iI (aj I.drew.fr) ad rfl ?_);refine qsv fun rb w5 a2=>?_;have a3:=a2 _ _ _ I.drew;refine dQ.jQ (lb:=[dF rb]) a3 rfl oK fun Dm l R Bz J E E0 w6 el eD bm aL hy=>qhV<|oA aL 2 rfl ad rfl ?_;rw[gq _ oJ];have aM:∀ {bl:lS} {s7:Sl} {Bf:List Nat} {ae wz:World} {ak:List (Nat×Obj)},eA D n=(bl.1,0)->dQ [] w ae ak->fV ae s7 bl.1 Bf->(∀b∈Bf,w.heap.size<=b)->(∀b∈Bf,b∉ak.map (·.1))->Fr (ak.map (·.1)) ae wz->K (s7,0) wz:=by
  intro bl s7 Bf ae wz ak he a5 ag V aa fz
  have:=hk s7 Bf wz (by rw[he];exact ag.q8 fz aa) (a5.back fz) V
  rw[he] at this;exact this
 refine je (fun x w'=>∃i:Nat,x=(i:Int)-1/\i<=D.Q7.length/\iJ n (D.Q7.drop i)=none/\dQ [] w w' [(l,R),(Dm,.deferred (some [])),(rb,.cells #[ad.v] 261 (0,0)),(r5,.cells #[.i 0] 69 (0,0)),(r3,.cells #[.slice none 0 0] 101 (0,0)),(r1,.cells #[.i n] 3 (0,0))]) (fun x _=>(x+1).toNat)
  ⟨D.Q7.length,by rw[a1],zM _,by rw[drop_length];rfl,aL⟩ ?_
 rintro x w7 ⟨i,rfl,hi,al,af⟩ X hX;apply cD<;>intro aq;have bp:=aq;obtain⟨i,rfl⟩:∃k,i=k+1:=⟨i-1,oJ⟩;have ar:i<D.Q7.length:=oJ;refine oA af 2 rfl ad rfl ?_;have a6:ed lU 513 [] w7 ad D.Q7:=(am.q7 af.fr).jw uC oL;refine a6.ib uC i oJ (zA ar)<|hy ((((i+1:Nat):Int)-1),lU D.Q7[i]) w7 _ (af.at (i:=0) rfl) ?_;dsimp only;refine dQ.sh af oK (uC _) (EF _) fun r w8 er U=>⟨U.at (i:=1) rfl,?_⟩;have ab:=U.gW (o':=Bz) 1 rfl;refine oA ab 0 rfl D.Q7[i].1 rfl<|oA ab 6 rfl n rfl ?_;apply dV<;>intro hm;have av:D.Q7[i].1=n:=(oP hm);have aw:=qpE D.Q7 i ar al av;have ah:eA D n=(D.Q7[i].2.1,0):=(by rw[aH,aw]);refine qsf oM ?_;have ax:eE [] (Pt.gW w8 l Bz) ⟨some (dh r 1),512,512⟩ D.Q7[i].2.1:=
  qrd (x:=D.Q7[i].2) (ab.at (i:=0) rfl) (by rw[show (lU D.Q7[i]).toArray.toList.drop 1=jh D.Q7[i].2 from rfl,zS (by rw[sL];exact zM _)]) oL
 refine Ab (s:=⟨some (dh r 1),512,512⟩) ax (by rw[D.Q7[i].2.2];decide) fun s7 Bf ae ag ay ai _ _=>?_;have ac:=ab.q7 ay;have u:=ac.ls;have V:∀b∈Bf,w.heap.size<=b:=fun b hb=>by have h1:(Pt.gW w8 l Bz).heap.size<=b:=ai b hb;have:=ab.fr.size;omega
 have aa:∀b∈Bf,b∉[r,l,Dm,rb,r5,r3,r1]:=fun b hb hm=>by
  have h1:(Pt.gW w8 l Bz).heap.size<=b:=ai b hb;have h2:∀p∈[r,l,Dm,rb,r5,r3,r1],p<(Pt.gW w8 l Bz).heap.size:=fun p hp=>by have G:=fun (k:Nat) (q:Nat×Obj) (hq:_[k]?=some q)=>eV (ab.at (i:=k) hq);simp only[zG,xX,or_false] at hp;rcases hp with rfl|rfl|rfl|rfl|rfl|rfl|rfl;exact G 0 _ rfl;exact G 1 _ rfl;exact G 2 _ rfl;exact G 3 _ rfl;exact G 4 _ rfl;exact G 5 _ rfl;exact G 6 _ rfl
  have:=h2 b hm
  omega
 refine oH u 5 rfl _ rfl rfl rfl fun a8 u _=>oH u 4 rfl _ rfl rfl rfl fun a9 u _=>⟨u.at (i:=1) rfl,?_⟩;have u:=u.gW (o':=J 0) 1 rfl;refine cond_true rfl<|.inr ⟨0,_,rfl,u.at (i:=1) rfl,?_⟩;have u:=u.gW (o':=E 0) 1 rfl;exact dQ.eu u 2 rfl fun a' u=>oA u 5 rfl s7 rfl<|oA u 4 rfl 0 rfl<|aM ah ac ag V aa u.fr;have av:D.Q7[i].1≠n:=(oP hm);refine⟨ab.at (i:=1) rfl,?_⟩;have ba:=ab.gW (o':=R) 1 rfl;refine cond_false rfl ?_;rw[gq _ oJ];refine hX _ _ ⟨i,oJ,oJ,quU D.Q7 i ar al av,ba.sub (sublist_cons_self _ _)⟩ oJ;have G:=aq;obtain rfl:i=0:=by omega
 rw[xF] at al;refine .inl ⟨af.at (i:=0) rfl,?_⟩;have U:=(af.gW (o':=E0) 0 rfl).drew;have ah:eA D n=((D.Q6.getD n.toNat .zero).1,0):=(by rw[aH,al]);have aO:n.toNat<D.Q6.length:=oJ;have bb:D.Q6[n.toNat]?=some (D.Q6.getD n.toNat .zero):=(by rw[yR,zA aO];rfl);refine fG (iI (aj U.fr) ⟨pW sb,D.Q6.length,c⟩ rfl ?_);refine oA U 5 rfl n rfl<|uR aX aY<|qsf oM ?_;have ax:eE [] (Pt.gW w7 l E0).drew ⟨some ⟨sb,0+n.toNat*512,none⟩,512,512⟩ (D.Q6.getD n.toNat .zero).1:=
  qrd (aC U.fr) (by rw[xS];exact qsL D.Q6 n.toNat _ bb) oL
 refine Ab (s:=⟨some ⟨sb,0+n.toNat*512,none⟩,512,512⟩) ax (by rw[(D.Q6.getD n.toNat .zero).2];decide) fun s7 Bf ae ag ay ai _ _=>?_;have ac:=U.q7 ay;have u:=ac.ls;have V:∀b∈Bf,w.heap.size<=b:=fun b hb=>by have h1:(Pt.gW w7 l E0).drew.heap.size<=b:=ai b hb;have:=U.fr.size;omega
 have aa:∀b∈Bf,b∉[l,Dm,rb,r5,r3,r1]:=fun b hb hm=>by
  have h1:(Pt.gW w7 l E0).drew.heap.size<=b:=ai b hb;have h2:∀p∈[l,Dm,rb,r5,r3,r1],p<(Pt.gW w7 l E0).drew.heap.size:=fun p hp=>by have G:=fun (k:Nat) (q:Nat×Obj) (hq:_[k]?=some q)=>eV (U.at (i:=k) hq);simp only[zG,xX,or_false] at hp;rcases hp with rfl|rfl|rfl|rfl|rfl|rfl;exact G 0 _ rfl;exact G 1 _ rfl;exact G 2 _ rfl;exact G 3 _ rfl;exact G 4 _ rfl;exact G 5 _ rfl
  have:=h2 b hm
  omega
 exact oH u 4 rfl _ rfl rfl rfl fun a8 u _=>oH u 3 rfl _ rfl rfl rfl fun a9 u _=>dQ.eu u 1 rfl fun a' u=>oA u 4 rfl s7 rfl<|oA u 3 rfl 0 rfl<|aM ah ac ag V aa u.fr
def DG{db:Nat}{K:Sl×Int->WP}(h:eQ w db F D)(E:D.Ok)(G:∀u B w',fV w' u (eA D n).1 B->Fr [] w w'->(∀b∈B,w.heap.size<=b)->K (u,(eA D n).2) w'): cW 156 [dF db,.i n] dl w K:=qvw h.z E G
abbrev gI (n:Int):Prop:=0<=n/\n<4294967296
def Dn(h:gI n)(r:List Int):fu (be n 4++r)=n:=by rw[BG h.1];exact qxy h
def qpr:∀(c:List Int) (i:Nat),(c.flatMap (be · 4)).drop (4*i)=(c.drop i).flatMap (be · 4)
 | [],i=>by simp
 | a::c,0=>by simp
 | a::c,i+1=>by rw[yH,drop_succ_cons,<- qpr c i,drop_append,kr,vE (by rw[kr];omega),xI];congr 1
def qxM(c:List Int):(c.flatMap (be · 4)).length=4*c.length:=by
 induction c with
 | nil=>rfl
 | cons a c ih=>rw[yH,zF,kr,ih,yI];omega
def qly{i:Nat}(h:i<c.length)(u:∀x∈c,gI x):fu ((c.flatMap (be · 4)).drop (4*i))=c[i]:=by rw[qpr,zY h,yH];exact Dn (u _ (zX h)) _
def C4(next:Int)(c:List Int):(iQ next c).length=6+4*c.length:=by rw[iQ,zF,zF,kr,qxM];rfl
def qrl(c:List Int):eH (c.flatMap (be · 4)):=by
 induction c with
 | nil=>exact fun x h=>by cases h
 | cons a c ih=>rw[yH];exact (sW _ _).append ih
def qzI(x:Int):0<=wrap .u8 x/\wrap .u8 x<256:=by rw[Ax];omega
def qo9(next:Int)(c:List Int):eH (iQ next c):=by refine ((sW _ _).append fun x h=>?_).append (qrl c);simp only[zG,xX,or_false] at h;rcases h with rfl|rfl<;>exact qzI _
def qrU{next:Int}(E:gI next)(J:next≠1)(R:∀x∈c,gI x)(U:iG 1 c=true)(hl:c.length<=123):ik (iQ next c)=(next,c,0):=by
 have G:=C4 next c
 have e:iQ next c=be next 4++([wrap .u8 (Int.fdiv c.length (2^8)),wrap .u8 c.length]++c.flatMap (be · 4)):=by rw[iQ,zV]
 have I:fu (iQ next c)=next:=by rw[e];exact Dn E _
 have h:kG (iQ next c)=c.length:=(by have V:(iQ next c).getD 4 0=wrap .u8 (Int.fdiv c.length (2^8)):=(by rw[e,BG E.1];rfl);have h5:(iQ next c).getD 5 0=wrap .u8 c.length:=(by rw[e,BG E.1];rfl);have hd:Int.fdiv (c.length:Int) (2^8)=0:=(by rw[Int.fdiv_eq_ediv_of_nonneg _ oM];omega);rw[kG,V,h5,Ax,Ax,hd];omega);have u:jZ (iQ next c) c.length=c:=by
  apply ext_getElem;simp[jZ];intro i J h2;have:(iQ next c).drop (6+4*i)=(c.flatMap (be · 4)).drop (4*i):=by have h6:(iQ next c).drop 6=c.flatMap (be · 4):=(by rw[e,BG E.1];rfl);rw[<- h6,xD]
  simp only[jZ,getElem_map,getElem_range,this];exact qly h2 R
 rw[ik,iN,if_neg (by rw[I,h];omega),h,zJ,u,if_pos U,I]
def xa(x:Int)(h:0<=x/\x<18446744073709551616):wrap .u64 x=x:=by unfold wrap;have:(IntKind.u64.signed)=false:=rfl;simp only[this,Bool.false_and,Bool.false_eq_true,if_false];exact Int.emod_eq_of_lt h.1 h.2
def qpP{A B:Int}(k:Nat)(I:0<=A)(E:A%2^k=0)(J:0<=B)(h:B<2^k)(R:A+B<18446744073709551616):bits .or .u64 A B=A+B:=by
 obtain⟨a,rfl⟩:∃a:Nat,A=a:=⟨A.toNat,oJ⟩;obtain⟨b,rfl⟩:∃b:Nat,B=b:=⟨B.toNat,oJ⟩;have G:a%2^k=0:=by have:((a:Int)%((2^k:Nat):Int))=0:=(by rw[Int.natCast_pow];exact E);omega
 have u:b<2^k:=(by have:(b:Int)<((2^k:Nat):Int):=(by rw[Int.natCast_pow];exact h);omega);obtain⟨q,rfl⟩:∃q,a=2^k*q:=⟨a / 2^k,by have:=Nat.div_add_mod a (2^k);omega⟩;show wrap .u64 ((BitVec.ofInt 64 ((2^k*q:Nat):Int)||| BitVec.ofInt 64 (b:Int)).toNat:Nat)=_;rw[BitVec.toNat_or,BitVec.ofInt_natCast,BitVec.ofInt_natCast,BitVec.toNat_ofNat,BitVec.toNat_ofNat,Nat.mod_eq_of_lt (show 2^k*q<2^64 by omega),Nat.mod_eq_of_lt (show b<2^64 by omega),<- Nat.two_pow_add_eq_or_of_lt u];rw[xa _ oJ];omega
abbrev lg (n:Int):Prop:=0<=n/\n<18446744073709551616
def Cv:gy q t=be (wrap .u32 (Int.fdiv q (2^32))) 4++(be (wrap .u32 q) 4++t.flatMap (be · 4)):=by rw[gy,zV]
def qjb(J:lg q):iw (gy q t)=q:=by have h:Int.fdiv q (2^32)=q / 4294967296:=(by rw[Int.fdiv_eq_ediv_of_nonneg _ oM];rfl);have u:fu (gy q t)=q / 4294967296:=(by rw[Cv,h,nX _ oJ];exact Dn (by constructor<;>omega) _);have E:(gy q t).drop 4=be (wrap .u32 q) 4++t.flatMap (be · 4):=(by rw[Cv,drop_append,kr,vE (by rw[kr];exact zM _)];rfl);have G:wrap .u32 q=q%4294967296:=(by unfold wrap;have:(IntKind.u32.signed)=false:=rfl;simp only[this,Bool.false_and,Bool.false_eq_true,if_false];rfl);have I:fu ((gy q t).drop 4)=q%4294967296:=(by rw[E,G];exact Dn (by constructor<;>omega) _);rw[iw,u,I,xa (q / 4294967296) oJ,xa (q%4294967296) oJ,xa (q / 4294967296*2^32) oJ];rw[qpP 32 oJ oJ oJ oJ oJ];omega
def qvs(q:Int)(t:List Int):eH (gy q t):=by rw[Cv];exact (sW _ _).append ((sW _ _).append (qrl t))
def qqt(h:t.length=27)(u:∀x∈t,gI x):lD (gy q t)=t:=by
 apply ext_getElem;rw[tr,h];intro i I E;have G:(gy q t).drop 8=t.flatMap (be · 4):=by rw[Cv,<- zV,drop_append,zF,kr,kr,vE (by rw[zF,kr,kr];exact zM _)];rfl
 have:(gy q t).drop (8+4*i)=(t.flatMap (be · 4)).drop (4*i):=(by rw[<- G,xD]);simp only[lD,getElem_map,getElem_range,this];exact qly E u
def qs3{place:Int}(h:lg q)(u:t.length=27)(I:∀x∈t,gI x)(G:Int.tmod q 2=place):eZ place (eC place 1 (gy q t))=((q,t),0):=by have E:gI place:=(by rw[<- G,Int.tmod_eq_emod_of_nonneg h.1];constructor<;>omega);have J:=GD (kind:=1) (body:=gy q t) E (by rw[yo u];decide);rw[eZ,J,if_neg oL,if_neg (by simp[yo u]),if_neg (by rw[qjb h,G];simp),qjb h,qqt u I]
end
section
open Go Go.Pt List
open Go.IntKind (wrap)
open Classical
variable {k v:Nat}
def qxz{a b:Int}(h:eH [a,b]):be (ib [a,b]) 2=[a,b]/\ib [a,b]=a*256+b:=by
 have u:=h a oL;have E:=h b oL;have e:ib [a,b]=a*256+b:=by rw[C0 h (zO rfl)];show ((0*256+a)*256+b)=_;omega
 refine⟨?_,e⟩;rw[e,be2 oJ];congr 1;omega;congr 1;omega
structure dL where
 Q4:Bool
 J6:List Key
 Q0:List Key
 J9:List Int
variable {n:dL}
def iv:dL:=⟨false,[],[],[]⟩
def dW (k v:Nat):Nat×Nat:=if k<1\/k>24\/v>108 then (0,0) else (498 / (k+v),(498+k) / (4+k))
def fJ (n:dL) (k v:Nat):Prop:=
 (∀a∈n.J6,a.length=k)/\(∀a∈n.Q0,a.length=v)/\fL n.J6/\
 if n.Q4 then n.J9=[]/\1<=n.J6.length/\n.J6.length<=(dW k v).1/\n.Q0.length=n.J6.length
 else (∀x∈n.J9,2<=x)/\n.Q0=[]/\2<=n.J9.length/\n.J9.length<=(dW k v).2/\n.J6.length+1=n.J9.length
def kA (J6 Q0:List Key):List Int:=(J6.zip Q0).flatMap fun x=>x.1++x.2
def gj (n:dL):List Int:=if n.Q4 then be n.J6.length 2++kA n.J6 n.Q0 else be n.J9.length 2++n.J9.flatMap (fun x=>be x 4)++n.J6.flatten
def iH (n:dL):Int:=if n.Q4 then 3 else 4
noncomputable def eN (n:dL) (k v:Nat):Int×List Int×Int:=if fJ n k v then (iH n,gj n,0) else (0,[],1)
def iS (k v:Nat):Nat->List Int->List Key×List Key
 | 0,_=>([],[])
 | c+1,b=>(b.take k::(iS k v c (b.drop (k+v))).1,(b.drop k).take v::(iS k v c (b.drop (k+v))).2)
def y7:Nat->List Int->List Int
 | 0,_=>[]
 | c+1,b=>ib (b.take 4)::y7 c (b.drop 4)
def kT (k:Nat):Nat->List Int->List Key
 | 0,_=>[]
 | c+1,b=>b.take k::kT k c (b.drop k)
def fI (b:List Int):Nat:=(b.getD 0 0*256+b.getD 1 0).toNat
def mM (k v:Nat) (b:List Int):dL:=⟨true,(iS k v (fI b) (b.drop 2)).1,(iS k v (fI b) (b.drop 2)).2,[]⟩
def kX (k:Nat) (b:List Int):dL:=⟨false,kT k (fI b-1) ((b.drop 2).drop (fI b*4)),[],y7 (fI b) (b.drop 2)⟩
noncomputable def iA (kind:Int) (b:List Int) (k v:Nat):dL×Int:=
 if (dW k v).1=0\/b.length<2\/b.length>500 then (iv,2)
 else if kind=3/\(b.drop 2).length=fI b*(k+v)/\fJ (mM k v b) k v then (mM k v b,0)
 else if kind=4/\1<=fI b/\(b.drop 2).length=fI b*4+(fI b-1)*k/\fJ (kX k b) k v then (kX k b,0)
 else (iv,2)
def qr5{kind:Int}{b:List Int}(h:(iA kind b k v).2=0):fJ (iA kind b k v).1 k v:=by unfold iA at h⊢;split at h;cases h;rename_i G;rw[if_neg G];split at h;rename_i u;rw[if_pos u];exact u.2.2;rename_i u;rw[if_neg u];split at h;rename_i E;rw[if_pos E];exact E.2.2.2;cases h
def EQ{k v:Nat}:∀ {J6 Q0:List Key},(∀a∈J6,a.length=k)->(∀a∈Q0,a.length=v)->J6.length=Q0.length->(kA J6 Q0).length=J6.length*(k+v)
 | [],[],_,_,_=>by simp[kA]
 | a::r,b::s,E,G,I=>by
  have:=EQ (J6:=r) (Q0:=s) (fun x u=>E x (zN _ u)) (fun x u=>G x (zN _ u)) (oP I)
  unfold kA at this⊢;rw[zip_cons_cons,yH,zF,zF,E a oL,G b oL,this,yI,xU];omega
 | [],_::_,_,_,h=>by simp at h
 | _::_,[],_,_,h=>by simp at h
def qtN{k v:Nat}:∀ {J6 Q0:List Key},(∀a∈J6,a.length=k)->(∀a∈Q0,a.length=v)->J6.length=Q0.length->iS k v J6.length (kA J6 Q0)=(J6,Q0)
 | [],[],_,_,_=>rfl
 | a::r,b::s,E,G,U=>by have ih:=qtN (k:=k) (v:=v) (J6:=r) (Q0:=s) (fun x u=>E x (zN _ u)) (fun x u=>G x (zN _ u)) (oP U);have I:=E a oL;have J:=G b oL;have e:kA (a::r) (b::s)=a++(b++kA r s):=(by unfold kA;rw[zip_cons_cons,yH,zV]);rw[yI,iS,e];have e1:(a++(b++kA r s)).take k=a:=(by rw[<- I,take_left'];rfl);have R:(a++(b++kA r s)).drop k=b++kA r s:=(by rw[<- I,drop_left'];rfl);have V:(a++(b++kA r s)).drop (k+v)=kA r s:=(by rw[<- xD,R,<- J,drop_left'];rfl);have e4:(b++kA r s).take v=b:=(by rw[<- J,take_left'];rfl);rw[V,ih,e1,R,e4]
 | [],_::_,_,_,h=>by simp at h
 | _::_,[],_,_,h=>by simp at h
def qtJ{r:List Int}:∀ {l:List Int},(∀x∈l,0<=x/\x<4294967296)->y7 l.length (l.flatMap (fun x=>be x 4)++r)=l
 | [],_=>rfl
 | a::l,h=>by have ih:=qtJ (r:=r) (l:=l) fun x E=>h x (zN _ E);have u:=kr a 4;rw[yI,y7,yH,zV];generalize l.flatMap (fun x=>be x 4)++r=R at ih⊢;have e1:(be a 4++R).take 4=be a 4:=take_left' u;have G:(be a 4++R).drop 4=R:=drop_left' u;rw[e1,G,ih,Eo (h a oL)]
def qtI{k:Nat}:∀ {l:List Key},(∀a∈l,a.length=k)->kT k l.length l.flatten=l
 | [],_=>rfl
 | a::l,h=>by have ih:=qtI (k:=k) (l:=l) fun x E=>h x (zN _ E);have u:=h a oL;rw[yI,kT,flatten_cons];have e1:(a++l.flatten).take k=a:=(by rw[<- u];exact take_left);have G:(a++l.flatten).drop k=l.flatten:=(by rw[<- u];exact drop_left);rw[e1,G,ih]
def Hg(l:List Int):(l.flatMap fun x=>be x 4).length=l.length*4:=by
 induction l with
 | nil=>rfl
 | cons a l ih=>rw[yH,zF,ih,kr,yI];omega
def En{k:Nat}:∀ {l:List Key},(∀a∈l,a.length=k)->l.flatten.length=l.length*k
 | [],_=>by simp
 | a::l,h=>by rw[flatten_cons,zF,En fun x u=>h x (zN _ u),h a oL,yI,xU];omega
def qpb{n:Nat}(h:n<65536)(r:List Int):fI (be (n:Int) 2++r)=n:=by
 have G:=kr (n:Int) 2;obtain⟨a,b,e⟩:∃a b,be (n:Int) 2=[a,b]:=by
  match be (n:Int) 2,G with
  | [a,b],_=>exact⟨a,b,rfl⟩
 have u:=sW (n:Int) 2;have E:=qrs (n:=(n:Int)) ⟨oJ,oJ⟩;rw[e] at u E
 have:=(qxz u).2
 rw[E] at this;unfold fI;rw[e];show (a*256+b).toNat=n;omega
def qtu{n:Int}{r:List Int}:(be n 2++r).drop 2=r:=by
 have:=drop_left (l₁:=be n 2) (l₂:=r)
 rw[kr] at this;exact this
def qlu(a b:Nat):a / b*b<=a:=Nat.div_mul_le_self a b
def qvO{c:Nat}(h:c<=(dW k v).1):c*(k+v)<=498:=by unfold dW at h;split at h;rw[show c=0 from Nat.le_zero.1 h];omega;exact zL (Nat.mul_le_mul_right _ h) (qlu _ _)
def quE{c:Nat}(h:c<=(dW k v).2):c*4+(c-1)*k<=498:=by
 unfold dW at h;split at h;rw[show c=0 from Nat.le_zero.1 h];omega;have u:c*(4+k)<=498+k:=zL (Nat.mul_le_mul_right _ h) (qlu _ _);cases c with
 | zero=>omega
 | succ c=>
  rw[Nat.add_sub_cancel];rw[xU,Nat.mul_add] at u;rw[xU];omega
def AF:(dW k v).1<=498/\(dW k v).2<=498:=by unfold dW;split;exact⟨oM,oM⟩;exact⟨Nat.div_le_self _ _,Nat.div_le_of_le_mul (by have:(498+k)<=(4+k)*498:=(by rw[xU];omega);exact this)⟩
def CC(h:fJ n k v):2<=(gj n).length/\(gj n).length<=500:=by
 obtain⟨E,I,J,u⟩:=h;unfold gj;cases G:n.Q4 with
 | true=>
  rw[G,if_pos rfl] at u;rw[if_pos rfl,zF,kr,EQ E I u.2.2.2.symm]
  have:=qvO u.2.2.1
  omega
 | false=>
  rw[G,if_neg oM] at u;rw[if_neg oM,zF,zF,kr,Hg,En E]
  have:=quE u.2.2.2.1
  have e:n.J6.length=n.J9.length-1:=oJ;rw[e];omega
def qrM:(⟨n.Q4,n.J6,n.Q0,n.J9⟩:dL)=n:=rfl
def qve(h:fJ n k v)(hk:∀x∈n.J9,x<4294967296):iA (iH n) (gj n) k v=(n,0):=by
 have aa:=CC h;have h0:=h;obtain⟨U,h2,h3,I⟩:=h;have ag:=(AF (k:=k) (v:=v));unfold iA;cases G:n.Q4 with
 | true=>
  rw[G,if_pos rfl] at I;have u:fI (gj n)=n.J6.length:=(by unfold gj;rw[G,if_pos rfl];exact qpb oJ _);have E:(gj n).drop 2=kA n.J6 n.Q0:=(by unfold gj;rw[G,if_pos rfl];exact qtu);have J:mM k v (gj n)=n:=by unfold mM;rw[u,E,qtN U h2 I.2.2.2.symm];rw[<- qrM (n:=n),G,I.1]
  rw[iN,if_pos ⟨by unfold iH;rw[G];rfl,by rw[u,E,EQ U h2 I.2.2.2.symm],by rw[J];exact h0⟩,J]
 | false=>
  rw[G,if_neg oM] at I;have hb:gj n=be n.J9.length 2++(n.J9.flatMap (fun x=>be x 4)++n.J6.flatten):=(by unfold gj;rw[G,if_neg oM,zV]);have u:fI (gj n)=n.J9.length:=(by rw[hb];exact qpb oJ _);have E:(gj n).drop 2=n.J9.flatMap (fun x=>be x 4)++n.J6.flatten:=(by rw[hb];exact qtu);have R:n.J6.length=n.J9.length-1:=oJ;have J:kX k (gj n)=n:=by unfold kX;have e:(n.J9.flatMap (fun x=>be x 4)++n.J6.flatten).drop (n.J9.length*4)=n.J6.flatten:=(by rw[<- Hg];exact drop_left);rw[u,E,qtJ fun x hx=>⟨by have:=I.1 x hx;omega,hk x hx⟩,e,<- R,qtI U];rw[<- qrM (n:=n),G,I.2.1]
  have ah:1<=(dW k v).1:=(by have V:=I.2.2.2.1;have h6:=I.2.2.1;unfold dW at V⊢;by_cases hc:k<1\/k>24\/v>108;rw[if_pos hc] at V;have h8:n.J9.length<=0:=V;omega;rw[if_neg hc];have h7:k+v<=498:=oJ;exact (Nat.le_div_iff_mul_le (show 0<k+v by omega)).2 (by rw[Nat.one_mul];exact h7));rw[iN,if_neg (fun h=>by unfold iH at h;rw[G] at h;exact absurd h.1 oM),if_pos ⟨by unfold iH;rw[G];rfl,by rw[u];omega,by rw[u,E,zF,Hg,En U,R],by rw[J];exact h0⟩,J]
def eH.flat{l:List Key}(h:∀a∈l,eH a):eH l.flatten:=fun x u=>by obtain⟨a,E,u⟩:=mem_flatten.1 u;exact h a E x u
def qo8(u:∀a∈n.J6,eH a)(G:∀a∈n.Q0,eH a):eH (gj n):=by unfold gj;split;refine (sW _ _).append fun x h=>?_;obtain⟨y,I,h⟩:=yK.1 h;have E:=of_mem_zip (a:=y.1) (b:=y.2) I;rcases zD.1 h with h|h;exact u _ E.1 x h;exact G _ E.2 x h;refine ((sW _ _).append fun x h=>?_).append (eH.flat u);obtain⟨y,_,h⟩:=yK.1 h;exact sW _ _ x h
def bw:Nat->Int->List Int
 | 0,_=>[]
 | k+1,n=>bw k (n / 256)++[n%256]
def lp:∀(k:Nat) (n:Int),(bw k n).length=k
 | 0,_=>rfl
 | k+1,n=>by rw[bw,zF,lp k];rfl
def pH:∀(k:Nat) (n:Int),eH (bw k n)
 | 0,_=>fun _ h=>nomatch h
 | k+1,n=>fun x u=>(zD.1 u).elim (pH k _ x) fun h=>by rw[zE.1 h];omega
def qq1(l:List Int)(x:Int):oX (l++[x])=oX l*256+x:=by unfold oX;rw[foldl_append];rfl
def vI:∀(k:Nat) {n:Int},0<=n->n<256^k->oX (bw k n)=n
 | 0,n,u,h=>by have:n<1:=h;show (0:Int)=n;omega
 | k+1,n,u,h=>by rw[Int.pow_succ] at h;rw[bw,qq1,vI k oJ oJ];omega
def CL{a b:Int}(u:0<=a/\a<256^k)(E:0<=b/\b<256^k)(h:bw k a=bw k b):a=b:=by rw[<- vI k u.1 u.2,h,vI k E.1 E.2]
def quK(l:List Int):∀(r:Int),l.foldl (fun r x=>r*256+x) r=r*256^l.length+oX l:=by
 unfold oX;induction l with
 | nil=>intro r;simp
 | cons x l ih=>
  intro r;rw[foldl_cons,foldl_cons,ih,ih (0*256+x),yI,Int.pow_succ];have:(r*256+x)*256^l.length=r*(256^l.length*256)+x*256^l.length:=(by rw[Int.add_mul,Int.mul_assoc,Int.mul_comm 256]);rw[this];simp;omega
def G8(x:Int)(l:List Int):oX (x::l)=x*256^l.length+oX l:=by
 have:=quK l (0*256+x)
 rw[show (0*256+x)=x by omega] at this;unfold oX;rw[foldl_cons,show (0*256+x:Int)=x by omega,this];rfl
def DP:∀ {l:List Int},eH l->0<=oX l/\oX l<256^l.length
 | [],_=>⟨oM,oM⟩
 | x::l,h=>by have ih:=DP fun y u=>h y (zN x u);have E:=h x oL;rw[G8,yI,Int.pow_succ];generalize (256:Int)^l.length=c at ih;have G:x*c<=255*c:=Int.mul_le_mul_of_nonneg_right oJ oJ;have I:0<=x*c:=Int.mul_nonneg oJ oJ;omega
def qts:∀ {a b:List Int},eH a->eH b->a.length=b.length->(cmpL a b<0↔oX a<oX b)
 | [],[],_,_,_=>by show (0:Int)<0↔_;exact .rfl
 | [],_::_,_,_,h=>by simp at h
 | _::_,[],_,_,h=>by simp at h
 | x::a,y::b,G,I,h=>by have E:a.length=b.length:=(oP h);have ih:=qts (fun z u=>G z (zN _ u)) (fun z u=>I z (zN _ u)) E;have pa:=DP fun z u=>G z (zN _ u);have pb:=DP fun z u=>I z (zN _ u);rw[G8,G8,E];rw[E] at pa;generalize (256:Int)^b.length=c at pa pb;unfold cmpL;by_cases h1:x<y;rw[if_pos h1];have:(x+1)*c<=y*c:=Int.mul_le_mul_of_nonneg_right oJ oJ;rw[Int.add_mul,Int.one_mul] at this;exact⟨fun _=>oJ,fun _=>oM⟩;rw[if_neg h1];by_cases h2:y<x;rw[if_pos h2];have:(y+1)*c<=x*c:=Int.mul_le_mul_of_nonneg_right oJ oJ;rw[Int.add_mul,Int.one_mul] at this;exact⟨fun h=>absurd h oM,fun h=>oJ⟩;rw[if_neg h2,ih];have:x=y:=oJ;subst this;omega
def qtr:∀ {a b c d:List Int},a.length=b.length->cmpL (a++c) (b++d)=if a=b then cmpL c d else cmpL a b
 | [],[],_,_,_=>by rw[if_pos rfl];rfl
 | [],_::_,_,_,h=>by simp at h
 | _::_,[],_,_,h=>by simp at h
 | x::a,y::b,c,d,h=>by have ih:=qtr (a:=a) (b:=b) (c:=c) (d:=d) (oP h);rw[show cmpL (x::a++c) (y::b++d)=if x<y then -1 else if y<x then 1 else cmpL (a++c) (b++d) from rfl,show cmpL (x::a) (y::b)=if x<y then -1 else if y<x then 1 else cmpL a b from rfl];by_cases h1:x<y;rw[if_pos h1,if_pos h1,if_neg (fun e=>by have:=(vC e).1;omega)];rw[if_neg h1,if_neg h1];by_cases h2:y<x;rw[if_pos h2,if_pos h2,if_neg (fun e=>by have:=(vC e).1;omega)];have:x=y:=oJ;subst this;rw[if_neg h2,if_neg h2,ih];by_cases e:a=b;rw[if_pos e,if_pos (by rw[e])];rw[if_neg e,if_neg (fun h=>e (vC h).2)]
abbrev jg:=Int×Int
def vW (a:jg):Prop:=lg a.1/\lg a.2
def jf (a:jg):List Int:=bw 8 a.1++bw 8 a.2
def mu(a:jg):(jf a).length=16:=by rw[jf,zF,lp,lp]
def pz(a:jg):eH (jf a):=fun x h=>(zD.1 h).elim (pH _ _ x) (pH _ _ x)
def p8:(256:Int)^8=18446744073709551616:=by decide
def Gv{a b:jg}(u:vW a)(E:vW b)(h:jf a=jf b):a=b:=by obtain⟨G,I⟩:=append_inj h (by rw[lp,lp]);exact Prod.ext (CL (by rw[p8];exact u.1) (by rw[p8];exact E.1) G) (CL (by rw[p8];exact u.2) (by rw[p8];exact E.2) I)
def gg (a:jg) (n:Int):List Int:=jf a++bw 8 n
def kM (n m:Int):List Int:=bw 8 n++bw 8 m
def vQ(a:jg)(n:Int):(gg a n).length=24:=by rw[gg,zF,mu,lp]
def wy(n m:Int):(kM n m).length=16:=by rw[kM,zF,lp,lp]
def wX(a:jg)(n:Int):eH (gg a n):=fun x h=>(zD.1 h).elim (pz _ x) (pH _ _ x)
def FW(n m:Int):eH (kM n m):=pz (n,m)
def qwG{a b:jg}{n m:Int}(u:vW a)(E:vW b)(G:lg n)(I:lg m)(h:gg a n=gg b m):a=b/\n=m:=by obtain⟨J,R⟩:=append_inj h (by rw[mu,mu]);exact⟨Gv u E J,CL (by rw[p8];exact G) (by rw[p8];exact I) R⟩
def qvP{n m:Int}(h:lg n)(u:lg m):cmpL (bw 8 n) (bw 8 m)<0↔n<m:=by rw[qts (pH _ _) (pH _ _) (by rw[lp,lp]),vI 8 h.1 (by rw[p8];exact h.2),vI 8 u.1 (by rw[p8];exact u.2)]
end
section
open Go Go.Pt List
open Go.IntKind (wrap)
open Classical
end
section
open Go.ChangeShapes Go.WideShapes Go.ChangeAt Go.RowKit Go.Pt
def qAr:ownKnob prog.godebug=none:=by kernel_rfl
def qwu:laidOutB prog=true:=by kernel_rfl
abbrev qJ:List (String×DataW Unit):=[("cashbook/crc.halves",Rows.laid_cashbook_crc_halves)]
def qtC:prog.globalNamed "cashbook/crc.halves"=some HG:=by kernel_rfl
def qy1:(prog.globals[HG]?).map (·.type)=some 373:=by kernel_rfl
def qy2:prog.underlying 373=some (.array 16 63):=by kernel_rfl
def qxP:prog.underlying 63=some (.int .u32):=by kernel_rfl
set_option maxRecDepth 100000 in
def qxI(h:Os)(args:Array Value):laidMetH prog qJ ((World.doorLaid prog 4000 h).forCall (fun _ _=>0) ⟨#[],args,[]⟩).memory:=
 laidMetH_of_parts3 (fuel:=8) (laidMet_of_run' 8 oK oK) oK oK
def quO{W:World}(h:laidMetH prog qJ W):Hv W:=by
 rw[MakeChecks.laidMetH_plain _ _ _ oK] at h;obtain⟨ps,⟨g0,t0,cs0,f0,p0,q0,hg0,ht0,hv0,hd0,_,_⟩,_,_⟩:=h;obtain rfl:=yO (qtC.symm.trans hg0);obtain rfl:=yO (qy1.symm.trans ht0);obtain⟨xs,m1,rfl,hx1,hlen,hn3,hel⟩:=DataW.trod_array qy2 hd0;simp only[Prod.mk.injEq] at hx1;have hx:=hx1.1;unfold Rows.laid_cashbook_crc_halves at hx;rw[DataW.agg.injEq] at hx;have c31:prog.cellsOf 63=1:=oK;have hcl:prog.cellsOf 373=16:=oK;have hb:∃T fr,W.heap[HG]?=some (.cells cs0 T fr):=by unfold World.var? at hv0;rw[qtC,Option.bind_some] at hv0;split at hv0;rename_i cs T fr hb;cases hv0;exact⟨T,fr,hb⟩;cases hv0
 obtain⟨T,fr,hb⟩:=hb;have key:∀(i:Nat) (n:Int),(xs.map (·.1))[i]?=some (DataW.lit (.int .u32 n))->cs0.toList[i]?=some (.int .u32 n):=by
  intro i n hi;rw[zQ] at hi;obtain⟨y,hy,hyn⟩:=yT.1 hi;have hil:i<xs.length:=(zP.1 hy).1;have h1:=hel i oJ;rw[c31] at h1;rw[hy] at h1;obtain⟨k,e1,e2,_⟩:=DataW.trod_int qxP h1;rw[e2] at hyn;have hk:k=n:=(oP hyn);subst hk
  have:=congrArg (·[0]?) e1
  simpa using this
 refine⟨T,fr,?_⟩;rw[hb];refine congrArg (fun c=>some (Obj.cells c T fr)) ?_;apply Array.ext';apply List.ext_getElem?;intro i;have hsz:cs0.toList.length=16:=hlen.trans hcl;have hx':xs.map (·.1)=kO.map (fun n=>DataW.lit (.int .u32 n)):=hx.symm;by_cases hi:i<kO.length;have h1:=key i kO[i] (by rw[hx',zQ,zA hi];rfl);rw[h1];show _=(kO.map (Value.int .u32))[i]?;rw[zQ,zA hi];rfl;have h16:kO.length=16:=rfl;rw[yS oJ];exact (yS (by rw[zK];omega)).symm
def qyz{x:Int}(h:IntKind.u8.has x):0<=x/\x<256:=by have u:(0:Int)<=x/\x<=255:=h;omega
end
section
open Go Go.Pt Go.Sort List
attribute [local irreducible] ld dK iF mK iY fq st new idx i3 ji fy jk iL lN gU nn call dU inv run eX iD join loop held ext jQ eu mr ma mv IntKind.wrap
def E7(l:List Int):l.flatMap iz=l.map (Value.int .u32):=by
 induction l with
 | nil=>rfl
 | cons a l ih=>rw[yH,ih];rfl
def qqW{w:World}{s:Sl}{l:List Int}{B:List Nat}{K:Unit->WP}(h:lc w s l B)(hl:l.length<=1000000)(hk:∀J w',lc w' s J B->J.Perm l->J.Pairwise (·<=·)->Fr B w w'->K () w'): cW 148 [s.v] [] w K:=by
 rcases h with ⟨rfl,rfl,rfl⟩|⟨b,o,E,T,rfl,rfl,ha,hb,h1,h2,h3,R⟩;exact qqX (hk [] w (.nil _ _ _) (.refl _) .nil (.refl _ _));obtain⟨a,len,cap⟩:=s;simp only at ha h1 h2 h3 R;subst ha h1;rw[xF,xT,E7] at R;rw[xS,xT] at h3;have U:E=io l.toArray++(E.toList.drop l.length).toArray:=by apply Array.ext';rw[Array.toList_append,io,Array.toList_map,<- R,xE]
 have G:gL b ⟨T,some (E.toList.drop l.length).toArray⟩ w w l.toArray:=⟨.refl _ _,by rw[hb];show _=some (Obj.cells (io l.toArray++(E.toList.drop l.length).toArray) T (0,0));rw[<- U]⟩;refine qtg (len:=l.length) G ⟨oL,oJ⟩ fun u w' s1 s2 s3=>?_;have I:u.size=l.length:=(by have:=s1.1;simpa using this);have hp:u.toList.Perm l:=by
  have:=Bg s1
  rw[zS (by rw[Array.length_toList];omega)] at this;simpa using this
 have V:u.toList.length=l.length:=(by rw[<- I];rfl);have an:E.toList.length=E.size:=rfl;refine hk u.toList w' (.inr ⟨b,0,_,T,rfl,rfl,rfl,s3.eI,?_,?_,?_,?_⟩) hp ?_ s3.fr;show l.length=u.toList.length;exact V.symm;exact h2;show 0+cap*1<=(io u++(E.toList.drop l.length).toArray).size;have e:(E.toList.drop l.length).toArray.size=E.size-l.length:=oL;rw[Array.size_append,Al,e,I];omega;show ((io u++(E.toList.drop l.length).toArray).toList.drop 0).take _=_;rw[xF,xT,Array.toList_append,io,Array.toList_map,take_append_of_le_length (by rw[zK];exact zM _),zS (by rw[zK];exact zM _),E7];rw[pairwise_iff_getElem];intro i j hi hj ac;have hi:i<u.size:=hi;have hj:j<u.size:=hj
 have:=s2 i j (yX _) ac oJ
 rw[getElem!_pos u i hi,getElem!_pos u j hj] at this;simp[ltInt] at this;simpa using this
def qqM{w:World}{mb:Nat}{f:List (Int×Value)}{K:Sl->WP}(U:jc jt w mb f)(V:f.length<=100000)(hk:∀u B h w',lc w' u h B->h.Perm (f.map (·.1))->h.Pairwise (·<=·)->Fr [] w w'->(∀b∈B,w.heap.size<=b)->K u w'): cW 180 [.map (some mb)] dr w fun v w'=> cW 179 [v] di w' fun s w'=>K s w':=by refine qrH<|oB (oE [] w) fun rk w1 e1 E ho=>qmM<|qld<|qqg (U.q8 E oL) (ho.at (i:=0) rfl) V fun u B h w2 b2 I f2 J=>?_;have hl:h.length=f.length:=(by have:=I.length_eq;simpa using this);refine qqW b2 oJ fun l2 w3 b3 p3 s3 f3=>?_;have R:=E.size;exact hk u B l2 w3 b3 (p3.trans I) s3 ((E.trans f2).j8 f3 fun b G=>.inr (zL R (J b G))) fun b G=>zL R (J b G)
section
variable {w:World} {X:List Nat} {pb:Nat} {db:Option Addr} {F:List Nat} {M:dZ}
def qvA{K:Sl->WP}(h:eF w X pb db F M)(G:M.J8.length<=100000)(I:∀s B l w',lc w' s l B->l.Perm (M.J8.map (·.1))->l.Pairwise (·<=·)->Fr [] w w'->(∀b∈B,w.heap.size<=b)->K s w'): cW 149 [dF pb] di w K:=by obtain⟨fb,defb,mb,sl,sn,R,F2,J,rfl,u⟩:=h;refine qiB<|fG ?_;simp only[Addr.q9];refine iI u.cell (some mb) (sX u.Q8) ?_;have E:J.length<=100000:=(by rw[u.J8] at G;simpa using G);refine qqM u.map (oP E) fun s B l w' b p o f n=>I s B l w' b ?_ o f n;rw[u.J8];simpa[Function.comp_def] using p
end
end
section
open Go Go.Pt List
open Go.IntKind (wrap)
attribute [local irreducible] ld dK iF mK iY fq st new idx i3 ji fy jk iL lN gU nn call dU inv run eX iD join loop held ext jQ eu mr ma mv IntKind.wrap
variable {Q2:List Int} {m:Option Nat} {offs:Array (Nat×Nat)} {parts:List (Nat×Value)}
def tQ{A X Y Z:List Value}(h:X.length=Y.length):dS (A++X++Z).toArray A.length Y=(A++Y++Z).toArray:=by apply Array.ext';rw[pR _ _ _ (by rw[size_toArray];simp only[zF];omega)];exact EK A X Y Z h
def rH{cells:Array Value}{i o s:Nat}{v:Value}{rest:List (Nat×Value)}(h:offs[i]?=some (o,s))(u:v.cells.size=s)(G:o+s<=cells.size): Instr.fill (offs[·]?) cells ((i,v)::rest)=Instr.fill (offs[·]?) (dS cells o v.cells.toList) rest:=by have E:=CQ o v.cells cells;simp only[Instr.fill,h];rw[if_neg (by simp[u];omega),E]
def BM{P:Program}{t:TypeId}{z:Value}{cs:Array Value}(u:(P.info? t).bind (·.zero)=some z)(E:P.underlying t=some (.struct (fieldsOf P t)))(h:∀w,((fieldsOf P t).mapM fun f=>do pure (f.offset,<- sizeOf f.type):Sem (Array (Nat×Nat))).run P w=.ok offs w)(G:Instr.fill (offs[·]?) z.cells parts=some cs)(w:World):(Instr.build t parts.toArray).run P w=.ok (.agg cs) w:=by simp only[Instr.build,Sem.run_bind,uZ u,Result.andThen_ok,run_underlying E,h,G,Sem.run_pure]
abbrev GT:TypeId:=189
def ia (x y:Option Addr) (m:Option Nat) (Q2:List Int):List Value:=[.pointer x,.pointer y,.map m]++Q2.map (Value.int .u32)
def wR{x y:Option Addr}(h:Q2.length=24):(ia x y m Q2).length=27:=by simp[ia,h]
def qAw:(prog.info? GT).bind (·.zero)=some (.agg (ia none none none (zs 24)).toArray):=by kernel_rfl
def quC{x y:Option Addr}(h:Q2.length=24)(w:World): (Instr.build GT #[(0,.pointer x),(1,.pointer y),(2,.map m),(3,.agg (Q2.map (Value.int .u32)).toArray)]).run prog w=.ok (.agg (ia x y m Q2).toArray) w:=by refine BM (parts:=[(0,.pointer x),(1,.pointer y),(2,.map m),(3,.agg (Q2.map (Value.int .u32)).toArray)]) (offs:=#[(0,1),(1,1),(2,1),(3,24)]) qAw oK (fun w=>oK) ?_ w;have u:(Value.agg (Q2.map (Value.int .u32)).toArray).cells.size=24:=(by show (Q2.map (Value.int .u32)).toArray.size=24;simp[h]);rw[rH (o:=0) (s:=1) rfl rfl (zO rfl),rH (o:=1) (s:=1) rfl rfl (zO rfl),rH (o:=2) (s:=1) rfl rfl (zO rfl),rH (o:=3) (s:=24) rfl u (zO rfl)];show some _=_;congr 1;exact tQ (A:=[.pointer x,.pointer y,.map m]) (X:=(zs 24).map (Value.int .u32)) (Z:=[]) (Y:=Q2.map (Value.int .u32)) (by simp[h,pA]) |>.trans (by rw[xH];rfl)
def fj (db:Option Addr) (j9:nJ) (sl sn:Sl) (x6:Int) (Q3:Bool) (wk:List Value):Array Value:=
 ((Value.pointer db::eT j9.1 j9.2)++([sl.v,sn.v,.i x6,.bool Q3]:List Value)++wk).toArray
def FO{db:Option Addr}{j9:nJ}{sl sn:Sl}{x6:Int}{Q3:Bool}{fb defb mb:Nat}: fj db j9 sl sn x6 Q3 (ia (pW fb) (pW defb) (some mb) Q2)=fO db j9 sl sn x6 Q3 fb defb mb Q2:=by simp[fj,fO,m9,ia]
section
variable {db:Option Addr} {j9:nJ} {sl sn:Sl} {x6:Int} {Q3:Bool} {wk:List Value}
def ut(h:j9.2.length=27):(fj db j9 sl sn x6 Q3 wk).size=33+wk.length:=by rw[fj,size_toArray,zF,zF,sq h];rfl
def wm(u:j9.2.length=27)(j:Nat)(h:j<4):(fj db j9 sl sn x6 Q3 wk)[29+j]?=([sl.v,sn.v,.i x6,.bool Q3]:List Value)[j]?:=by rw[fj,List.getElem?_toArray,zV,yY (by rw[sq u];omega),sq u,vD,yZ (by exact h)]
def qAt:(fj db j9 sl sn x6 Q3 wk)[0]?=some (.pointer db):=rfl
def Dv(E:j9.2.length=27)(n:Nat)(h:n<27):(fj db j9 sl sn x6 Q3 wk)[n+2]?=some (.u (j9.2.getD n 0)):=by
 rw[fj,List.getElem?_toArray,zV,yZ (by rw[sq E];omega),List.getElem?_cons_succ]
 have:=AY (q:=j9.1) (t:=j9.2) n oJ
 rw[List.getElem?_toArray] at this;exact this
def FF(h:j9.2.length=27):((fj db j9 sl sn x6 Q3 wk).toList.drop 5).take 24=(j9.2.drop 3).map (Value.int .u32):=by have u:((j9.2.drop 3).map (Value.int .u32)).length=24:=(by rw[zK,yC,h]);have e:(fj db j9 sl sn x6 Q3 wk).toList.drop 5=(j9.2.drop 3).map (Value.int .u32)++([sl.v,sn.v,.i x6,.bool Q3]++wk):=(by show List.drop 3 ((j9.2.map (Value.int .u32))++[_,_,_,_]++wk)=_;rw[zV,drop_append_of_le_length (by rw[zK,h];decide),xQ]);rw[e,take_append_of_le_length (Nat.le_of_eq u.symm),zS (Nat.le_of_eq u)]
def qyb(E:j9.2.length=27){u:Int}:dS (fj db j9 sl sn x6 Q3 wk) 31 [.i u]=fj db j9 sl sn u Q3 wk:=by
 have h:((Value.pointer db::eT j9.1 j9.2)++([sl.v,sn.v]:List Value)).length=31:=by rw[zF,sq E];rfl
 have:=tQ (A:=(Value.pointer db::eT j9.1 j9.2)++([sl.v,sn.v]:List Value)) (X:=[.i x6]) (Y:=[.i u]) (Z:=.bool Q3::wk) rfl
 rw[h] at this;simpa[fj] using this
def qyc(E:j9.2.length=27){u:List Value}(G:wk.length=u.length):dS (fj db j9 sl sn x6 Q3 wk) 33 u=fj db j9 sl sn x6 Q3 u:=by
 have h:((Value.pointer db::eT j9.1 j9.2)++([sl.v,sn.v,.i x6,.bool Q3]:List Value)).length=33:=by rw[zF,sq E];rfl
 have:=tQ (A:=(Value.pointer db::eT j9.1 j9.2)++([sl.v,sn.v,.i x6,.bool Q3]:List Value)) (X:=wk) (Y:=u) (Z:=[]) G
 rw[h,xH,xH] at this;exact this
end
end
end Go.Proofs.YtpcmehldpoljfaaGreatDoor
