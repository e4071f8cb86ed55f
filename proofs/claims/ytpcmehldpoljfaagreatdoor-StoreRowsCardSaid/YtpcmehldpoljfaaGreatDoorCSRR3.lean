/- Conditions: those that stand in each line. -/
import Derived.Test.YtpcmehldpoljfaaGreatDoorCSRR2
import Derived.Sort.LotC
import Derived.Sort.LotA
import Derived.Sort.LotD1
import Derived.Laws.Bits64b
import Derived.Laws.Closers25b
import Derived.KernelRfl
import Derived.Sort.LotD2
import Derived.Sort.LotB
import Derived.Sort.LotD3
import Derived.Test.YtpcmehldpoljfaaGreatDoorCSRR1
import Derived.Test.YtpcmehldpoljfaaGreatDoorProg
import Derived.Shelf.Bytes.SlCountOne
import Derived.Laws.CopyRow
import Derived.Laws.IdiomCopy
import Derived.Test.YtpcmehldpoljfaaGreatDoorTie
import Derived.LaidMore
import Derived.MakeChecks
import Derived.OpenShut
import Derived.ProofKit
set_option linter.unusedVariables false
set_option linter.unusedSimpArgs false
set_option linter.defProp false
namespace Go.Proofs.YtpcmehldpoljfaaGreatDoor
open Go.Proofs.Tryz
section
open Go Go.Pt Go.Sort List
attribute [local irreducible] ld dX jg oe jF fP st new idx jG jR fM jY jz mM iH nn call eJ inv run fG js join loop held ext kz eC nK nE nQ IntKind.wrap
variable {F R S:IS} {K:Unit->WP} {T:IM} {a b n pb:Nat} {d:Array Int} {l:IT} {p:Int->Bool} {t:Int->IK->(Bool->WP)->Prop} {w:IK}
def Cz{u:Array Int}(h:PermIn 0 n d u):(u.toList.take n).Perm (d.toList.take n):=by
 have:=h.2.2;simpa[Array.toList_extract] using this
def qxC{mb:IL}{x:Int}(h:mo w pb mb R d n)(hn:n<=1000000)(hh:kI d n)(hk:∀R' d' w',mo w' pb mb R' d' (n+1)->kI d' (n+1)->(d'.toList.take (n+1)).Perm (d.toList.take n++[x])->Fr (pb::R) w w'->(∀b∈R',b∈R\/w.heap.size<=b)->K () w'): cW 184 [.iface 315 (dS pb),.iface 63 (.u x)] [] w K:=by
 have ad:n<=d.size:=by rcases h with ⟨h0,_⟩|⟨_,_,_,_,_,_,G⟩;omega;exact G
 apply qrP;refine qAU h hn λR1 d1 w1 hr ht hf hR=>?_;rcases hr with ⟨h0,_⟩|⟨rb,T,ae,hb,V,I,J⟩;omega;subst ae;refine qAx hb I (.start V) ?_;rw[wi _ oJ,show ((n+1:Nat):Int)-1=(n:Nat) by omega];have E:∀i,i<n->d1[i]! = d[i]!:=λi U=>by have G:=AP ht (show i<n+1 by omega) J;rw[yZ oO] at G;have h2:=AP (d:=d) rfl U ad;rw[h2] at G;exact (yO G).symm
 refine qAN hb I (.start V) (Nat.lt_succ_self n) ⟨J,oJ⟩ ⟨λi h0 U ar=>?_,λi h0 U au _=>oJ⟩ λd2 w2 hp hH ha=>?_;rw[E i oJ,E _ oJ];exact hh i h0 oJ;refine hk [rb] d2 w2 (.inr ⟨rb,T,rfl,?_,ha.eY,I,by rw[hp.1];exact J⟩) hH ((Cz hp).trans (by rw[ht])) (hf.J0 ha.fr λi U=>?_) hR;rw[ha.fr.block pb (eO hb) (by simpa using λe=>I e.symm),hp.1];exact hb;simp at U;subst U;rcases hR i oL with G|G;exact .inl (zN _ G);exact .inr G
def kI.min(h:kI d n):∀i,i<n->d[0]!<=d[i]!:=by
 intro i;induction i using Nat.strongRecOn with
 | _ i ih=>
  intro u;by_cases h0:i=0;rw[h0];exact Int.le_refl _;exact Int.le_trans (ih ((i-1) / 2) oJ oJ) (h i oJ u)
def qy6{rb:Nat}{mb:IL}{K:IL->WP}(J:w.heap[pb]?=some (sM rb (n+1) d.size mb))(R:w.heap[rb]?=some (.c (iO d) T))(h:rb≠pb)(V:n+1<=d.size)(hn:n<=1000000)(hh:kI d (n+1))(hk:∀d' w',mo w' pb mb [rb] d' n->kI d' n->(d[0]!::d'.toList.take n).Perm (d.toList.take (n+1))->Fr [pb,rb] w w'->K (.iface 63 (.u d[0]!)) w'): cW 236 [.iface 315 (dS pb)] dw w K:=by
 apply qs9;refine qAx J h (.start R) ?_;rw[wi _ oJ,show ((n+1:Nat):Int)-1=(n:Nat) by omega];refine FA (i:=0) (k:=n) J h (.start R) oJ oJ ⟨V,oJ⟩ λw1 h1=>?_;have U:(swp d 0 n).size=d.size:=Sort.size_swp _ _ _;have E:=wg d (i:=0) (j:=n) oJ oJ;refine qy2 (n:=n) J h h1 oJ ⟨oJ,oJ⟩ ⟨λi h0 G am=>?_,λi h0 G an hc=>oJ⟩ λb d2 w2 hp hH h2=>?_;rw[E,E,iN,iN,iN,iN];exact hh i h0 oJ;have ae:=hp.1;have af:w2.heap[pb]?=some (sM rb (n+1) d2.size mb):=by rw[h2.fr.block pb (eO J) (by simpa using λe=>h e.symm),ae,U];exact J
 refine qA7 af h2.eY h oJ hn λw3 g1 g2 g3=>?_;have I:d2[n]! = d[0]!:=by rw[hp.2.1 n (.inr (zM _)),E,iP rfl]
 rw[I];refine hk d2 w3 (.inr ⟨rb,T,rfl,g1,g2,h,oJ⟩) hH ?_ ((h2.fr.mono (T:=[pb,rb]) (λi G _=>by simp at G;simp[G])).trans (g3.mono (λi G _=>by simp at G;simp[G])));have p1:=Cz hp;have p2:=Cz (swp_permIn d 0 (n+1) 0 n oJ oJ oJ oJ oJ);have e1:(swp d 0 n).toList.take (n+1)=(swp d 0 n).toList.take n++[d[0]!]:=by have hv:(swp d 0 n)[n]! = d[0]!:=(by rw[E,iP rfl]);have hl:n<(swp d 0 n).toList.length:=(by simp[U];omega);rw[yG hl];congr 2;rw[<- hv];simp[show n<(swp d 0 n).size by omega]
 rw[e1] at p2;exact ((Iq _ _).symm.trans (p1.append_right _)).trans p2
def ins (x:Int):IT->IT
 | []=>[x]
 | a::l=>if x<a then x::a::l else if x=a then a::l else a::ins x l
def Ay{x:Int}:∀ {l:IT},x∉l->(ins x l).Perm (x::l)
 | [],_=>.refl _
 | a::l,h=>by simp only[zG,not_or] at h;simp only[ins];split;exact .refl _;rw[iN h.1];exact ((Ay h.2).cons a).trans (.swap x a l)
def qtY{x y:Int}:∀ {l:IT},y∈ins x l->y=x\/y∈l
 | [],h=>by simp[ins] at h;exact .inl h
 | a::l,h=>by simp only[ins] at h;split at h;simp only[zG] at h⊢;exact h;split at h;exact .inr h;simp only[zG] at h⊢;rcases h with h|h;exact .inr (.inl h);rcases qtY h with h|h;exact .inl h;exact .inr (.inr h)
def Cy{x:Int}:∀ {l:IT},l.Pairwise (· < ·)->(ins x l).Pairwise (· < ·)
 | [],_=>by simp[ins]
 | a::l,h=>by have E:=yJ.1 h;simp only[ins];split;rename_i G;refine yJ.2 ⟨λb u=>?_,h⟩;rcases zG.1 u with rfl|u;exact G;exact Int.lt_trans G (E.1 b u);split;exact h;rename_i I J;refine yJ.2 ⟨λb u=>?_,Cy E.2⟩;rcases qtY u with rfl|u;omega;exact E.1 b u
def qrT{x:Int}:∀ {l:IT},l.Pairwise (· < ·)->x∈l->ins x l=l
 | a::l,h,u=>by
  have E:=yJ.1 h;simp only[ins];rcases zG.1 u with rfl|u;rw[iN (Int.lt_irrefl _),iP rfl];have:=E.1 x u;rw[iN,iN,qrT E.2 u]
def yv(h:b<w.heap.size)(o:Obj):Fr [b] w (iz w b o):=
 ⟨rfl,rfl,rfl,by rw[ux];exact zM _,λj E u=>by rw[pf _ _ _ _ h,iN (oP u)]⟩
def mo.j1{w':IK}{m:IL}(h:mo w pb m R d n)(k:Fr S w w')(u:pb∉S)(E:∀r∈R,r∉S):mo w' pb m R d n:=by rcases h with ⟨a,b,c,e⟩|⟨rb,T,a,b,c,e,f⟩;exact .inl ⟨a,b,c,by rw[k.block pb (eO e) u];exact e⟩;exact .inr ⟨rb,T,a,by rw[k.block pb (eO b) u];exact b,by rw[k.block rb (eO c) (E rb (by rw[a];simp))];exact c,e,f⟩
def HF{α:Type}[DecidableEq α]{kv:α->IL}{w':IK}{f:List (α×IL)}(h:lh kv w b f)(k:Fr S w w')(E:b∉S):lh kv w' b f:=by obtain⟨G,c,u,I⟩:=h;exact⟨G,c,by rw[k.block b (eO u) E];exact u,I⟩
def mo.um{mb:Nat}{m:IL}{f:List (Int×IL)}(h:mo w pb m R d n)(J:lh jL w mb f):pb≠mb/\∀r∈R,r≠mb:=by obtain⟨U,c,u,_⟩:=J;rcases h with ⟨_,_,G,e⟩|⟨rb,T,a,b,G,e,_⟩;refine⟨λE=>?_,by simp[G]⟩;subst E;rw[e] at u;cases u;refine⟨λE=>?_,λr I E=>?_⟩;subst E;rw[b] at u;cases u;rw[a] at I;simp at I;subst I E;rw[G] at u;cases u
def io.j1{w w':IK}{pb:Nat}{F S:IS}{l:IT}(h:io w pb F l)(k:Fr S w w')(u:∀b∈F,b∉S):io w' pb F l:=by obtain⟨⟨mb,R,d,f,rfl,E,G,I,J,U,V⟩,hs⟩:=h;exact⟨⟨mb,R,d,f,rfl,E.j1 k (u _ oL) (λr E=>u r (by simp[E])),HF G k (u _ oL),I,J,U,V⟩,hs⟩
def io.lt(h:io w pb F l):∀b∈F,b<w.heap.size:=by obtain⟨⟨mb,R,d,f,rfl,I,⟨J,c,G,_⟩,_⟩,_⟩:=h;intro b u;simp only[zG] at u;rcases I with ⟨_,_,E,e⟩|⟨rb,T,a,b',E,e,_⟩;rcases u with rfl|rfl|u;exact eO e;exact eO G;rw[E] at u;cases u;rcases u with rfl|rfl|u;exact eO b';exact eO G;rw[a] at u;simp at u;subst u;exact eO E
def Hs{n:Int}{K:Bool->WP}(h:io w pb F l)(hl:l.length<=1000000)(hk:∀F' w',io w' pb F' (ins n l)->Fr F w w'->(∀b∈F',b∈F\/w.heap.size<=b)->K (decide (n∉l)) w'): cW 152 [dS pb,.u n] dp w K:=by
 refine qmW<|EK h ?_;by_cases hx:n∈l;refine Im (oP hx) ?_;have:=hk F w (by rw[qrT h.qL hx];exact h) (.refl _ _) (λb V=>.inl V);simpa[hx] using this;refine Io (oP hx) ?_;obtain⟨s,E,G,_,_⟩:=h.cells;have ac:=h.qL;obtain⟨mb,R,d,f,rfl,hr,hm,U,hh,hf,h1⟩:=h.ex;have am:E=mb:=by rcases hr with ⟨_,_,_,e⟩|⟨rb,T,_,b,_⟩;have h3:=IH (λo=>match o with|some (Obj.cells cs _ _)=>cs[1]? | _=>none) (G.symm.trans e);simpa using h3;have h3:=IH (λo=>match o with|some (Obj.cells cs _ _)=>cs[1]? | _=>none) (G.symm.trans b);simpa[sM] using h3
 subst am;refine fO<|iv G (some E) rfl ?_;have af:posOf n f=none:=by rcases DU (x:=n) h1 with ⟨U,_⟩|⟨j,_,ap,_⟩;exact U;exact absurd (hf.mem_iff.1 ap) hx
 obtain⟨o,ag,aq⟩:=qvI (P:=prog) (t:=271) (et:=3) (v:=.i 1) oK vu hm n af;refine Dr _ ag ?_;obtain⟨aa,ab⟩:=hr.um hm;have ah:E<w.heap.size:=(by obtain⟨es,c,V,_⟩:=hm;exact eO V);have ai:=yv ah o;have ar:=hr.j1 ai (oP aa) (λr hr=>by simpa using ab r hr);refine fO<|qxC ar hl hh λR' d' w2 au av aw aj ax=>?_;have I:=Ay hx;have J:(ins n l).length=l.length+1:=(by have:=I.length_eq;simpa using this);have ay:lh jL w2 E (f++[(n,.i 1)]):=HF aq aj (by simp only[zG,not_or];exact⟨λe=>aa e.symm,λe=>ab _ e rfl⟩)
 have:=hk (pb::E::R') w2 ⟨⟨E,R',d',f++[(n,.i 1)],rfl,by rw[J];exact au,ay,?_,by rw[J];exact av,?_,?_⟩,Cy ac⟩
  ((ai.mono (T:=pb::E::R) (λi hi _=>by simp at hi;simp[hi])).trans (aj.mono (λi hi _=>by simp at hi;rcases hi with rfl|hi<;>simp[*]))) (λb V=>?_)
 simpa[hx] using this;rw[J];exact aw.trans (((U.append_right [n]).trans (Iq _ _)).trans I.symm);rw[xO];exact ((hf.append_right _).trans (Iq _ _)).trans I.symm;intro p U;rcases zD.1 U with U|U;exact h1 p U;simp at U;rw[U];simp only[zG] at V;rcases V with rfl|rfl|V;exact .inl oL;exact .inl oL;rcases ax b V with h'|h';exact .inl (by simp[h']);rw[ux] at h';exact .inr h'
def qgA{α:Type}:∀(l:List α) (i:Nat) (h:i<l.length),(l[i]::l.eraseIdx i).Perm l
 | a::l,0,_=>.refl _
 | a::l,i+1,h=>by simp only[getElem_cons_succ,eraseIdx_cons_succ];exact (List.Perm.swap _ _ _).trans ((qgA l i (oP h)).cons a)
def ur:IT->I6×IT
 | []=>((0,false),[])
 | x::r=>((x,true),r)
def qzd{K:I6->WP}(h:io w pb F l)(hl:l.length<=1000000)(hk:∀F' w',io w' pb F' (ur l).2->Fr F w w'->(∀b∈F',b∈F\/w.heap.size<=b)->K (ur l).1 w'): cW 195 [dS pb] dM w K:=by
 refine qls ?_;have G:=h.qL;have E:=h;obtain⟨mb,R,d,f,rfl,hr,hm,V,hh,hf,h1⟩:=h.ex;rcases hr with ⟨h0,hd,hR,I⟩|⟨rb,T,hR,I,af,ag,J⟩;have ax:l=[]:=Iy h0;subst ax;exact fO<|iv I dT rfl<|Im rfl<|hk _ w E (.refl _ _) λb I=>.inl I;subst hR;refine fO<|iv I ⟨pW rb,l.length,d.size⟩ rfl ?_;match l,hl,hk,G,E,I,V,hh,hf,J with
 | [],hl,hk,G,E,I,V,hh,hf,J=>
  exact Im rfl<|hk _ w E (.refl _ _) (λb I=>.inl I)
 | x::r,hl,hk,G,E,I,V,hh,hf,J=>
  simp only[yI] at I V hh J hl⊢;refine Io oO<|fO ?_;have U:=(show mo w pb (.map (some mb)) [rb] d (r.length+1) from .inr ⟨rb,T,rfl,I,af,ag,J⟩).um hm;have ay:d[0]! = x:=by
   have ah:d[0]!∈x::r:=V.mem_iff.1 (by
    have:=AP (d:=d) rfl (show 0<r.length+1 by omega) J;exact yF this)
   have hx:x∈d.toList.take (r.length+1):=V.mem_iff.2 oL;obtain⟨i,hi,az⟩:=getElem_of_mem hx;have ai:i<r.length+1:=(by simp at hi;omega);have h2:=AP (d:=d) rfl ai J;rw[zA hi,az] at h2;have aj:=hh.min i ai;rw[<- yO h2] at aj;rcases zG.1 ah with e|e;exact e;have:=(yJ.1 G).1 _ e;omega
  refine qy6 I af ag J oJ hh λd2 w2 ak aA al am=>?_;rw[ay] at al⊢;have ta:(Instr.typeAssert (.iface 63 (.u x)) 20 63 true).run prog w2=.ok (.tuple #[.u x,.bool true]) w2:=oK;refine sh (ts:=dM) (x,true) ta ?_;have an:lh jL w2 mb f:=HF hm am (by simp only[zG,xY,or_false,not_or];exact⟨λe=>U.1 e.symm,λe=>U.2 rb oL e.symm⟩);obtain⟨s2,aB⟩:∃s:Sl,w2.heap[pb]?=some (.c #[s.v,.map (some mb)] PT):=by rcases ak with ⟨_,_,_,ab⟩|⟨aC,T',_,ab,_⟩;exact⟨dT,ab⟩;exact⟨⟨pW aC,_,_⟩,ab⟩
  refine fO<|iv aB (some mb) rfl ?_;obtain⟨o,ao,ap⟩:=qvH (P:=prog) (t:=271) (et:=3) (kt:=63) (ty:=0) oK vu an x;refine FS (ts:=[]) () _ ao ?_;rcases DU (x:=x) h1 with ⟨_,aD⟩|⟨j,aq,_,hj⟩;exact absurd (hf.mem_iff.2 oL) aD;rw[aq] at ap;have ar:mb<w2.heap.size:=(by obtain⟨es,c,I,_⟩:=an;exact eO I);have au:=yv ar o;refine hk [pb,mb,rb] (iz w2 mb o) ⟨⟨mb,[rb],d2,f.eraseIdx j,rfl,ak.j1 au (oP U.1) (λr hr=>by simpa using U.2 r hr),ap,(al.trans V).cons_inv,aA,?_,λp V=>h1 p (mem_of_mem_eraseIdx V)⟩,(yJ.1 G).2⟩
   ((am.mono (T:=[pb,mb,rb]) (λi hi _=>by simp at hi;rcases hi with rfl|rfl<;>simp)).trans (au.mono (λi hi _=>by simp at hi;simp[hi]))) (λb I=>.inl I)
  show ((f.eraseIdx j).map (·.1)).Perm r;rw[vW];obtain⟨aE,aF⟩:=zP.1 hj;have:=qgA _ _ aE;rw[aF] at this;exact (this.trans hf).cons_inv
section
section
variable {eY:Nat} {T:kS} {w0 w:IK} {d:Array Int} {len cap:Nat}
def qty{lo hi first:Nat}(h:ig eY T w0 w d)(hlo:lo<=hi)(hf:first+hi<=len)(hl:len<=d.size/\len<=1152921504606846976)(hk:∀w',ig eY T w0 w' (siftDown ltInt hi first lo d)->(siftDown ltInt hi first lo d).size=d.size->K () w'): cW 242 [.slice (pW eY) len cap,.i lo,.i hi,.i first] [] w K:=by
 refine qfG (data:=⟨pW eY,len,cap⟩)<|jv (λx w'=>∃(r:Nat) (d':Array Int),x=r/\r<=hi/\ig eY T w0 w' d'/\d'.size=d.size/\siftDown ltInt hi first r d'=siftDown ltInt hi first lo d) (λx _=>((hi:Int)-x).toNat)
  ⟨lo,d,rfl,hlo,h,rfl,rfl⟩ ?_
 rintro x w1 ⟨r,d1,rfl,hr,h,hs1,he1⟩ X hX;have e1:IntKind.i64.wrap (IntKind.i64.wrap (2*(r:Int))+1)=((2*r+1:Nat):Int):=(by rw[wi (2*(r:Int)) oJ,wi _ oJ];omega);have e2:IntKind.i64.wrap (((2*r+1:Nat):Int)+1)=((2*r+2:Nat):Int):=(by rw[wi _ oJ];omega);rw[e1,e2];have hd:=siftDown.eq_1 ltInt hi first r d1;apply eB<;>intro hc;have hc':2*r+1>=hi:=(by have:=zC hc;omega);rw[dif_pos hc'] at hd;rw[hd] at he1;refine hk _ ?_ ?_;rw[<- he1];exact h;rw[<- he1];exact hs1
 ·have hc':¬2*r+1>=hi:=(by have:=zB hc;omega);rw[dif_neg hc'] at hd;refine iC (λx w'=>x=((if 2*r+1+1<hi&&ltInt d1[first+(2*r+1)]! d1[first+(2*r+1)+1]! then 2*r+2 else 2*r+1:Nat):Int)/\ig eY T w0 w' d1) ?_ ?_
  ·refine iC (λc w'=>c=(decide (2*r+1+1<hi)&&ltInt d1[first+(2*r+1)]! d1[first+(2*r+1)+1]!)/\ig eY T w0 w' d1) ?_ ?_
   ·apply eB<;>intro hc
    ·have hc2:2*r+1+1<hi:=(by have:=zC hc;omega);exact h.drew.rd (first+(2*r+1)) (by rw[wi _ oJ];omega) oJ oJ<|h.drew.rd (first+(2*r+1)+1) (by rw[wi ((first:Int)+_) oJ,wi _ oJ];omega) oJ oJ<|tt<|⟨by simp[hc2],h.drew⟩
    have hc2:¬2*r+1+1<hi:=(by have:=zB hc;omega);exact⟨by simp[hc2],h.drew⟩
   rintro c w3 ⟨rfl,h⟩;apply eB<;>intro hc;exact⟨by rw[iP hc],h⟩;exact⟨by rw[iN (oP hc)],h⟩
  ·rintro x w3 ⟨rfl,h⟩;have fin:∀c:Nat,(c=2*r+1\/c=2*r+2)->c<hi->((if !ltInt d1[first+r]! d1[first+c]! then d1 else siftDown ltInt hi first c (swp d1 (first+r) (first+c)))=siftDown ltInt hi first lo d)->
     idx ⟨pW eY,len,cap⟩ (IntKind.i64.wrap (first+r)) 1 λa_16=>ld .u a_16 w3.drew λx_17=>idx ⟨pW eY,len,cap⟩ (IntKind.i64.wrap (first+c)) 1 λa_18=>ld .u a_18 w3.drew λx_19=>
      cW 218 [.u x_17,.u x_19] dp w3.drew λb_20 w_21=>
       bif !b_20 then K () w_21 else
        idx ⟨pW eY,len,cap⟩ (IntKind.i64.wrap (first+c)) 1 λa_22=>ld .u a_22 w_21.drew λx_23=>idx ⟨pW eY,len,cap⟩ (IntKind.i64.wrap (first+r)) 1 λa_24=>ld .u a_24 w_21.drew λx_25=>
         idx ⟨pW eY,len,cap⟩ (IntKind.i64.wrap (first+r)) 1 λa_26=>st a_26 [.u x_23] w_21.drew λw_27=>idx ⟨pW eY,len,cap⟩ (IntKind.i64.wrap (first+c)) 1 λa_28=>st a_28 [.u x_25] w_27 λw_29=>X c w_29:=by
    intro c hcc hch hceq;refine h.drew.rd (first+r) (by rw[wi _ oJ];omega) oJ oJ<|h.drew.rd (first+c) (by rw[wi _ oJ];omega) oJ oJ<|tt ?_;apply eB<;>intro hc;rw[iP hc] at hceq;refine hk _ ?_ ?_;rw[<- hceq];exact h.drew;rw[<- hceq];exact hs1
    ·rw[iN (by rw[hc];decide)] at hceq;exact h.drew.drew.swap (first+r) (first+c) (by rw[wi _ oJ];omega) (by rw[wi _ oJ];omega) oJ oJ oJ λw4 h=>hX _ _ ⟨c,_,rfl,oJ,h,by rw[BI];exact hs1,hceq⟩ oJ
   split;rename_i hcc;rw[iP hcc] at hd;have hlt:2*r+2<hi:=(by simp only[yA,decide_eq_true_eq] at hcc;omega);rw[dif_pos hlt] at hd;exact fin _ (.inr rfl) hlt (hd.symm.trans he1);rename_i hcc;rw[iN hcc] at hd;exact fin _ (.inl rfl) oJ (hd.symm.trans he1)
def qy7(h:ig eY T w0 w d)(ad:a<=b)(hb:b<=len)(hl:len<=d.size/\len<=1152921504606846976)(hk:∀w',ig eY T w0 w' (heapSort ltInt d a b)->K () w'): cW 213 [.slice (pW eY) len cap,.i a,.i b] [] w K:=by
 refine qfF (data:=⟨pW eY,len,cap⟩) ?_;dsimp only;have e0:IntKind.i64.wrap ((b:Int)-a)=((b-a:Nat):Int):=(by rw[wi _ oJ];omega);have e2:IntKind.i64.wrap (Int.tdiv (IntKind.i64.wrap (((b-a:Nat):Int)-1)) 2)=(((b-a-1) / 2+1:Nat):Int)-1:=by rw[wi (_-1) oJ];by_cases hn:b-a=0;rw[hn];decide +kernel;rw[IA oJ,wi _ oJ];omega
 rw[e0,e2];refine jv (λx w'=>∃(k:Nat) (E:Array Int),x=(k:Int)-1/\k<=(b-a-1) / 2+1/\ig eY T w0 w' E/\E.size=d.size/\heapBuild ltInt (b-a) a k E=heapBuild ltInt (b-a) a ((b-a-1) / 2+1) d) (λx _=>(x+1).toNat)
  ⟨_,d,rfl,zM _,h,rfl,rfl⟩ ?_
 rintro x w1 ⟨k,V,rfl,aa,h,I,J⟩ X hX;apply cD<;>intro G;have u:1<=k:=oJ;obtain⟨j,rfl⟩:∃j,k=j+1:=⟨k-1,oJ⟩;rw[show ((j+1:Nat):Int)-1=(j:Nat) by omega];refine qty h oJ oJ oJ λw2 h hs=>?_;rw[wi _ oJ];exact hX _ _ ⟨j,_,rfl,oJ,h,by rw[hs,I],J⟩ oJ;have u:k=0:=oJ;subst u;have R:V=heapBuild ltInt (b-a) a ((b-a-1) / 2+1) d:=J;rw[wi (_-1) oJ];refine jv (λx w'=>∃(k:Nat) (E:Array Int),x=(k:Int)-1/\k<=b-a/\ig eY T w0 w' E/\E.size=d.size/\heapPop ltInt a k E=heapPop ltInt a (b-a) V) (λx _=>(x+1).toNat)
  ⟨_,V,rfl,zM _,h,I,rfl⟩ ?_
 rintro x w2 ⟨k,d2,rfl,aa,h,ac,U⟩ Z hZ;apply cD<;>intro G;have u:1<=k:=oJ;obtain⟨j,rfl⟩:∃j,k=j+1:=⟨k-1,oJ⟩;rw[show ((j+1:Nat):Int)-1=(j:Nat) by omega];refine h.drew.swap a (a+j) rfl (by rw[wi _ oJ];omega) oJ oJ oJ λw3 h=>qty (lo:=0) h oJ oJ (by rw[BI];omega) λw4 h hs=>?_;rw[wi _ oJ];exact hZ _ _ ⟨j,_,rfl,oJ,h,by rw[hs,BI,ac],U⟩ oJ;have u:k=0:=oJ;subst u;refine hk _ ?_;unfold heapSort;rw[<- R,<- U];exact h
def qAd(h:ig eY T w0 w d)(U:a<b)(hb:b<=len)(hl:len<=d.size/\len<=1152921504606846976)(V:∀w',ig eY T w0 w' (reverseRange d a b)->K () w'): cW 216 [.slice (pW eY) len cap,.i a,.i b] [] w K:=by
 refine qdZ (data:=⟨pW eY,len,cap⟩) ?_;rw[wi _ oJ];refine jv (λx w'=>∃(i j:Nat) (I:Array Int),x=((i:Int),(j:Int))/\i<=j+1/\j<b/\ig eY T w0 w' I/\I.size=d.size/\reverseLoop i j I=reverseLoop a (b-1) d) (λx _=>(x.2-x.1).toNat)
  ⟨a,b-1,d,tY rfl oJ,oJ,oJ,h,rfl,rfl⟩ ?_
 rintro x w1 ⟨i,j,d1,rfl,ab,ac,h,J,E⟩ X hX;have G:=reverseLoop.eq_1 i j d1;dsimp only;apply cD<;>intro R;have u:i<j:=oJ;rw[iP u] at G;refine h.drew.swap i j rfl rfl oJ oJ oJ λw2 h=>?_;rw[wi (_+1) oJ,wi (_-1) oJ];exact hX _ _ ⟨i+1,j-1,_,tY oJ oJ,oJ,oJ,h,by rw[BI,J],G.symm.trans E⟩ oN;have u:¬i<j:=oJ;rw[iN u] at G;refine V _ ?_;unfold reverseRange;rw[<- E,G];exact h
end
end
section
section
variable {eY:Nat} {T:kS} {w0 w:IK} {d:Array Int} {len cap:Nat}
def GN{J i0:Nat}{E:Int->WP}(h:ig eY T w0 w d)(hJ:J<=1152921504606846976)(hi0:i0<=J+2)(hT:∀(x:Nat) w Y,i0<=x->ig eY T w0 w d->(∀w',ig eY T w0 w' d->Y (decide (x<=J)&&p d[x]!) w')->t x w Y)(hE:∀w',ig eY T w0 w' d->E (scanUp p d J i0:Nat) w'): loop Int (λX x w=>join Bool (λY=>t x w Y) λb w'=>bif b then X (IntKind.i64.wrap (x+1)) w' else E x w') i0 w:=by refine jv (λx w'=>∃i:Nat,x=i/\i0<=i/\i<=J+2/\ig eY T w0 w' d/\scanUp p d J i=scanUp p d J i0) (λx _=>((J:Int)+2-x).toNat) ⟨i0,rfl,zM _,hi0,h,rfl⟩ ?_;rintro x w1 ⟨i,rfl,hi,hiJ,h,he⟩ X hX;refine iC (λc w'=>c=(decide (i<=J)&&p d[i]!)/\ig eY T w0 w' d) (hT i w1 _ hi h λw' h=>⟨rfl,h⟩) ?_;rintro c w2 ⟨rfl,h⟩;have hd:=scanUp.eq_1 p d J i;apply eB<;>intro hc;have hc1:=hc;simp only[yA,decide_eq_true_eq] at hc;rw[iP (oP hc1)] at hd;rw[wi _ oJ];exact hX _ _ ⟨i+1,oJ,oJ,oJ,h,hd.symm.trans he⟩ oJ;rw[iN (oP hc)] at hd;rw[show (i:Int)=(scanUp p d J i0:Nat) by rw[<- he,hd]];exact hE _ h
def EG{i j0:Nat}{E:Int->WP}(h:ig eY T w0 w d)(hJ:j0<=1152921504606846976)(hi:1<=i)(hT:∀(x:Nat) w Y,x<=j0->ig eY T w0 w d->(∀w',ig eY T w0 w' d->Y (decide (i<=x)&&p d[x]!) w')->t x w Y)(hE:∀w',ig eY T w0 w' d->E (scanDown p d i j0:Nat) w'): loop Int (λX x w=>join Bool (λY=>t x w Y) λb w'=>bif b then X (IntKind.i64.wrap (x-1)) w' else E x w') j0 w:=by
 refine jv (λx w'=>∃j:Nat,x=j/\j<=j0/\ig eY T w0 w' d/\scanDown p d i j=scanDown p d i j0) (λx _=>x.toNat) ⟨j0,rfl,zM _,h,rfl⟩ ?_;rintro x w1 ⟨j,rfl,hj,h,he⟩ X hX;refine iC (λc w'=>c=(decide (i<=j)&&p d[j]!)/\ig eY T w0 w' d) (hT j w1 _ hj h λw' h=>⟨rfl,h⟩) ?_;rintro c w2 ⟨rfl,h⟩;apply eB<;>intro hc;have hc1:=hc;simp only[yA,decide_eq_true_eq] at hc;obtain⟨k,rfl⟩:∃k,j=k+1:=⟨j-1,oJ⟩;rw[wi _ oJ];refine hX _ _ ⟨k,oJ,oJ,h,?_⟩ oJ;rw[<- he,scanDown,iP (oP hc1)];rw[show (j:Int)=(scanDown p d i j0:Nat) by
  rw[<- he];cases j with
  | zero=>rfl
  | succ k=>rw[scanDown,iN (oP hc)]]
 exact hE _ h
def qza{pivot:Nat}{K:I6->WP}(h:ig eY T w0 w d)(hap:a<=pivot)(hpb:pivot<b)(hb:b<=len)(hl:len<=d.size/\len<=1152921504606846976)(hk:∀w',ig eY T w0 w' (Sort.partition ltInt d a b pivot).2.2->K (((Sort.partition ltInt d a b pivot).1:Nat),(Sort.partition ltInt d a b pivot).2.1) w'): cW 220 [.slice (pW eY) len cap,.i a,.i b,.i pivot] dz w K:=by
 refine qfd (data:=⟨pW eY,len,cap⟩) ?_;revert hk;unfold Sort.partition;dsimp only;intro hk;refine h.drew.swap a pivot rfl rfl oJ oJ oJ λw1 h=>?_;have hsz:(swp d a pivot).size=d.size:=Sort.size_swp _ _ _;generalize swp d a pivot=d1 at h hk hsz;have eb:IntKind.i64.wrap ((b:Int)-1)=((b-1:Nat):Int):=(by rw[wi _ oJ];omega);rw[eb,wi ((a:Int)+1) oJ,show (a:Int)+1=((a+1:Nat):Int) by omega];refine GN (p:=λx=>ltInt x d1[a]!) (J:=b-1) (i0:=a+1) h oJ oJ (λx w Y hx h hY=>?_) λw2 h=>?_;apply cD<;>intro hc;have hc':x<=b-1:=oJ;refine h.drew.rd x rfl oJ oJ<|h.drew.rd a rfl oJ oJ<|tt ?_;have:=hY _ h.drew;simpa[hc'] using this;have hc':¬x<=b-1:=by omega
 have:=hY _ h.drew;simpa[hc'] using this;have hu1:=scanUp_ge (λx=>ltInt x d1[a]!) d1 (b-1) (a+1);generalize scanUp (λx=>ltInt x d1[a]!) d1 (b-1) (a+1)=i at hk hu1⊢;refine EG (p:=λx=>!ltInt x d1[a]!) (i:=i) (j0:=b-1) h oJ oJ (λx w Y hx h hY=>?_) λw3 h=>?_;apply cD<;>intro hc;have hc':i<=x:=oJ;refine h.drew.rd x rfl oJ oJ<|h.drew.rd a rfl oJ oJ<|tt ?_;have:=hY _ h.drew;simpa[hc'] using this;have hc':¬i<=x:=by omega
 have:=hY _ h.drew;simpa[hc'] using this;have hv1:=scanDown_le (λx=>!ltInt x d1[a]!) d1 i (b-1);generalize scanDown (λx=>!ltInt x d1[a]!) d1 i (b-1)=j at hk hv1⊢;apply cD<;>intro hc;have hc':i>j:=oJ;simp only[iP hc'] at hk;exact h.drew.swap j a rfl rfl oJ oJ oJ λw4 h=>hk _ h;have hc':¬i>j:=oJ;simp only[iN hc'] at hk;refine h.drew.swap i j rfl rfl oJ oJ oJ λw4 h=>?_;have hsz2:(swp d1 i j).size=d1.size:=Sort.size_swp _ _ _;generalize swp d1 i j=d2 at h hk hsz2;rw[wi ((i:Int)+1) oJ,wi ((j:Int)-1) oJ];refine jv (λs w'=>∃(i' j':Nat) (d':Array Int),s=((i':Int),(j':Int))/\a+1<=i'/\i'<=b/\j'<=b-1/\i'<=j'+2/\ig eY T w0 w' d'/\d'.size=d.size/\partLoop ltInt a i' j' d'=partLoop ltInt a (i+1) (j-1) d2) (λs _=>(s.2+2-s.1).toNat)
  ⟨i+1,j-1,d2,tY oJ oJ,oJ,oJ,oJ,oJ,h,oJ,rfl⟩ ?_
 rintro s w5 ⟨i',j',d3,rfl,hi1,hi2,hj1,hij,h,hs3,he⟩ X hX;rw[partLoop_eq ltInt a i' j' d3] at he;dsimp only;refine GN (p:=λx=>ltInt x d3[a]!) (J:=j') (i0:=i') h oJ oJ (λx w Y hx h hY=>?_) λw6 h=>?_;apply cD<;>intro hc;have hc':x<=j':=oJ;refine h.drew.rd x rfl oJ oJ<|h.drew.rd a rfl oJ oJ<|tt ?_;have:=hY _ h.drew;simpa[hc'] using this;have hc':¬x<=j':=by omega
 have:=hY _ h.drew;simpa[hc'] using this;have hu1:=scanUp_ge (λx=>ltInt x d3[a]!) d3 j' i';generalize scanUp (λx=>ltInt x d3[a]!) d3 j' i'=i2 at he hu1⊢;refine EG (p:=λx=>!ltInt x d3[a]!) (i:=i2) (j0:=j') h oJ oJ (λx w Y hx h hY=>?_) λw7 h=>?_;apply cD<;>intro hc;have hc':i2<=x:=oJ;refine h.drew.rd x rfl oJ oJ<|h.drew.rd a rfl oJ oJ<|tt ?_;have:=hY _ h.drew;simpa[hc'] using this;have hc':¬i2<=x:=by omega
 have:=hY _ h.drew;simpa[hc'] using this;have hv1:=scanDown_le (λx=>!ltInt x d3[a]!) d3 i2 j';generalize scanDown (λx=>!ltInt x d3[a]!) d3 i2 j'=j2 at he hv1⊢;apply cD<;>intro hc;have hc':i2>j2:=oJ;rw[iP hc'] at he;rw[<- he] at hk;exact h.drew.swap j2 a rfl rfl oJ oJ oJ λw4 h=>hk _ h;have hc':¬i2>j2:=oJ;rw[iN hc'] at he;refine h.drew.swap i2 j2 rfl rfl oJ oJ oJ λw4 h=>?_;rw[wi ((i2:Int)+1) oJ,wi ((j2:Int)-1) oJ];exact hX _ _ ⟨i2+1,j2-1,_,tY oJ oJ,oJ,oJ,oJ,oJ,h,by rw[Sort.size_swp];exact hs3,he⟩ oN
def qvZ{pivot:Nat}{K:Int->WP}(h:ig eY T w0 w d)(hap:a<=pivot)(hpb:pivot<b)(hb:b<=len)(hl:len<=d.size/\len<=1152921504606846976)(hk:∀w',ig eY T w0 w' (Sort.partitionEqual ltInt d a b pivot).2->K ((Sort.partitionEqual ltInt d a b pivot).1:Nat) w'): cW 219 [.slice (pW eY) len cap,.i a,.i b,.i pivot] dm w K:=by
 refine qdA (data:=⟨pW eY,len,cap⟩) ?_;revert hk;unfold Sort.partitionEqual;intro hk;refine h.drew.swap a pivot rfl rfl oJ oJ oJ λw1 h=>?_;have hsz:(swp d a pivot).size=d.size:=Sort.size_swp _ _ _;generalize swp d a pivot=d2 at h hk hsz;rw[wi ((a:Int)+1) oJ,wi ((b:Int)-1) oJ];refine jv (λs w'=>∃(i' j':Nat) (d':Array Int),s=((i':Int),(j':Int))/\a+1<=i'/\i'<=b/\j'<=b-1/\i'<=j'+2/\ig eY T w0 w' d'/\d'.size=d.size/\partEqLoop ltInt a i' j' d'=partEqLoop ltInt a (a+1) (b-1) d2) (λs _=>(s.2+2-s.1).toNat)
  ⟨a+1,b-1,d2,tY oJ oJ,oJ,oJ,oJ,oJ,h,oJ,rfl⟩ ?_
 rintro s w5 ⟨i',j',d3,rfl,hi1,hi2,hj1,hij,h,hs3,he⟩ X hX;rw[partEqLoop_eq ltInt a i' j' d3] at he;dsimp only;refine GN (p:=λx=>!ltInt d3[a]! x) (J:=j') (i0:=i') h oJ oJ (λx w Y hx h hY=>?_) λw6 h=>?_;apply cD<;>intro hc;have hc':x<=j':=oJ;refine h.drew.rd a rfl oJ oJ<|h.drew.rd x rfl oJ oJ<|tt ?_;have:=hY _ h.drew;simpa[hc'] using this;have hc':¬x<=j':=by omega
 have:=hY _ h.drew;simpa[hc'] using this;have hu1:=scanUp_ge (λx=>!ltInt d3[a]! x) d3 j' i';generalize scanUp (λx=>!ltInt d3[a]! x) d3 j' i'=i2 at he hu1⊢;refine EG (p:=λx=>ltInt d3[a]! x) (i:=i2) (j0:=j') h oJ oJ (λx w Y hx h hY=>?_) λw7 h=>?_;apply cD<;>intro hc;have hc':i2<=x:=oJ;refine h.drew.rd a rfl oJ oJ<|h.drew.rd x rfl oJ oJ<|tt ?_;have:=hY _ h.drew;simpa[hc'] using this;have hc':¬i2<=x:=by omega
 have:=hY _ h.drew;simpa[hc'] using this;have hv1:=scanDown_le (λx=>ltInt d3[a]! x) d3 i2 j';generalize scanDown (λx=>ltInt d3[a]! x) d3 i2 j'=j2 at he hv1⊢;apply cD<;>intro hc;have hc':i2>j2:=oJ;rw[iP hc'] at he;rw[<- he] at hk;exact hk _ h;have hc':¬i2>j2:=oJ;rw[iN hc'] at he;refine h.drew.swap i2 j2 rfl rfl oJ oJ oJ λw4 h=>?_;rw[wi ((i2:Int)+1) oJ,wi ((j2:Int)-1) oJ];exact hX _ _ ⟨i2+1,j2-1,_,tY oJ oJ,oJ,oJ,oJ,oJ,h,by rw[Sort.size_swp];exact hs3,he⟩ oN
end
end
section
section
variable {eY:Nat} {T:kS} {w0 w:IK} {d:Array Int} {len cap:Nat}
def qxQ{K:Bool->WP}(h:ig eY T w0 w d)(aB:a<b)(hb:b<=len)(hl:len<=d.size/\len<=1152921504606846976)(hk:∀w',ig eY T w0 w' (Sort.partialInsertionSort ltInt d a b).1->K (Sort.partialInsertionSort ltInt d a b).2 w'): cW 217 [.slice (pW eY) len cap,.i a,.i b] dp w K:=by
 refine qcA (data:=⟨pW eY,len,cap⟩) ?_;revert hk;unfold Sort.partialInsertionSort;intro hk;rw[wi ((a:Int)+1) oJ];refine jv (λx w'=>∃(i s:Nat) (G:Array Int),x=((i:Int),5-(s:Int))/\s<=5/\a+1<=i/\i<=b/\ig eY T w0 w' G/\G.size=d.size/\partialIns ltInt a b s i G=partialIns ltInt a b 5 (a+1) d) (λx _=>(5-x.2).toNat)
  ⟨a+1,5,d,tY oJ oJ,oJ,oJ,oJ,h,rfl,rfl⟩ ?_
 rintro x w1 ⟨i,s,U,rfl,aC,ap,aq,h,aD,E⟩ X hX;dsimp only;apply eB<;>intro u;obtain⟨s,rfl⟩:∃k,s=k+1:=⟨s-1,by have:=zC u;omega⟩;rw[partialIns_succ] at E;refine iC (λx w'=>∃(i:Nat) (G:Array Int),x=i/\a+1<=i/\i<=b/\ig eY T w0 w' G/\G.size=d.size/\partialIns ltInt a b s i G=partialIns ltInt a b 5 (a+1) d) ?_ ?_;refine jv (λx w'=>∃k:Nat,x=k/\a+1<=k/\k<=b/\ig eY T w0 w' U/\scanSorted ltInt U b k=scanSorted ltInt U b i) (λx _=>((b:Int)-x).toNat) ⟨i,rfl,ap,aq,h,rfl⟩ ?_;rintro x w2 ⟨k,rfl,V,aa,h,al⟩ Z hZ;have hd:=scanSorted.eq_1 ltInt U b k;refine iC (λc w'=>c=(decide (k<b)&&!ltInt U[k]! U[k-1]!)/\ig eY T w0 w' U) ?_ ?_;apply eB<;>intro u;have ad:k<b:=(by have:=zC u;omega);exact h.drew.rd k rfl oJ oJ<|h.drew.rd (k-1) (by rw[wi _ oJ];omega) oJ oJ<|tt<|⟨by simp[ad],h.drew⟩;have ad:¬k<b:=(by have:=zB u;omega);exact⟨by simp[ad],h.drew⟩;rintro c w3 ⟨rfl,h⟩;apply eB<;>intro u;have ar:=u;simp only[yA,decide_eq_true_eq] at u;rw[iP (oP ar)] at hd;rw[wi _ oJ];exact hZ _ _ ⟨k+1,oJ,oJ,oJ,h,hd.symm.trans al⟩ oJ;rw[iN (oP u)] at hd;rw[show scanSorted ltInt U b i=k by rw[<- al,hd]] at E;unfold fixUp fixDown at E;apply eB<;>intro u;have ae:k=b:=(by have:=yP.1 u;omega);rw[iP ae] at E;rw[<- E] at hk;exact hk _ h;have ae:¬k=b:=λe=>by rw[e] at u;simp at u
 rw[iN ae] at E;rw[wi ((b:Int)-a) oJ];apply eB<;>intro u;have af:b-a<50:=(by have:=zC u;omega);rw[iP af] at E;rw[<- E] at hk;exact hk _ h;have af:¬b-a<50:=(by have:=zB u;omega);rw[iN af] at E;refine h.drew.swap k (k-1) rfl (by rw[wi _ oJ];omega) oJ oJ oJ λw4 h=>?_;have am:(swp U k (k-1)).size=U.size:=Sort.size_swp _ _ _;generalize swp U k (k-1)=R at h E am;refine iC (λ_ w'=>ig eY T w0 w' (if k-a>=2 then shiftDown ltInt (k-1) R else R)/\(if k-a>=2 then shiftDown ltInt (k-1) R else R).size=R.size) ?_ ?_;rw[wi ((k:Int)-a) oJ];apply eB<;>intro u;have ag:k-a>=2:=(by have:=zC u;omega);simp only[iP ag];rw[wi ((k:Int)-1) oJ];refine jv (λx w'=>∃(j:Nat) (G:Array Int),x=j/\j<=k-1/\ig eY T w0 w' G/\G.size=R.size/\shiftDown ltInt j G=shiftDown ltInt (k-1) R) (λx _=>x.toNat) ⟨k-1,R,oJ,oJ,h,rfl,rfl⟩ ?_;rintro x w5 ⟨j,d3,rfl,hj,h,ab,J⟩ Q hQ;apply eB<;>intro u;obtain⟨j,rfl⟩:∃m,j=m+1:=⟨j-1,by have:=zC u;omega⟩;rw[shiftDown] at J;refine h.drew.rd (j+1) rfl oJ oJ<|h.drew.rd j (by rw[wi _ oJ];omega) oJ oJ<|tt ?_;apply eB<;>intro u;rw[iP u] at J;rw[<- J];exact⟨h.drew,ab⟩;rw[iN (by rw[u];decide)] at J;refine h.drew.drew.swap (j+1) j rfl (by rw[wi _ oJ];omega) oJ oJ oJ λw6 h=>?_;rw[wi _ oJ];exact hQ _ _ ⟨j,_,oJ,oJ,h,by rw[Sort.size_swp];exact ab,J⟩ oJ;have av:j=0:=(by have:=zB u;omega);subst av;rw[<- J];exact⟨h,ab⟩;have ag:¬k-a>=2:=(by have:=zB u;omega);simp only[iN ag];exact⟨h,trivial⟩;rintro _ w5 ⟨h,ab⟩;generalize (if k-a>=2 then shiftDown ltInt (k-1) R else R)=d3 at h E ab;rw[wi ((b:Int)-k) oJ];apply eB<;>intro u;have ah:b-k>=2:=(by have:=zC u;omega);rw[iP ah] at E;rw[wi ((k:Int)+1) oJ];refine jv (λx w'=>∃(j:Nat) (G:Array Int),x=j/\k+1<=j/\j<=b/\ig eY T w0 w' G/\G.size=d.size/\shiftUp ltInt b j G=shiftUp ltInt b (k+1) d3) (λx _=>((b:Int)-x).toNat) ⟨k+1,d3,oJ,oJ,oJ,h,oJ,rfl⟩ ?_;rintro x w6 ⟨j,d4,rfl,aH,aI,h,ai,aj⟩ Q hQ;have I:=shiftUp.eq_1 ltInt b j d4;apply eB<;>intro u;have ak:j<b:=(by have:=zC u;omega);rw[iP ak] at I;refine h.drew.rd j rfl oJ oJ<|h.drew.rd (j-1) (by rw[wi _ oJ];omega) oJ oJ<|tt ?_;apply eB<;>intro u;rw[iP u] at I;rw[<- aj,I] at E;exact⟨k,d4,rfl,V,aa,h.drew,ai,E⟩;rw[iN (by rw[u];decide)] at I;refine h.drew.drew.swap j (j-1) rfl (by rw[wi _ oJ];omega) oJ oJ oJ λw6 h=>?_;rw[wi _ oJ];exact hQ _ _ ⟨j+1,_,oJ,oJ,oJ,h,by rw[Sort.size_swp];exact ai,I.symm.trans aj⟩ oJ;have ak:¬j<b:=(by have:=zB u;omega);rw[iN ak] at I;rw[<- aj,I] at E;exact⟨k,d4,rfl,V,aa,h,ai,E⟩;have ah:¬b-k>=2:=(by have:=zB u;omega);rw[iN ah] at E;exact⟨k,d3,rfl,V,aa,h,oJ,E⟩;rintro x w2 ⟨k,R,rfl,V,aa,h,ax,ay⟩;rw[wi _ oJ];exact hX _ _ ⟨k,s,R,tY rfl oJ,oJ,V,aa,h,ax,ay⟩ oN;have az:s=0:=(by have:=zB u;omega);subst az;rw[<- E] at hk;exact hk _ h
end
end
def qzt{s:ByteArray}{i:Int}{K:Int->Prop}(b:UInt8)(u:0<=i)(h:s[i.toNat]?=some b)(k:K (b.toNat:Int)):jG s i K:=by unfold jG;exact⟨b,⟨u,h⟩,k⟩
def Hr{k:Nat}(h:2^k<=n):bitsLen n=bitsLen (n / 2^k)+k:=by
 have I:bitsLen n<=bitsLen (n / 2^k)+k:=by
  rw[bitsLen_le_iff,Nat.pow_add];have:=lt_two_pow_bitsLen (n / 2^k);exact (Nat.div_lt_iff_lt_mul (Nat.two_pow_pos k)).1 this
 have J:bitsLen (n / 2^k)+k<=bitsLen n:=by
  have E:=lt_two_pow_bitsLen n;have G:k<=bitsLen n:=by
   rcases Nat.lt_or_ge (bitsLen n) k with u|u;have:=Nat.pow_le_pow_right (show 0<2 by decide) (Nat.le_of_lt u);omega;exact u
  have:bitsLen (n / 2^k)<=bitsLen n-k:=(by rw[bitsLen_le_iff,Nat.div_lt_iff_lt_mul (Nat.two_pow_pos k),<- Nat.pow_add,Nat.sub_add_cancel G];exact E);omega
 omega
def quR{k:Nat}(h:n<2^k):bitsLen n<=k:=(bitsLen_le_iff n k).2 h
def FC(n k:Nat):Int.fdiv (n:Int) ((k:Nat):Int)=((n / k:Nat):Int):=by rw[Int.fdiv_eq_ediv_of_nonneg _ oJ];rfl
def qxF{K:Int->WP}(hn:n<18446744073709551616)(hk:K (bitsLen n:Nat) w):cW 222 [.w n] dm w K:=by apply qqB;refine iC (λt w'=>∃m c:Nat,t=((m:Int),(c:Int))/\w=w'/\m<4294967296/\c<=32/\bitsLen n=bitsLen m+c) ?_ ?_;apply cD<;>intro hc;have h:=hc;refine⟨n / 2^32,32,tY (FC n (2^32)) rfl,rfl,oJ,oJ,Hr oJ⟩;have h:=hc;exact⟨n,0,rfl,rfl,oJ,oJ,rfl⟩;rintro t w' ⟨m,c,rfl,rfl,hm,hc1,he⟩;dsimp only;refine iC (λt w'=>∃m c:Nat,t=((m:Int),(c:Int))/\w=w'/\m<65536/\c<=48/\bitsLen n=bitsLen m+c) ?_ ?_;apply cD<;>intro hc;have h:=hc;refine⟨m / 2^16,c+16,tY (FC m (2^16)) (by rw[wi _ oJ];omega),rfl,oJ,oJ,by rw[he,Hr (n:=m) (k:=16) oJ];omega⟩;have h:=hc;exact⟨m,c,rfl,rfl,oJ,oJ,he⟩;rintro t w' ⟨m,c,rfl,rfl,hm,hc1,he⟩;dsimp only;refine iC (λt w'=>∃m c:Nat,t=((m:Int),(c:Int))/\w=w'/\m<256/\c<=56/\bitsLen n=bitsLen m+c) ?_ ?_;apply cD<;>intro hc;have h:=hc;refine⟨m / 2^8,c+8,tY (FC m (2^8)) (by rw[wi _ oJ];omega),rfl,oJ,oJ,by rw[he,Hr (n:=m) (k:=8) oJ];omega⟩;have h:=hc;exact⟨m,c,rfl,rfl,oJ,oJ,he⟩;rintro t w' ⟨m,c,rfl,rfl,hm,hc1,he⟩;dsimp only;have hb:=quR (n:=m) (k:=8) oJ;rw[IntWalk.u8_in (m:Int) oJ];refine qzt (UInt8.ofNat (bitsLen m)) oJ ?_ ?_;rw[zJ];clear he hb;revert m;decide +kernel;have e:(UInt8.ofNat (bitsLen m)).toNat=bitsLen m:=oO;rw[e,wi (bitsLen m:Nat) oJ,wi _ oJ];rw[he] at hk;rw[show (c:Int)+(bitsLen m:Nat)=((bitsLen m+c:Nat):Int) by omega];exact hk
def FK{K:Int->WP}(hn:n<18446744073709551616)(hk:K (bitsLen n:Nat) w):cW 178 [.w n] dm w K:=by apply qsV;exact qxF hn hk
section
structure ku (eY:Nat) (T:kS) (w0 w:IK) (d:Array Int) (sb:Nat) (k:IntKind) (v:Int):Prop where
 arr:ig eY T w0 w d
 cell:∃ T2,w.heap[sb]?=some (.c #[.int k v] T2)
 ne:sb≠eY
 new:w0.heap.size<=sb
section
variable {eY:Nat} {T:kS} {w0 w:IK} {d:Array Int} {len cap sb:Nat} {k:IntKind} {v:Int}
def ku.drew(h:ku eY T w0 w d sb k v):ku eY T w0 w.drew d sb k v:=⟨h.arr.drew,h.cell,h.ne,h.new⟩
def ku.get(h:ku eY T w0 w d sb k v){K:Int->Prop}(u:K v):ld (.int k) (dk sb) w K:=by obtain⟨G,E⟩:=h.cell;exact iv E v rfl u
def ku.put(h:ku eY T w0 w d sb k v)(u:Int){K:WP}(G:∀w',ku eY T w0 w' d sb k u->K w'):st (dk sb) [.int k u] w K:=by
 obtain⟨I,E⟩:=h.cell;unfold st;refine Ax (w:=w) [.int k u] 0 0 _ w K E rfl oL (G _ ⟨⟨?_,?_⟩,⟨I,?_⟩,h.ne,h.new⟩);refine h.arr.fr.J0 (T:=[sb]) ⟨rfl,rfl,rfl,by rw[ux];exact zM _,λj U J=>?_⟩ λi R=>.inr ?_;rw[pf _ _ _ _ (eO E),iN (oP J)];have:=h.new;simp at R;omega;rw[pf _ _ _ _ (eO E),iN λe=>h.ne e.symm];exact h.arr.eY;rw[pf _ _ _ _ (eO E),iP rfl];rfl
def ku.mk'(h:ig eY T w0 w d)(E:IM)(u:Int){K:Nat->WP}(G:∀b w',ku eY T w0 w' d b k u->K b w'):Pt.new (.c #[.int k u] E) w K:=by
 unfold Pt.new;refine G _ _ ⟨⟨h.fr.alloc _,?_⟩,⟨E,?_⟩,?_,h.fr.size⟩;have:=eO h.eY;rw[xp,iN];exact h.eY;rw[xp,iP rfl];have:=eO h.eY;omega
def HB{K:IV->WP}(h:ku eY T w0 w d sb .i64 v)(I:a<len)(J:b<len)(E:len<=d.size/\len<=1152921504606846976)(G:∀(p q:Nat) u w',(p=a/\q=b\/p=b/\q=a)->ku eY T w0 w' d sb .i64 u->K ((p:Int),(q:Int)) w'): cW 260 [.slice (pW eY) len cap,.i a,.i b,dS sb] dr w K:=by refine qgs (data:=⟨pW eY,len,cap⟩)<|h.arr.drew.rd b rfl J E<|h.arr.drew.rd a rfl I E<|tt ?_;apply eB<;>intro R;exact fO<|h.drew.get<|fO<|h.drew.put _ λw' h=>G b a _ _ (.inr ⟨rfl,rfl⟩) h;exact G a b _ _ (.inl ⟨rfl,rfl⟩) h.drew
def qpp{c:Nat}{K:Int->WP}(h:ku eY T w0 w d sb .i64 v)(I:a<len)(J:b<len)(R:c<len)(E:len<=d.size/\len<=1152921504606846976)(U:∀(p:Nat) u w',(p=a\/p=b\/p=c)->ku eY T w0 w' d sb .i64 u->K (p:Int) w'): cW 246 [.slice (pW eY) len cap,.i a,.i b,.i c,dS sb] dm w K:=by refine qgr (data:=⟨pW eY,len,cap⟩) ?_;dsimp only;refine HB h I J E λp q u w1 hp h=>?_;dsimp only;refine HB h oJ R E λp' q' u w1 V h=>?_;dsimp only;exact HB h oJ oJ E λaa ab u w1 G h=>U _ _ _ oJ h
def EU{K:Int->WP}(h:ku eY T w0 w d sb .i64 v)(I:1<=a)(J:a+1<len)(E:len<=d.size/\len<=1152921504606846976)(G:∀(p:Nat) u w',(a<=p+1/\p<=a+1)->ku eY T w0 w' d sb .i64 u->K (p:Int) w'): cW 245 [.slice (pW eY) len cap,.i a,dS sb] dm w K:=by refine qdz (data:=⟨pW eY,len,cap⟩) ?_;dsimp only;rw[wi ((a:Int)-1) oJ,wi ((a:Int)+1) oJ,show (a:Int)-1=((a-1:Nat):Int) by omega,show (a:Int)+1=((a+1:Nat):Int) by omega];exact qpp h oJ oJ oJ E λp u w' R h=>G p u w' oJ h
def qxN{K:IV->WP}(h:ig eY T w0 w d)(ac:a<b)(hb:b<=len)(J:len<=d.size/\len<=1152921504606846976)(R:∀(p:Nat) (x:Int) w',a<=p/\p<b->ig eY T w0 w' d->K ((p:Int),x) w'): cW 215 [.slice (pW eY) len cap,.i a,.i b] dr w K:=by
 refine qeu (data:=⟨pW eY,len,cap⟩) ?_;dsimp only;have e0:IntKind.i64.wrap ((b:Int)-a)=((b-a:Nat):Int):=(by rw[wi _ oJ];omega);have e4:Int.tdiv ((b-a:Nat):Int) 4=(((b-a) / 4:Nat):Int):=(by rw[IA oJ];omega);have e1:∀m:Nat,m<=3->IntKind.i64.wrap ((a:Int)+IntKind.i64.wrap (IntKind.i64.wrap (((b-a) / 4:Nat):Int)*(m:Int)))=((a+(b-a) / 4*m:Nat):Int):=by intro m U;have hq:(b-a) / 4*m<=(b-a) / 4*3:=Nat.mul_le_mul_left _ U;have hz:(((b-a) / 4:Nat):Int)*(m:Int)=(((b-a) / 4*m:Nat):Int):=(by push_cast;rfl);rw[wi (((b-a) / 4:Nat):Int) oJ,hz,wi (((b-a) / 4*m:Nat):Int) oJ,wi _ oJ];omega
 have V:=e1 1 oJ;have f2:=e1 2 oJ;have f3:=e1 3 oJ;simp only[Int.cast_ofNat_Int] at V f2 f3;rw[e0,e4,V,f2,f3];refine ku.mk' h _ _ λsb w1 h=>iC (λx w'=>∃(p:Nat) (u:Int),x=p/\a<=p/\p<b/\ku eY T w0 w' d sb .i64 u) ?_ ?_;apply cD<;>intro E;have h8:b-a>=8:=oJ;refine iC (λx w'=>∃(p q r:Nat) (u:Int),x=((p:Int),(q:Int),(r:Int))/\a<=p/\p<b/\a<=q/\q<b/\a<=r/\r<b/\ku eY T w0 w' d sb .i64 u) ?_ ?_;apply cD<;>intro E;have ag:b-a>=50:=oJ;exact EU h oJ oJ J λp u w2 hp h=>EU h oJ oJ J λq u w2 hq h=>EU h oJ oJ J λr u w2 hr h=>⟨p,q,r,u,rfl,oJ,oJ,oJ,oJ,oJ,oJ,h⟩;exact⟨_,_,_,_,rfl,oJ,oJ,oJ,oJ,oJ,oJ,h⟩;rintro x w2 ⟨p,q,r,u,rfl,G,I,ah,ai,aj,ak,h⟩;dsimp only;exact qpp h oJ oJ oJ J λm u w3 U h=>⟨m,u,rfl,oJ,oJ,h⟩;exact⟨_,_,rfl,oJ,oJ,h⟩;rintro x w2 ⟨p,u,rfl,G,I,h⟩;refine h.get ?_;apply cD<;>intro E;exact R _ _ _ ⟨G,I⟩ h.arr;apply cD<;>intro E;exact R _ _ _ ⟨G,I⟩ h.arr;exact R _ _ _ ⟨G,I⟩ h.arr
end
end
section
section
variable {eY:Nat} {T:kS} {w0 w:IK} {d:Array Int} {len cap sb:Nat} {k:IntKind} {v:Int}
def ig.FU(h:ig eY T w0 w d):ig eY T w w d:=⟨.refl _ _,h.eY⟩
def ku.step(h:ku eY T w0 w d sb k v){w':IK}{u:Array Int}(g:ig eY T w w' u):ku eY T w0 w' u sb k v:=by obtain⟨G,E⟩:=h.cell;refine⟨⟨h.arr.fr.trans g.fr,g.eY⟩,⟨G,?_⟩,h.ne,h.new⟩;rw[g.fr.block sb (eO E) (oP h.ne)];exact E
def qy8{K:Int->WP}(h:ku eY T w0 w d sb .u64 v)(u:∀(x:Int) w',0<=x/\x<=18446744073709551615->ku eY T w0 w' d sb .u64 x->K x w'): cW 244 [dS sb] dv w K:=by refine qgt<|fO (h.drew.get (fO (h.drew.get (fO (h.drew.put _ λw1 h=>?_)))));refine fO (h.drew.get (fO (h.drew.get (fO (h.drew.put _ λw1 h=>?_)))));refine fO (h.drew.get (fO (h.drew.get (fO (h.drew.put _ λw1 h=>?_)))));refine fO (h.get ?_);exact u _ _ (bits_within .xor .u64 _ _) h
def qAc{w:IK}{K:Int->WP}(E:1<=n/\n<=1152921504606846976)(h:K ((2^bitsLen n:Nat):Int) w):cW 243 [.i n] dv w K:=by apply qga;rw[IntWalk.u64_in (n:Int) oJ];refine FK oJ<|qu oJ ?_;have G:=two_pow_bitsLen_le (n:=n) oJ;have I:bitsLen n<=61:=(bitsLen_le_iff n 61).2 oJ;rw[zJ,xS oJ];have e:(1:Int)*2^bitsLen n=((2^bitsLen n:Nat):Int):=(by rw[Int.one_mul];push_cast;rfl);have u:(0:Int)<=((2^bitsLen n:Nat):Int):=Int.natCast_nonneg _;rw[e,IntWalk.u64_in _ oJ];exact h
def qxz(h:ig eY T w0 w d)(V:a<=b)(hb:b<=len)(hl:len<=d.size/\len<=1152921504606846976)(R:∀G w',PermIn a b d G->ig eY T w0 w' G->K () w'): cW 214 [.slice (pW eY) len cap,.i a,.i b] [] w K:=by
 refine qdT (data:=⟨pW eY,len,cap⟩) ?_;have e0:IntKind.i64.wrap ((b:Int)-a)=((b-a:Nat):Int):=(by rw[wi _ oJ];omega);rw[e0];apply cD<;>intro E;have h8:b-a>=8:=oJ;have e4:Int.tdiv ((b-a:Nat):Int) 4=(((b-a) / 4:Nat):Int):=(by rw[IA oJ];omega);have e1:IntKind.i64.wrap ((a:Int)+IntKind.i64.wrap (IntKind.i64.wrap (((b-a) / 4:Nat):Int)*2))=((a+(b-a) / 4*2:Nat):Int):=by rw[wi (((b-a) / 4:Nat):Int) oJ,wi ((((b-a) / 4:Nat):Int)*2) oJ,wi _ oJ];omega
 rw[e4,e1,IntWalk.u64_in ((b-a:Nat):Int) oJ];refine ku.mk' h _ _ λsb w1 h=>h.put _ λw2 h=>qAc oJ ?_;have ab:=two_pow_bitsLen_le (n:=b-a) oJ;have I:=Nat.two_pow_pos (bitsLen (b-a));rw[wi (_-1) oJ,wi (_+1) oJ];refine jv (λx w'=>∃(i:Nat) (G:Array Int) (u:Int),x=i/\a<=i/\i<=a+(b-a) / 4*2+2/\PermIn a b d G/\ku eY T w0 w' G sb .u64 u) (λx _=>(((a+(b-a) / 4*2+2:Nat):Int)-x).toNat)
  ⟨a+(b-a) / 4*2-1,d,_,oJ,oJ,oJ,permIn_refl _ _ _,h⟩ ?_
 rintro x w3 ⟨i,U,u,rfl,ac,ad,J,h⟩ X hX;have af:=J.1;apply cD<;>intro E;have ag:i<=a+(b-a) / 4*2+1:=oJ;refine qy8 h λy w4 hy h=>?_;obtain⟨z,rfl⟩:∃z:Nat,y=z:=⟨y.toNat,oJ⟩;have ez:bits .and .u64 (z:Int) (IntKind.u64.wrap (((2^bitsLen (b-a):Nat):Int)-1))=((z%2^bitsLen (b-a):Nat):Int):=by rw[IntWalk.u64_in _ oJ,show ((2^bitsLen (b-a):Nat):Int)-1=((2^bitsLen (b-a)-1:Nat):Int) by omega,bits_and_u64_nat z _ oJ oJ,Nat.and_two_pow_sub_one_eq_mod]
 rw[ez];have hz:=Nat.mod_lt z I;rw[wi ((z%2^bitsLen (b-a):Nat):Int) oJ];refine iC (λx w'=>∃o:Nat,x=o/\o<b-a/\ku eY T w0 w' U sb .u64 z) ?_ ?_;apply cD<;>intro E;have:=E;exact⟨z%2^bitsLen (b-a)-(b-a),by rw[wi _ oJ];omega,oJ,h⟩;have:=E;exact⟨z%2^bitsLen (b-a),rfl,oJ,h⟩;rintro x w5 ⟨o,rfl,ho,h⟩;refine h.drew.arr.FU.swap i (a+o) rfl (by rw[wi _ oJ];omega) oJ oJ oJ λw6 h6=>?_;rw[wi _ oJ];exact hX _ _ ⟨i+1,_,_,oJ,oJ,oJ,permIn_trans _ _ _ _ _ J (swp_permIn _ _ _ _ _ oJ oJ oJ oJ oJ),h.drew.step h6⟩ oJ;exact R U _ J h.arr;exact R d _ (permIn_refl _ _ _) h
end
end
section
section
variable {eY:Nat} {T:kS} {len cap:Nat}
def qAb:∀(n:Nat) {w0 w:IK} {d:Array Int} {a b:Nat} {limit:Int} {K:Unit->WP},b-a<=n->ig eY T w0 w d->a<=b->b<=len->(len<=d.size/\len<=1152921504606846976)->Sort.Below ltInt a b d-> (∀d' w',PermIn a b d d'->SortedIn ltInt a b d'->ig eY T w0 w' d'->K () w')-> cW 177 [.slice (pW eY) len cap,.i a,.i b,.i limit] [] w K:=by
 intro n;induction n using Nat.strongRecOn with
 | _ n ih=>
 intro w0 w d a0 b0 limit0 K hn h hab hb hl hB hk;refine qcI (data:=⟨pW eY,len,cap⟩) ?_;dsimp only;refine jv (λx w'=>∃(a b:Nat) (l:Int) (wb wp:Bool) (d':Array Int),x=((a:Int),(b:Int),l,wb,wp)/\b-a<=n/\a<=b/\b<=len/\d'.size=d.size/\Sort.Below ltInt a b d'/\ig eY T w0 w' d'/\
   ∀R,PermIn a b d' R->SortedIn ltInt a b R->PermIn a0 b0 d R/\SortedIn ltInt a0 b0 R) (λx _=>(x.2.1-x.1).toNat)
  ⟨a0,b0,limit0,true,true,d,rfl,hn,hab,hb,rfl,hB,h,λR h1 h2=>⟨h1,h2⟩⟩ ?_
 rintro x w1 ⟨a,b,l,wb,wp,d1,rfl,hn1,hab,hb,hs1,hB,h,hR⟩ X hX;dsimp only;have e0:IntKind.i64.wrap ((b:Int)-a)=((b-a:Nat):Int):=(by rw[wi _ oJ];omega);rw[e0];apply eB<;>intro hc;refine qAa h hab hb oJ λw2 h=>?_;obtain⟨h1,h2⟩:=insertionSort_holds Cv d1 a b hab oJ;obtain⟨h3,h4⟩:=hR _ h1 h2;exact hk _ _ h3 h4 h;have h12:12<b-a:=(by have:=zB hc;omega);apply eB<;>intro hc;refine qy7 h hab hb oJ λw2 h=>?_;obtain⟨h1,h2⟩:=heapSort_holds Cv d1 a b hab oJ;obtain⟨h3,h4⟩:=hR _ h1 h2;exact hk _ _ h3 h4 h;refine iC (λ_ w'=>∃d2,PermIn a b d1 d2/\ig eY T w0 w' d2) ?_ ?_;apply eB<;>intro hc;exact qxz h hab hb oJ λd2 w2 hp h=>⟨d2,hp,h⟩;exact⟨d1,permIn_refl _ _ _,h⟩;rintro lim w2 ⟨d2,hp2,h⟩;have hs2:=hp2.1;refine qxN h oJ hb oJ λp hint w3 hpp h=>?_;dsimp only;refine iC (λx w'=>∃(p:Nat) (hint:Int) (d3:Array Int),x=((p:Int),hint)/\a<=p/\p<b/\PermIn a b d1 d3/\ig eY T w0 w' d3) ?_ ?_;apply eB<;>intro hc;refine qAd h oJ hb oJ λw4 h=>⟨(b-1)-(p-a),1,_,tY ?_ rfl,oJ,oJ,permIn_trans _ _ _ _ _ hp2 (reverseRange_holds _ _ _ hab oJ),h⟩;rw[wi ((b:Int)-1) oJ,wi ((p:Int)-a) oJ,wi _ oJ];omega;exact⟨p,hint,d2,rfl,hpp.1,hpp.2,hp2,h⟩;rintro x w4 ⟨p,hint,d3,rfl,hp1,hp2,hp3,h⟩;have hs3:=hp3.1;dsimp only;refine iC (λ_ w'=>∃d4,PermIn a b d1 d4/\ig eY T w0 w' d4) ?_ ?_;refine iC (λ_ w'=>ig eY T w0 w' d3) ?_ ?_;apply eB<;>intro hc;apply eB<;>intro hc;exact h;exact h;exact h;rintro c w5 h;apply eB<;>intro hc;refine qxQ h oJ hb oJ λw6 h=>?_;obtain⟨h1,h2⟩:=partialInsertionSort_holds Cv d3 a b oJ oJ (hB.perm oJ hp3);apply eB<;>intro hc;obtain⟨h3,h4⟩:=hR _ (permIn_trans _ _ _ _ _ hp3 h1) (h2 hc);exact hk _ _ h3 h4 h;exact⟨_,permIn_trans _ _ _ _ _ hp3 h1,h⟩;exact⟨d3,hp3,h⟩;rintro _ w5 ⟨d4,hp4,h⟩;have hs4:=hp4.1;have hB4:=hB.perm oJ hp4;refine iC (λc w'=>c=(decide (0<a)&&!ltInt d4[a-1]! d4[p]!)/\ig eY T w0 w' d4) ?_ ?_;apply eB<;>intro hc;have ha:0<a:=(by have:=zC hc;omega);exact h.drew.rd (a-1) (by rw[wi _ oJ];omega) oJ oJ<|h.drew.rd p rfl oJ oJ<|tt<|⟨by simp[ha],h.drew⟩;have ha:¬0<a:=(by have:=zB hc;omega);exact⟨by simp[ha],h.drew⟩;rintro c w6 ⟨rfl,h⟩;apply eB<;>intro hc;simp only[yA,decide_eq_true_eq,zT] at hc;have hr:=round_eq Cv (partitionEqual_holds ltInt) hc.1 hp1 hp2 oJ hB4 hc.2 (mid:=(Sort.partitionEqual ltInt d4 a b p).1) (d4:=(Sort.partitionEqual ltInt d4 a b p).2) rfl;refine qvZ h hp1 hp2 hb oJ λw7 h=>?_;obtain⟨h1,h2,h3,h4,h5⟩:=hr;refine hX _ _ ⟨_,b,lim,wb,wp,_,rfl,oJ,h2,hb,oJ,h4,h,λR r1 r2=>?_⟩ oN;obtain⟨q1,q2⟩:=h5 R r1 r2;exact hR R (permIn_trans _ _ _ _ _ hp4 q1) q2;have hr:=round_part Cv (partition_holds ltInt) hp1 hp2 oJ hB4 (mid:=(Sort.partition ltInt d4 a b p).1) (ap:=(Sort.partition ltInt d4 a b p).2.1) (d4:=(Sort.partition ltInt d4 a b p).2.2) rfl;refine qza h hp1 hp2 hb oJ λw7 h=>?_;obtain⟨h1,h2,h3,h4,h5,h6,h7⟩:=hr;dsimp only;generalize (Sort.partition ltInt d4 a b p).1=mid at *;generalize (Sort.partition ltInt d4 a b p).2.2=d5 at *;rw[wi ((mid:Int)-a) oJ,wi ((b:Int)-mid) oJ,wi ((mid:Int)+1) oJ,show (mid:Int)+1=((mid+1:Nat):Int) by omega];apply cD<;>intro hc;have hlt:mid-a<b-mid:=oJ;refine ih (mid-a) oJ (zM _) h h1 oJ oJ h4 λd6 w8 r1 r2 h=>?_;obtain⟨q1,q2⟩:=h6 d6 r1 r2;refine hX _ _ ⟨mid+1,b,lim,_,_,d6,rfl,oJ,oJ,hb,by have:=r1.1;omega,q1,h,λR s1 s2=>?_⟩ oN;obtain⟨t1,t2⟩:=q2 R s1 s2;exact hR R (permIn_trans _ _ _ _ _ hp4 t1) t2;refine ih (b-(mid+1)) oJ (zM _) h oJ hb oJ h5 λd6 w8 r1 r2 h=>?_;obtain⟨q1,q2⟩:=h7 d6 r1 r2;refine hX _ _ ⟨a,mid,lim,_,_,d6,rfl,oJ,oJ,oJ,by have:=r1.1;omega,q1,h,λR s1 s2=>?_⟩ oN;obtain⟨t1,t2⟩:=q2 R s1 s2;exact hR R (permIn_trans _ _ _ _ _ hp4 t1) t2
def qtz{w0:IK}(h:ig eY T w0 w d)(E:len<=d.size/\len<=1152921504606846976)(G:∀u w',PermIn 0 len d u->SortedIn ltInt 0 len u->ig eY T w0 w' u->K () w'): cW 148 [.slice (pW eY) len cap] [] w K:=by refine qie (x:=⟨pW eY,len,cap⟩) ?_;dsimp only;rw[IntWalk.u64_in (len:Int) oJ];exact FK oJ<|qAb len (a:=0) oJ h oJ (zM _) E (.inl rfl) G
def qrf(h:K () w):cW 148 [.slice none 0 0] [] w K:=by refine qie (x:=dT) ?_;dsimp only;rw[IntWalk.u64_in ((0:Nat):Int) oJ];exact FK (n:=0) oJ<|qcI (data:=dT)<|Bm λX u=>Im (by decide +kernel)<|qbO (data:=dT)<|Bm λX u=>Io (by decide +kernel) h
end
end
def qxA{rb cap:Nat}{K:Sl->WP}(J:w.heap[rb]?=some (.c (iO d) T))(ah:n<=d.size)(hn:n<=1000000)(hk:∀b V h T' w',w'.heap[b]?=some (.c (iO V) T')->n<=V.size->n<=h/\h<=V.size->V.toList.take n=d.toList.take n->w.heap.size<=b->Fr [] w w'->K ⟨pW b,n,h⟩ w'): cW 176 [.slice (pW rb) n cap] dl w K:=by
 obtain⟨aa,hi,hz,ab,ac⟩:=wV;refine qg2 (s:=⟨pW rb,n,cap⟩)<|Io rfl ?_;have E:=oE [] w;refine ef.new E λtb w1 et ak E=>?_;have ad:w1.heap[rb]?=some (.c (iO d) T):=(by rw[E.fr.block rb (eO J) oL];exact J);have I:∀(j:Nat) u,((d.toList.take n).map (Value.int .u32))[j]?=some u->w1.cell? (((dk rb):Addr).add j)=some u:=λj u G=>by rw[Addr.j3,jC ad,xT];rw[zQ,xB] at G;by_cases hjn:j<n;rw[iP hjn] at G;unfold iO;rw[Array.getElem?_map];simpa using G;rw[iN hjn] at G;cases G
 have R:((d.toList.take n).map (Value.int .u32)).length=n:=oO;dsimp only;by_cases h0:n=0;subst h0;refine qtF (P:=prog) (e:=63) oK hi [] (E.at (i:=0) rfl) oL (λj u G=>by simp at G) oL oJ oL ?_;have U:=E.iz (o':=.c (en #[] (0+0*aa.size) []) 63) 0 rfl;have:=U.at (i:=0) rfl;have e:iO #[] = #[]:=(by simp[iO]);exact hk tb #[] 0 63 _ (by rw[e];exact this) oL ⟨zM _,zM _⟩ oL oJ U.fr;refine qrk (P:=prog) (e:=63) oK hi hz [] ((d.toList.take n).map (Value.int .u32)) oL (λj u G=>by simp at G) (by rw[R,ab];omega) I oJ (by rw[ac];omega) oJ λq al am=>?_;rw[qow _ _ rfl];have ae:([]:List IL).toArray++((d.toList.take n).map (Value.int .u32)).toArray++Array.replicate (q-(0+n)) (.u 0)=iO ((d.toList.take n++List.replicate (q-(0+n)) (0:Int)).toArray):=(by rw[Hi];apply Array.ext';simp);rw[ae];have E:=E.drew.alloc (.c (iO ((d.toList.take n++List.replicate (q-(0+n)) (0:Int)).toArray)) 63);have hl:(d.toList.take n).length=n:=oO;rw[xT];refine hk _ _ q _ _ (by have:=E.at (i:=0) rfl;rw[xT] at this;exact this) oO ⟨oJ,by simp;omega⟩ ?_ (by show w.heap.size<=w1.heap.size;omega) (by rw[xT] at E;exact E.fr);show ((d.toList.take n++List.replicate (q-n) (0:Int))).take n=_;rw[Ir oJ,take_take,Nat.min_self]
def H9:∀ {u E:IT},u.Perm E->u.Pairwise (·<=·)->E.Pairwise (·<=·)->u=E
 | [],E,h,_,_=>h.nil_eq
 | a::u,[],h,_,_=>absurd h.symm.nil_eq oL
 | a::u,b::E,h,U,V=>by
  have G:=yJ.1 U;have I:=yJ.1 V;have J:a=b:=by
   have m1:a∈b::E:=h.mem_iff.1 oL;have m2:b∈a::u:=h.mem_iff.2 oL;rcases zG.1 m1 with e|e;exact e;rcases zG.1 m2 with R|R;exact R.symm;have:=I.1 a e;have:=G.1 b R;omega
  subst J;rw[H9 h.cons_inv G.2 I.2]
def Told (w w':IK) (s:Sl) (l:IT):Prop:=
 (l=[]/\s=dT)\/∃b d T cap,s=⟨pW b,l.length,cap⟩/\w'.heap[b]?=some (.c (iO d) T)/\l.length<=d.size/\l.length<=cap/\d.toList.take l.length=l/\w.heap.size<=b/\cap<=d.size
def qtx{K:Sl->WP}(h:io w pb F l)(hl:l.length<=1000000)(hk:∀s w',Told w w' s l->Fr [] w w'->K s w'):cW 147 [dS pb] dl w K:=by
 refine qlr ?_;have u:=h.qL;obtain⟨mb,R,d,f,rfl,hr,hm,hp,hh,hf,h1⟩:=h.ex;rcases hr with ⟨h0,hd,hR,J⟩|⟨rb,T,hR,J,U,ar,V⟩;have aa:l=[]:=Iy h0;subst aa;exact fO<|iv J dT rfl<|qg2<|Im rfl<|qrf<|hk _ _ (.inl ⟨rfl,rfl⟩) (.refl _ _);refine fO<|iv J ⟨pW rb,l.length,d.size⟩ rfl ?_;dsimp only;refine qxA U V hl λb d' E T' w' c1 c2 ab c3 c4 c5=>?_;dsimp only;refine qtz (.start c1) ⟨c2,oJ⟩ λd2 w2 s1 s2 s3=>?_;have az:=s1.1;refine hk _ _ (.inr ⟨b,d2,T',E,rfl,s3.eY,oJ,ab.1,?_,c4,oJ⟩) (c5.J0 s3.fr λi G=>by simp at G;subst G;exact .inr c4);refine H9 ((Cz s1).trans (by rw[c3];exact hp)) ?_ (u.imp Int.le_of_lt);rw[pairwise_iff_getElem];intro i j G hj ad;have ae:i<l.length:=(by simp at G;omega);have I:j<l.length:=(by simp at hj;omega);have g1:=AP (d:=d2) rfl ae oJ;have g2:=AP (d:=d2) rfl I oJ;rw[zA G] at g1;rw[zA hj] at g2;rw[yO g1,yO g2];have:=s2 i j oJ ad I;simp[ltInt] at this;exact this
abbrev iZ:Int->List IL:=λn=>[Value.int .u32 n]
abbrev Rd (S:IS) (w:IK) (s:Sl) (l:IT):Prop:=eI iZ 1 S w s l
abbrev lO (w:IK) (s:Sl) (l:IT) (B:IS):Prop:=fj iZ 1 w s l B
def rM:∀x,(iZ x).length=1:=λ_=>rfl
def Rd.at{s:Sl}(h:Rd S w s l)(n:Nat){i x:Int}{K:Int->Prop}(hi:i=n)(E:l[n]?=some x)(k:K x):idx s i 1 λa=>ld .u a w K:=
 eI.get (y:=x) h n hi E rfl k
def H5{s:Sl}{B:IS}{x:Int}{K:Sl->WP}(h:lO w s l B)(V:l.length<=1000000)(J:∀I B' w',lO w' I (l++[x]) B'->Fr B w w'->(∀b∈B',b∈B\/w.heap.size<=b)->K I w'): Pt.new (.cells #[.u x] T) w λr w1=>Pt.run dl ((Builtin.append_ #[172,172] 172 #[s.v,.slice (pW r) 1 1]).run prog w1) K:=by obtain⟨i,R,U,E,G⟩:=wV;exact fj.push (e:=63) h rM (by simp[Value.oneCell']) oK R U E rfl rfl (by rw[G];omega) oJ J
def DE{w0:IK}{F':IS}(u:∀b∈F,w0.heap.size<=b)(G:w0.heap.size<=w.heap.size)(h:∀b∈F',b∈F\/w.heap.size<=b):∀b∈F',w0.heap.size<=b:=by intro b E;rcases h b E with h|h;exact u b h;omega
end
section
set_option maxRecDepth 100000
open Go Go.Pt
end
section
set_option maxRecDepth 100000
open Go Go.Pt
variable {K:Int->WP} {p s:Option Addr} {w:IK} {yield:IL}
@[reducible] def BE:List Cell:=ll
@[reducible] def qyT:List Cell:=qd
@[reducible] def wF:List Cell:=jB
@[reducible] def vJ:List Cell:=ka

def qsC{K:(Option Addr)->WP}(hF:Ii #[.pointer p] 100 w λa b=>K (pW a) b):cW 63 [.p p] dK w K:=Ip [] func63 hF

def qfH{a:HL BE}(hF:Ii (List.toArray (HL.mk BE a)) 74 w λb c=>dX (BE) (dk b) c λd=>cW 52 [gj BE d] du c λ(e:Sl×Sl) f=>nn s λg=>ld .ptr g f λh=>cW 50 [.p h,.i 0,e.1.v,e.2.v] dm f λ(i:Int) j=>K i j):cW 20 [.p s,gj BE a] dm w K:=Ip [] func20 hF

def qfe{x:List IL}(hF:Ii (List.toArray x) 79 w λb c=>dX (qyT) (dk b) c λd=>Ii #[.w 0,.w 0,.w 0,.w 0,.w 0,.w 0,.w 0,.w 0,.w 0,.w 0,.w 0,.u 0,.u 0,.int .u16 0,.int .u16 0,.w 0] 77 c λe f=>st (dk e) (HL.mk qyT d) f λg=>jg 18 (dk b) g λh=>cW 59 [.agg (List.toArray h)] du g λ(i:Sl×Sl) j=>nn s λk=>ld .ptr k j λl=>cW 50 [.p l,.i 1,i.1.v,i.2.v] dm j λ(m:Int) n=>cond (!m==0) (K m n) (nn s λo=>ld .ptr o n.drew λp=>dX dj (dk e 2) n.drew λq=>ld (.w) (dk e 15) n.drew λ(r:Int)=>dX dj (dk e) n.drew λt=>cW 38 [di q.1 q.2,.w r] dl n.drew λu v=>held [jP (dk e) 0 ([.w t.1,.w t.2]),eu o (.pointer p)] v<|cW 55 [di t.1 t.2] dl v λA B=>held [eu o (.pointer p)] B<|cW 50 [.p p,.i 4,u.v,A.v] dm B λ(D:Int) E=>cond (!D==0) (K D E) (nn s λF=>ld .ptr F E.drew λG=>dX dj (dk e 4) E.drew λH=>ld (.w) (dk e 15) E.drew λ(I:Int)=>dX dj (dk e) E.drew λJ=>cW 38 [di H.1 H.2,.w I] dl E.drew λL M=>held [jP (dk e) 0 ([.w J.1,.w J.2]),eu F (.pointer G)] M<|cW 55 [di J.1 J.2] dl M λP Q=>held [eu F (.pointer G)] Q<|cW 50 [.p G,.i 5,L.v,P.v] dm Q λ(S:Int) T=>K S T))):cW 24 [.p s,.agg x.toArray] dm w K:=Ip (aS [(9,.o [[0,1,2,3,4,5,6,7,9,10,8,11,12,13]]),(3,.o [[0,1,2,3,4,5,6,7,9,10,8,11,12,13]])]) func24 hF

def qgd{id0 id1 state:Int}(hF:Ii #[.w id0,.w id1] 39 w λb c=>(nn s λd=>ld .ptr d c.drew λe=>dX dj (dk b) c.drew λf=>cW 55 [di f.1 f.2] dl c.drew λg h=>held [eu d (.pointer e)] h<|Ii #[.b state] 5 h λj k=>held [jP (dk b) 0 ([.w f.1,.w f.2]),eu d (.pointer e)] k<|cW 50 [.p e,.i 2,g.v,.slice (pW j) 1 1] dm k λ(n:Int) o=>K n o)/\(nn s λp=>ld .ptr p c.drew λq=>dX dj (dk b) c.drew λr=>Ii #[.b state] 5 c.drew λt u=>held [jP (dk b) 0 ([.w r.1,.w r.2]),eu p (.pointer q)] u<|cW 55 [di r.1 r.2] dl u λy z=>held [eu p (.pointer q)] z<|cW 50 [.p q,.i 2,y.v,.slice (pW t) 1 1] dm z λ(B:Int) C=>K B C)):cW 67 [.p s,di id0 id1,.b state] dm w K:=Ip ([.n,.n,.o [[0,1,2,3,4,6,5,7,8,9],[0,1,2,3,4,6,7,5,8,9]]]) func67 hF

def qii{d0 d1 d2 d3:Int}(hF:Ii #[.w d0,.w d1,.w d2,.w d3] 41 w λb c=>dX (wF) (dk b) c λd=>cW 60 [gj wF d] du c λ(e:Sl×Sl) f=>nn s λg=>ld .ptr g f λh=>cW 50 [.p h,.i 3,e.1.v,e.2.v] dm f λ(i:Int) j=>K i j):cW 26 [.pointer s,.agg #[.w d0,.w d1,.w d2,.w d3]] dm w K:=Ip [] func26 hF

def qih{d0 d1 d2 d3:Int}(hF:Ii #[.w d0,.w d1,.w d2,.w d3] 41 w λb c=>dX (wF) (dk b) c λd=>cW 60 [gj wF d] du c λ(e:Sl×Sl) f=>nn s λg=>ld .ptr g f λh=>cW 61 [.p h,.i 3,e.1.v] dm f λ(i:Int) j=>K i j):cW 25 [.pointer s,.agg #[.w d0,.w d1,.w d2,.w d3]] dm w K:=Ip [] func25 hF

def qkL{J2 most:Int}{K:Sl->WP}(hF:nn s λb=>ld .ptr b w.drew λc=>cW 35 [.w J2,.w 18446744073709551615] dl w.drew λd e=>held [eu b (.pointer c)] e<|cW 34 [.p c,.i 3,.slice none 0 0,d.v,.bool false,.i most] dl e λg h=>loop (I0) (λi (j:I0) k=>Ij (j.2<(↑g.len:Int)) (join (Sl) (λl=>idx g j.2 2 λm=>dX [.slice,.slice] m k λn=>Ii df 104 k λo p=>st (dk o) [n.1.v,n.2.v] p λq=>ld .s (dk o) q λr=>ld .s (dk o 1) q λt=>cW 36 [r.v,t.v] [.agg wF,.one .bool] q λ(u:I9×Bool) v=>Ii dh 41 v λx y=>st (dk x) (HL.mk wF u.1) y λz=>cond u.2 (dX (wF) (dk x) z λA=>Ii (List.toArray (HL.mk wF A)) 41 z λB C=>jh (#[29,29]) 29 #[j.1.v,.slice (pW B) 1 1] C λD E=>l D E) (l j.1 z)) λF G=>i (F,IntKind.wrap .i64 (j.2+1)) G) (K j.1 k)) (dT,0) h):cW 10 [.p s,.w J2,.i most] dl w K:=Ip (aS [(4,.o [[0,1,2,3,4,6,9,5,7,8]]),(0,.l [(7,.one .slice),(21,.one .i)]),(2,.j [(7,.one .slice)])]) func10 hF

def qij{account0 account1:Int}{r:HL vJ}(hF:Ii #[.w account0,.w account1] 39 w λb c=>Ii (List.toArray (HL.mk vJ r)) 62 c λd e=>dX dj (dk b) e λf=>dX (vJ) (dk d) e λg=>cW 111 [di f.1 f.2,gj vJ g] du e λ(h:Sl×Sl) i=>nn s λj=>ld .ptr j i λk=>cW 50 [.p k,.i 6,h.1.v,h.2.v] dm i λ(l:Int) m=>K l m):cW 71 [.p s,di account0 account1,gj vJ r] dm w K:=Ip [] func71 hF

def qjL{account0 account1 from_ to:Int}{down:Bool}{K:IL->WP}(hF:Ii #[.pointer s] 25 w λa b=>Ii #[.w account0,.w account1] 39 b λc d=>Ii #[.w from_] 23 d λe f=>Ii #[.w to] 23 f λg h=>Ii #[.bool down] 4 h λi j=>K (Value.func (Fn.func 43) #[] #[dS a,dS c,dS e,dS g,dS i]) j):cW 15 [.p s,di account0 account1,.w from_,.w to,.bool down] dw w K:=Ip [] func15 hF

def qhv{cap0 cap1 cap2 cap3 cap4:Addr}{K:Unit->WP}(hF:Ii (Value.cells yield) 118 w λb c=>ld .ptr cap0 c.drew λd=>nn d λe=>ld .ptr e c.drew λf=>dX dj cap1 c.drew λg=>ld (.int .u64) cap2 c.drew λ(h:Int)=>dX dj cap1 c.drew λi=>ld (.int .u64) cap3 c.drew λ(j:Int)=>ld .bool cap4 c.drew λ(k:Bool)=>cW 38 [di g.1 g.2,.int .u64 h] dl c.drew λl m=>held [eu cap4 (.bool k),eu cap3 (.int .u64 j),jP cap1 0 ([.int .u64 i.1,.int .u64 i.2]),eu e (.pointer f),eu cap0 (.pointer d)] m<|cW 38 [di i.1 i.2,.int .u64 j] dl m λs t=>held [eu cap4 (.bool k),eu e (.pointer f),eu cap0 (.pointer d)] t<|cW 44 [.p f,.i 6,l.v,s.v,.bool k] dw t λ(y:IL) z=>kz prog y du (λ(A:Sl×Sl) (B:IK->(WP)->Prop) (C:WP) D E=>B E λF=>cW 45 [A.1.v,A.2.v] [.agg dj,.agg vJ,.one .bool] F λ(G:IV×I5×Bool) H=>Ii dd 39 H λI J=>Ii dc 62 J λL M=>st (dk I) [.int .u64 G.1.1,.int .u64 G.1.2] M λN=>st (dk L) (HL.mk vJ G.2.1) N λO=>join (Bool) (λP=>cond G.2.2 (ld .any (dk b) O λ(Q:IL)=>dX (vJ) (dk L) O λR=>eJ prog Q [gj vJ R] dp O λ(S:Bool) T=>P (!S) T) (P false O)) λ(U:Bool) V=>cond U (D 0 V) (C V)) (λW X=>eC W X λY=>K () Y) [λZ aa=>eC Z aa λab=>K () ab] z):cW 43 [yield,.p (some cap0),.p (some cap1),.p (some cap2),.p (some cap3),.p (some cap4)] [] w K:=Cc (an:=[.n,.n,.o [[0,1,2,3,4,5,7,8,10,6,9,11]],.r du,.n,.n,.j [(39,.one .bool)]]) func43 hF

def qoG{t:Int}{from_ to:Sl}{down:Bool}{K:IL->WP}(hF:Ii #[.pointer p] 92 w λb c=>Ii #[.i t] 3 c λd e=>Ii #[from_.v] 101 e λf g=>Ii #[to.v] 101 g λh i=>Ii #[.bool down] 4 i λj k=>ld .s (dk f) k.drew λl=>ld .s (dk h) k.drew λm=>cW 75 [l.v] dl k.drew λn o=>held [eu (dk h) m.v] o<|cW 75 [m.v] dl o λr s=>st (dk f) [n.v] s λu=>st (dk h) [r.v] u λv=>K (Value.func (Fn.func 86) #[] #[dS b,dS d,dS f,dS h,dS j]) v):cW 44 [.p p,.i t,from_.v,to.v,.bool down] dw w K:=Ip ([.n,.n,.o [[0,2,1,3,4,5]]]) func44 hF

def qll{cap0 cap1 cap2 cap3 cap4:Addr}{K:Unit->WP}(hF:ld .ptr cap0 w λb=>ld .i cap1 w λ(c:Int)=>ld .s cap2 w λd=>ld .s cap3 w λe=>ld .bool cap4 w λ(f:Bool)=>cW 37 [.p b,.i c,d.v,e.v,.bool f] dK w λg h=>cW 40 [.p g] [.agg [.slice,.slice],.one .bool] h λ(i:(Sl×Sl)×Bool) j=>Ii df 104 j λk l=>st (dk k) [i.1.1.v,i.1.2.v] l λm=>loop (Option Addr×Bool) (λn (o:Option Addr×Bool) p=>cond o.2 (nn o.1 λq=>ld .s q p λr=>nn o.1 λs=>ld .s (Ih s 1) p λt=>eJ prog yield [r.v,t.v] dp p λ(u:Bool) v=>cond (!u) (K () v) (nn o.1 λx=>dX [.slice,.slice] x v λy=>Ii df 104 v λz A=>st (dk z) [y.1.v,y.2.v] A λB=>cW 40 [.p g] [.agg [.slice,.slice],.one .bool] B λ(C:(Sl×Sl)×Bool) D=>st (dk z) [C.1.1.v,C.1.2.v] D λE=>n (pW z,C.2) E)) (K () p)) (pW k,i.2) m):cW 86 [yield,.p (some cap0),.p (some cap1),.p (some cap2),.p (some cap3),.p (some cap4)] [] w K:=Ip ([.n,.n,.l [(8,.one .ptr),(9,.one .bool)]]) func86 hF

def qhE{blocks:Int}{K:((Option Addr)×(Option Addr))->WP}(hF:cW 62 [.i blocks] dL w λ(a:Ja) b=>cond (Option.isNone a.2) (K (none,none) b) (cW 63 [.p a.2] dK b λc d=>K (c,a.2) d)):cW 32 [.i blocks] dL w K:=Ip [] func32 hF
end
section
set_option maxRecDepth 100000
open Go Go.Pt
end
section
open Go Go.Pt List
open Go.IntKind (wrap)
attribute [local irreducible] ld dX jg oe jF fP st new idx jG jR fM jY jz mM iH nn call eJ inv run fG js join loop held ext kz eC nK nE nQ IntKind.wrap
variable {K:Sl->Prop} {L:IW} {S:IS} {T:IM} {body l:IT} {number:Int} {s:Sl} {w:IK}
abbrev encB:Int->List IL:=λn=>[Value.int .u8 n]
abbrev eN (S:IS) (w:IK) (s:Sl) (l:IT):Prop:=eI encB 1 S w s l
abbrev gb (w:IK) (s:Sl) (l:IT) (B:IS):Prop:=fj encB 1 w s l B
def lY:∀x,(encB x).length=1:=λ_=>rfl
def gw (l:IT):Array IL:=(l.map (Value.int .u8)).toArray
def AK(l:IT):(gw l).size=l.length:=by simp[gw]
def sC(l:IT):l.flatMap encB=l.map (Value.int .u8):=by
 induction l with
 | nil=>rfl
 | cons a l ih=>rw[yH,ih];rfl
def wQ:∃i,prog.info? 5=some i/\i.zero=some (.b 0)/\i.size=1/\i.bytes=1:=tB oK
def eN.at(h:eN S w s l)(n:Nat){i x:Int}{K:Int->Prop}(hi:i=n)(u:l[n]?=some x)(k:K x):idx s i 1 λa=>ld .b a w K:=
 eI.get (y:=x) h n hi u rfl k
def wK{b o n cap:Nat}{L:IT}{u:I1}(E:w.heap[b]?=some (.cells (gw L) T u))(R:o+n<=L.length)(G:n<=cap)(I:b∉S):eN S w ⟨some (dk b o),n,cap⟩ ((L.drop o).take n):=by
 refine⟨by rw[yL,yB];dsimp only;omega,G,.inr ⟨b,o,_,T,_,rfl,E,I,λi x h=>?_⟩⟩;have J:=(zP.1 h).1;rw[yL,yB] at J;rw[xB,iP,xA] at h;rw[xU];apply ext_getElem?;intro j;rw[xB,xA];match j with
 | 0=>simp[gw,h]
 | j+1=>simp
def Dq{b o len cap:Nat}{lo hi:Int}{h:Nat}(u:0<=lo)(E:lo<=hi)(G:hi<=cap)(I:lo<cap)(k:K ⟨some ⟨b,o+lo.toNat*h,none⟩,hi.toNat-lo.toNat,cap-lo.toNat⟩):fM ⟨some (dk b o),len,cap⟩ (some lo) (some hi) none h K:=by unfold fM;refine⟨by simpa using ⟨u,E,G⟩,?_⟩;simp only[xX,xW,zJ];rw[iN];simp only[Option.map_some,Addr.j3];exact k
def DY{b o len cap:Nat}{lo:Int}{h:Nat}(u:0<=lo)(E:lo<=len)(G:len<=cap)(I:lo<cap)(k:K ⟨some ⟨b,o+lo.toNat*h,none⟩,len-lo.toNat,cap-lo.toNat⟩):fM ⟨some (dk b o),len,cap⟩ (some lo) none none h K:=by unfold fM;refine⟨by simp;omega,?_⟩;simp only[xX,xW,zJ];rw[iN];simp only[Option.map_some,Addr.j3];exact k
def eI.part{α:Type}{enc:α->List IL}{k:Nat}{l:List α}(h:eI enc k S w s l){lo hi:Option Int}(a b:Nat)(u:lo.getD 0=a)(E:hi.getD s.len=b)(ab:a<=b)(V:b<=l.length)(kk:∀G,G.len=b-a->eI enc k S w G ((l.take b).drop a)->(s.a.isNone=true->G.a.isNone=true)->K G):fM s lo hi none k K:=by
 obtain⟨h1,h2,J⟩:=h;unfold fM;refine⟨by rw[u,E];simp;omega,kk _ ?_ ⟨?_,?_,?_⟩ ?_⟩;rw[u,E];simp;rw[u,E];simp;omega;rw[u,E];simp;omega;by_cases he:(l.take b).drop a=[];exact .inl he;right;have ad:a<b:=by rcases Nat.lt_or_ge a b with h|h;exact h;exact absurd (by rw[vF];simp;omega) he
 rcases J with J|⟨bl,o,cs,T,fr,ha,R,U,hc⟩;rw[J] at V;simp at V;omega;refine⟨bl,o+a*k,cs,T,fr,?_,R,U,λi x I=>?_⟩;rw[u];simp only[xX,zJ];rw[iN,ha];simp[Addr.j3];rw[xA,xB] at I;split at I;have:=hc (a+i) x I;rw[<- this,xV,Nat.add_assoc];cases I;intro hn;rw[Option.isNone_iff_eq_none] at hn;rw[hn];simp
def gS (n:Int) (j:Nat):Int:=wrap .u8 (Int.fdiv n (2^min (8*j) 32))
def be (n:Int) (k:Nat):IT:=(List.range k).map λi=>gS n (k-1-i)
def kR(n:Int)(k:Nat):(be n k).length=k:=by simp[be]
def gG(n:Int)(h:-1000000000000000<=n/\n<=1000000000000000):wrap .i64 n=n:=by rw[IntWalk.i64_in];omega
def Gw{w0:IK}{b o k cap:Nat}{A X Z:IT}{n:Int}{K:Unit->WP}(h:ef S w0 w L)(i:Nat)(hi:L[i]?=some (b,.c (gw (A++X++Z)) T))(ho:A.length=o)(hX:X.length=k)(ab:k<=4)(hk:∀w',ef S w0 w' (L.set i (b,.c (gw (A++be n k++Z)) T))->K () w'): cW 181 [.slice (some (dk b o)) k cap,.u n] [] w K:=by
 refine qtk (b:=⟨some (dk b o),k,cap⟩)<|jv (λx w'=>∃j:Nat,x=j/\j<=k/\ef S w0 w' (L.set i (b,.c (gw (A++((be n k).take j++X.drop j)++Z)) T))) (λx _=>((k:Int)-x).toNat) ⟨0,rfl,oJ,?_⟩ ?_;have:L.set i (b,.c (gw (A++((be n k).take 0++X.drop 0)++Z)) T)=L:=by
  apply ext_getElem?;intro j;rw[List.getElem?_set];by_cases hij:i=j;subst hij;rw[iP rfl,hi];have:=(zP.1 hi).1;simp[this];rw[iN hij]
 rw[this];exact h;rintro x w1 ⟨j,rfl,hj,G⟩ Y hY;have U:=(zP.1 hi).1;dsimp only;apply cD<;>intro V;have I:j<k:=oJ;have e1:wrap .i64 (8*wrap .i64 (wrap .i64 ((k:Int)-1)-j))=((8*(k-1-j):Nat):Int):=by rw[gG ((k:Int)-1) oJ,gG ((k:Int)-1-j) oJ,gG (8*((k:Int)-1-j)) oJ];omega
 rw[e1,gG _ oJ];refine qu oJ<|vg oJ oJ ?_;rw[zJ,xU,zJ];have J:X.drop j=X[j]::X.drop (j+1):=zX oJ;have aa:(be n k).take (j+1)=(be n k).take j++[gS n (k-1-j)]:=by rw[yG (by rw[kR];exact I)];simp[be]
 have E:((be n k).take j).length=j:=(by rw[yL,kR];omega);refine oH G i (by rw[List.getElem?_set,iP rfl,iP U]) (gw (A++((be n k).take (j+1)++X.drop (j+1))++Z)) ?_ rfl ?_ λw2 R _=>?_;rw[en,en];apply Array.ext';rw[Array.toList_setIfInBounds];show (gw _).toList.set _ _=(gw _).toList;unfold gw;simp only[toList_toArray];rw[<- map_set,J,aa,zV A,set_append_right _ _ oJ];rw[show o+j-A.length=j by omega,zV ((be n k).take j),set_append_right _ _ oJ,E,Nat.sub_self,xK,set_cons_zero];simp only[zV,xK,xJ,gS];refine Nat.ble_eq_true_of_le ?_;rw[AK,J];simp only[zF,yI,xL,E];omega;refine hY _ _ ⟨j+1,oJ,oJ,?_⟩ oJ;rw[set_set] at R;exact R;have I:j=k:=oJ;subst I;rw[zS (by rw[kR];exact zM _),Iw oJ,xI] at G;exact hk _ G
def iI (l:IT):Int:=l.foldl (λr x=>bits .or .u32 (wrap .u32 (r*2^8)) (wrap .u32 x)) 0
def HZ{K:Int->WP}(h:eN S w s l)(hl:l.length<=100000)(U:K (iI l) w):cW 188 [s.v] dy w K:=by refine qtj ?_;have J:=h.1;refine jv (λx w'=>w'=w/\∃i:Nat,x.2=i/\i<=l.length/\x.1=iI (l.take i)) (λx _=>((l.length:Int)-x.2).toNat) ⟨rfl,0,rfl,oJ,rfl⟩ ?_;rintro⟨r,ii⟩ w' ⟨rfl,i,G,hi,R⟩ X V;simp only at G R;subst G R;apply cD<;>intro I;have E:i<l.length:=oJ;refine eN.at h i rfl (zA E) ?_;rw[gG _ oJ];refine V _ _ ⟨rfl,i+1,oL,oJ,?_⟩ oN;rw[yG E,iI,iI,foldl_append];rfl;have E:i=l.length:=oJ;subst E;rw[vA];exact U
def qlM{K:Sl->IK->Prop}(h:eN S w s l)(hl:l.length<=1000000)(hk:∀s' B w',gb w' s' l B->Fr [] w w'->(∀b∈B,w.heap.size<=b)->(s.a.isNone=true->s'=dT)->(s.a.isNone=false->s'.a.isNone=false)->K s' w'): cond (Option.isNone s.a) (K dT w) (new (.cells #[] 5) w λr w1=>Pt.run dl ((Builtin.append_ #[101,101] 101 #[.slice (some (dk r)) 0 0,.slice s.a s.len s.cap]).run prog w1) λs' w'=>K s' w'):=by
 obtain⟨i5,hi,hz,hsz,hby⟩:=wQ;apply eB<;>intro hc;have hl0:l=[]:=by rcases h.2.2 with h3|⟨b,o,cs,T,fr,ha,_⟩;exact h3;rw[ha] at hc;cases hc
 subst hl0;exact hk _ [] w (.nil _ _ _) (.refl _ _) oL (λ_=>rfl) (λh=>by rw[hc] at h;cases h);obtain⟨a,ha⟩:∃a,s.a=some a:=by cases hs:s.a with|none=>rw[hs] at hc;cases hc|some a=>exact⟨a,rfl⟩
 have ho:=oE [] w;refine ef.new ho λr w1 e1 s1 ho=>?_;have h1:eN S w1 s l:=h.q8 ho.fr;have hb:gb w1 ⟨some (dk r),0,0⟩ [] [r]:=fj.fresh lY (ho.at (i:=0) rfl) rfl (zM _) oL oL;have hlen:=h.1;rw[ha];refine fj.j4 (s:=⟨some (dk r),0,0⟩) (ys:=l) (e:=5) hb lY oK hi hz hsz rfl (.ofSlice _ (e':=5) oK a s.len s.cap _ ?_ (h1.cells lY ha) ?_) hlen (by rw[hby,hlen];simp;omega) (by rw[hlen];simp;omega) λs' B w' g1 g2 g3 g4=>?_;rw[sC];simp[hlen];intro u hu;rw[sC] at hu;obtain⟨x,_,rfl⟩:=List.mem_map.1 hu;rfl;have hBn:∀b∈B,w.heap.size<=b:=λb hb=>by rcases g3 b hb with h|h;simp at h;omega;omega
 refine hk s' B w' (oP g1) (ho.fr.J0 g2 (λb hb=>by simp at hb;subst hb;exact .inr oJ)) hBn (λh=>by rw[hc] at h;cases h) λ_=>?_;rcases g4 with hn|hn;exact hn;simp at hn
def Aa{K:Sl->WP}(h:eN S w s l)(E:l.length<=1000000)(G:∀u B w',gb w' u l B->Fr [] w w'->(∀b∈B,w.heap.size<=b)->(s.a.isNone=true->u=dT)->(s.a.isNone=false->u.a.isNone=false)->K u w'): cW 154 [s.v] dl w K:=by exact qm2<|qlM h E G
def wH{K:Sl->WP}(h:eN S w s l)(E:l.length<=1000000)(G:∀u B w',gb w' u l B->Fr [] w w'->(∀b∈B,w.heap.size<=b)->(s.a.isNone=true->u=dT)->(s.a.isNone=false->u.a.isNone=false)->K u w'): cW 75 [s.v] dl w K:=by exact qoB<|qlM h E G
def lr:IT:=[0,274646895,549293790,820201905,1098587580,1361435347,1640403810,1905808397,2197175160,2460548119,2722870694,2987750089,3280807620,3553878443,3811616794,4084100981]
abbrev HG:Nat:=1
def Hv (w:IK):Prop:=∃T h,w.heap[HG]?=some (.cells (lr.map (Value.int .u32)).toArray T h)
def Hv.j1{w':IK}(h:Hv w)(f:Fr S w w')(E:HG∉S):Hv w':=by obtain⟨T,G,u⟩:=h;exact⟨T,G,by rw[f.block HG (eO u) E];exact u⟩
def Hv.q8{w':IK}(h:Hv w)(f:Fr [] w w'):Hv w':=h.j1 f oL
def Hv.lt(h:Hv w):HG<w.heap.size:=by obtain⟨T,E,u⟩:=h;exact eO u
def FO(x:Int):0<=bits .and .u32 x 15/\bits .and .u32 x 15<16:=by have h:(BitVec.ofInt 32 x&&& BitVec.ofInt 32 15).toNat<16:=(by rw[BitVec.toNat_and];exact Nat.lt_of_le_of_lt Nat.and_le_right oM);have u:bits .and .u32 x 15=((BitVec.ofInt 32 x&&& BitVec.ofInt 32 15).toNat:Int):=(by show wrap .u32 _=_;unfold wrap;have:(IntKind.u32.signed)=false:=rfl;simp only[this,Bool.false_and,Bool.false_eq_true,if_false];have e:((2:Int)^IntKind.u32.bits)=4294967296:=rfl;rw[e];exact Int.emod_eq_of_lt oJ (by have:(BitVec.ofInt IntKind.u32.bits x&&& BitVec.ofInt IntKind.u32.bits 15).toNat<16:=h;omega));rw[u];omega
def half (x:Int):Int:=lr.getD x.toNat 0
def wZ (r:Int):Int:=bits .xor .u32 (Int.fdiv r (2^4)) (half (bits .and .u32 r 15))
def tv (r x:Int):Int:=wZ (wZ (bits .xor .u32 r (wrap .u32 x)))
def uD (h:Int) (l:IT):Int:=bits .xor .u32 (l.foldl tv (bits .xor .u32 h 4294967295)) 4294967295
def oZ (l:IT):Int:=uD 0 l
def qtU{x:Int}{K:Int->Prop}(h:Hv w)(k:K (half (bits .and .u32 x 15))):ld .u (Addr.add (dk HG) (Int.toNat (bits .and .u32 x 15)*1)) w K:=by obtain⟨T,R,G⟩:=h;obtain⟨I,J⟩:=FO x;rw[Addr.j3];refine iv G _ ?_ k;generalize bits .and .u32 x 15=y at I J;have E:y.toNat<lr.length:=(by show y.toNat<16;omega);rw[xT,xU];simp only[List.getElem?_toArray,zQ,zA E,Option.map_some,half,yR,xW];rfl
def qzK{G:Int}{K:Int->WP}(h:eN S w s l)(R:Hv w)(hl:l.length<=100000)(hk:K (uD G l) w): cW 225 [.u G,s.v] dy w K:=by refine qs0 ?_;have U:=h.1;refine jv (λx w'=>w'=w/\∃i:Nat,x.2=i/\i<=l.length/\x.1=(l.take i).foldl tv (bits .xor .u32 G 4294967295)) (λx _=>((l.length:Int)-x.2).toNat) ⟨rfl,0,rfl,oJ,rfl⟩ ?_;rintro⟨r,ii⟩ w' ⟨rfl,i,I,hi,V⟩ X hX;simp only at I V;subst I V;apply cD<;>intro J;have E:i<l.length:=oJ;refine eN.at h i rfl (zA E)<|qu (FO _)<|qtU R<|qu (FO _)<|qtU R ?_;rw[gG _ oJ];refine hX _ _ ⟨rfl,i+1,oL,oJ,?_⟩ oN;rw[yG E,foldl_append];rfl;have E:i=l.length:=oJ;subst E;rw[vA];exact hk
def qxs{K:Int->WP}(h:eN S w s l)(E:Hv w)(G:l.length<=100000)(I:K (oZ l) w): cW 182 [s.v] dy w K:=by exact quZ<|qzK h E G I
def E5{α:Type}(A X Y Z:List α)(h:X.length=Y.length):(A++X++Z).take A.length++Y++(A++X++Z).drop (A.length+Y.length)=A++Y++Z:=by have u:(A++X++Z).take A.length=A:=(by rw[zV,Ir (zM _),zS (zM _)]);have E:(A++X++Z).drop (A.length+Y.length)=Z:=(by rw[<- h,<- zF,Ix (zM _),Iw (zM _),xJ]);rw[u,E]
def qkK{A X Y Z:IT}(h:X.length=Y.length):en (gw (A++X++Z)) A.length (Y.map (Value.int .u8))=gw (A++Y++Z):=by
 apply Array.ext';rw[qJ _ _ _ (by rw[AK];simp only[zF,zK];omega)];have:=E5 (A.map (Value.int .u8)) (X.map (Value.int .u8)) (Y.map (Value.int .u8)) (Z.map (Value.int .u8)) (oP h);simpa only[gw,xO,toList_toArray,zK] using this
def zs (n:Nat):IT:=List.replicate n 0
def qj(n:Nat):(zs n).length=n:=length_replicate
def AQ(a b:Nat):zs (a+b)=zs a++zs b:=replicate_append_replicate.symm
def qAM:zs 1=[0]:=rfl
def qsO(n:Nat):(List.replicate n (Value.int .u8 0)).toArray=gw (zs n):=by unfold gw zs;rw[map_replicate]
def ef.bytes{w0:IK}{b:Nat}{l':IT}(h:ef S w0 w ((b,.c (gw l) T)::L))(e:l=l'):ef S w0 w ((b,.c (gw l') T)::L):=by rw[<- e];exact h
def ls (number kind:Int) (body:IT):IT:=be number 4++[kind]++be (wrap .u32 body.length) 2++[0]++body++zs (500-body.length)
def eU (number kind:Int) (body:IT):IT:=be (oZ (ls number kind body)) 4++ls number kind body
def CR{kind:Int}(h:body.length<=500):(ls number kind body).length=508:=by simp only[ls,kR,qj,zF,yI,xL];omega
def xw{kind:Int}(h:body.length<=500):(eU number kind body).length=512:=by rw[eU,zF,kR,CR h]
def H8{kind:Int}{K:I0->WP}(h:eN S w s l)(U:Hv w)(hl:l.length<=100000)(J:500<l.length->K (dT,3) w)(hk:l.length<=500->∀b T w',w'.heap[b]?=some (.c (gw (eU number kind l)) T)->Fr [] w w'->w.heap.size<=b->K (⟨pW b,512,512⟩,0) w'): cW 150 [.u number,.b kind,s.v] dq w K:=by
 refine qsd ?_;have I:=h.1;refine eB (λV=>J (by have:=zC V;omega)) λV=>?_;have G:l.length<=500:=(by have:=zB V;omega);refine ef.GZ (oE [] w) oM oM oM oM λb w1 eb E=>?_;rw[qsO] at E;replace E:=ef.bytes (l':=zs 4++zs 4++zs 504) E (by rw[<- AQ,<- AQ];rfl);refine Dq oM oM oM oM<|Gw (k:=4) E 0 rfl (qj 4) (qj 4) oM λw2 E=>?_;replace E:=ef.bytes (l':=(zs 4++be number 4)++zs 1++zs 503) E (by rw[show (504:Nat)=1+503 from rfl,AQ,zV,zV,zV]);refine vg oJ oL<|oH E 0 rfl _ (qkK (A:=zs 4++be number 4) (X:=zs 1) (Y:=[kind]) rfl) rfl (by rw[AK];simp only[zF,qj,kR];rfl) λw3 E _=>?_;replace E:=ef.bytes (l':=(zs 4++be number 4++[kind])++zs 2++zs 501) E (by rw[show (503:Nat)=2+501 from rfl,AQ,zV,zV,zV,zV,zV]);refine Dq oJ oJ oL oL<|Gw (k:=2) E 0 rfl (by simp only[zF,qj,kR];rfl) (qj 2) oM λw4 E=>?_;replace E:=ef.bytes (l':=(zs 4++be number 4++[kind]++be (wrap .u32 s.len) 2++[0])++zs l.length++zs (500-l.length)) E (by rw[show (501:Nat)=1+(l.length+(500-l.length)) by omega,AQ,AQ,qAM];simp only[zV]);refine DY oJ oL oL oL ?_;have h4:eN S w4 s l:=h.q8 E.fr;have e6:(zs 4++be number 4++[kind]++be (wrap .u32 s.len) 2++[0]).length=12:=(by simp only[zF,qj,kR];rfl);refine ef.wq (el:=5) (vs:=l.map (Value.int .u8)) E 0 rfl oK oK (by rw[zK,I];exact (xS (by show l.length<=500;omega)).symm) (λR=>?_) (λv U=>by obtain⟨x,_,rfl⟩:=mem_map.1 U;rfl) (by rw[AK,zF,zF,e6,qj,qj,zK];omega) λw5 E=>?_;rcases h4.2.2 with h3|⟨bb,o,cs,T,fr,ha,_⟩;rw[h3] at R;exact absurd rfl R;refine⟨_,ha,?_⟩
 have:=h4.cells lY ha;rw[sC] at this;exact this;have e5:=qkK (A:=zs 4++be number 4++[kind]++be (wrap .u32 s.len) 2++[0]) (X:=zs l.length) (Y:=l) (Z:=zs (500-l.length)) (qj _);rw[e6] at e5;have e7:(0:Nat)+Int.toNat 12*1=12:=rfl;rw[e7,e5] at E;replace E:=ef.bytes (l':=[]++zs 4++ls number kind l) E (by simp only[ls,I,zV,xJ]);refine wW ⟨oJ,oL⟩<|DY oJ oL oL oL ?_;have hd:=E.drew;have hr:eN [] w5.drew ⟨some ⟨b,0+Int.toNat 4*1,none⟩,(512:Int).toNat-Int.toNat 4,(512:Int).toNat-Int.toNat 4⟩ (ls number kind l):=by
  have:=wK (S:=[]) (o:=4) (n:=508) (cap:=508) (hd.at (i:=0) rfl) (by rw[zF,zF,qj,CR G];simp) (zM _) oL;rw[xJ,Ix (by rw[qj];exact zM _),Iw (by rw[qj];exact zM _),xJ,zS (by rw[CR G];exact zM _)] at this;exact this
 have ab:Hv w5.drew:=U.q8 hd.fr;refine qxs hr ab (by rw[CR G];decide)<|Gw (k:=4) hd 0 rfl rfl (qj 4) oM λw6 E=>hk G b _ w6 (E.at (i:=0) rfl) E.fr oJ
def eX (l:IT):Prop:=∀x∈l,0<=x/\x<256
def eX.take{l:IT}(h:eX l)(n:Nat):eX (l.take n):=λx u=>h x (yV u)
def eX.drop{l:IT}(h:eX l)(n:Nat):eX (l.drop n):=λx u=>h x (yU u)
def qwc(h:eX l):((Lib.countByte (Lib.bytesOf l) (0:Int).toNat.toUInt8:Nat):Int)=l.length↔∀x∈l,x=0:=by
 have key:∀l:IT,eX l->((Lib.bytesOf l).count (0:UInt8)<=l.length/\((Lib.bytesOf l).count (0:UInt8)=l.length↔∀x∈l,x=0)):=by
  intro l;induction l with
  | nil=>intro _;simp[Lib.bytesOf]
  | cons a l ih=>
   intro u;obtain⟨R,E⟩:=ih λx G=>u x (zN _ G);have U:=u a oL;have e:Lib.bytesOf (a::l)=UInt8.ofNat a.toNat::Lib.bytesOf l:=rfl;rw[e,count_cons];have I:(UInt8.ofNat a.toNat==0)=decide (a=0):=by
    by_cases h0:a=0;subst h0;rfl;rw[zU h0,zR];intro J;have:=IH UInt8.toNat J;simp at this;omega
   rw[I];by_cases h0:a=0;subst h0;simp only[decide_true,if_true,yI,zG,forall_eq_or_imp,true_and];exact⟨oJ,by rw[<- E];omega⟩;simp only[h0,decide_false,Bool.false_eq_true,if_false,yI,zG,forall_eq_or_imp,false_and,iff_false];omega
 have:=(key l h).2
 show (((Lib.bytesOf l).count _:Nat):Int)=_↔_;rw[<- this];exact Int.ofNat_inj
def qoD{b2 cap2:Nat}{K:Int->IK->Prop}(h:eN S w s l)(hB:eX l)(hc2:w.cell? (dk b2)=some (.int .u8 0))(hk:∀c:Int,(c=l.length↔∀x∈l,x=0)->K c w): call prog 189 [.slice s.a s.len s.cap,.slice (some (dk b2)) 1 cap2] [.one (.int .i64)] w K:=by
 refine qoC (s:=s) (sep:=⟨some (dk b2),1,cap2⟩) ?_;have hlen:=h.1;refine Io (by rfl)<|Im (by rfl)<|vg oJ oL<|oX (c:=.int .u8) 0 hc2 ?_;have hcount:(Extern.BytealgCount.count #[.slice s.a s.len s.cap,.int .u8 0]).run prog w=.ok (.int .i64 (Lib.countByte (Lib.bytesOf l) (0:Int).toNat.toUInt8)) w:=by
  cases ha:s.a with
  | none=>
   have hl0:l=[]:=by rcases h.2.2 with h3|⟨b,o,cs,T,fr,ha',_⟩;exact h3;rw[ha] at ha';cases ha'
   subst hl0;exact Lib.run_countNil w _ _ _
  | some a=>
   refine Lib.run_countAt w a s.len s.cap l hlen.symm (λi hi=>?_) 0;have:=h.cells lY ha i (.int .u8 (l.getD i 0)) ?_;exact this;rw[sC,zQ,yR,zA oJ];rfl
 exact Ew (e:=Extern.BytealgCount.count) func230 oK oK oK oK (((Lib.countByte (Lib.bytesOf l) (0:Int).toNat.toUInt8:Nat):Int)) w hcount<|hk _ (qwc hB)
def fx (number:Int) (b:IT):Int×List Int×Int:=
 if b.length≠512 then (0,[],1)
 else if iI (b.take 4)≠oZ (b.drop 4) then (0,[],8)
 else if iI ((b.take 8).drop 4)≠number then (0,[],4)
 else if iI ((b.take 11).drop 9)>500\/b.getD 11 0≠0 then (0,[],2)
 else if ∃x∈b.drop (12+(iI ((b.take 11).drop 9)).toNat),x≠0 then (0,[],2)
 else (b.getD 8 0,(b.take (12+(iI ((b.take 11).drop 9)).toNat)).drop 12,0)
def pA(x:Int)(h:0<=x/\x<4294967296):wrap .u32 x=x:=by unfold wrap;have:(IntKind.u32.signed)=false:=rfl;simp only[this,Bool.false_and,Bool.false_eq_true,if_false];exact Int.emod_eq_of_lt h.1 h.2
def xb(x:Int):0<=wrap .u32 x/\wrap .u32 x<4294967296:=by unfold wrap;have:(IntKind.u32.signed)=false:=rfl;simp only[this,Bool.false_and,Bool.false_eq_true,if_false];exact⟨Int.emod_nonneg _ oM,Int.emod_lt_of_pos _ oM⟩
def Dt(h:BinOp)(x y:Int):0<=bits h .u32 x y/\bits h .u32 x y<4294967296:=xb _
def qu7(l:IT):0<=iI l/\iI l<4294967296:=by
 unfold iI;have:∀(l:IT) (a:Int),0<=a/\a<4294967296->0<=l.foldl (λr x=>bits .or .u32 (wrap .u32 (r*2^8)) (wrap .u32 x)) a/\l.foldl (λr x=>bits .or .u32 (wrap .u32 (r*2^8)) (wrap .u32 x)) a<4294967296:=by
  intro l;induction l with
  | nil=>intro a h;exact h
  | cons x l ih=>intro a _;exact ih _ (Dt _ _ _)
 exact this l 0 oM
def HI{K:I4->WP}(h:eN S w s l)(hv:Hv w)(hB:eX l)(hl:l.length<=100000)(hk:∀s' B w',gb w' s' (fx number l).2.1 B->Fr [] w w'->(∀b∈B,w.heap.size<=b)->K ((fx number l).1,s',(fx number l).2.2) w'): cW 157 [.u number,s.v] dt w K:=by
 refine qsc ?_;have R:=h.1;have G:∀ {e:Int} {w':IK},fx number l=(0,[],e)->Fr [] w w'->K (0,dT,e) w':=by
  intro e w' he hf;have:=hk dT [] w' (by rw[he];exact .nil _ _ _) hf oL;rw[he] at this;exact this
 apply eB<;>intro E;refine G ?_ (.refl _ _);have:l.length≠512:=(by simp at E;omega);simp[fx,this];have U:l.length=512:=(by simp at E;omega);refine eI.part h 0 4 rfl rfl oJ oJ λs1 l1 r1 _=>eI.part h 4 512 rfl (by rw[R,U];rfl) oJ oJ λs2 l2 r2 _=>?_;rw[zS oJ] at r2;rw[xG] at r1;have fd:Fr [] w w.drew:=(Fr.refl _ _).drew;have al:Hv w.drew:=hv.q8 fd;refine HZ (w:=w.drew) r1 (by rw[yL];omega)<|qxs (w:=w.drew) r2 al (by rw[yB];omega) ?_;have h0:¬l.length≠512:=oJ;apply eB<;>intro E;refine G ?_ fd;have:iI (l.take 4)≠oZ (l.drop 4):=(oP E);rw[fx,iN h0,iP this];have h1:¬iI (l.take 4)≠oZ (l.drop 4):=(oP E);have hd:eN S w.drew s l:=h;refine eI.part hd 4 8 rfl rfl oJ oJ λs3 l3 r3 _=>HZ r3 (by rw[yB,yL];omega) ?_;apply eB<;>intro E;refine G ?_ fd;have:iI ((l.take 8).drop 4)≠number:=(oP E);rw[fx,iN h0,iN h1,iP this];have h2:¬iI ((l.take 8).drop 4)≠number:=(oP E);refine eI.part hd 9 11 rfl rfl oJ oJ λs4 l4 r4 _=>HZ r4 (by rw[yB,yL];omega) ?_;have hn:=qu7 ((l.take 11).drop 9);have an:l[11]?=some (l.getD 11 0):=(by rw[yR,zA oJ];rfl);have g8:l[8]?=some (l.getD 8 0):=(by rw[yR,zA oJ];rfl);refine iC (λb w'=>b=decide (iI ((l.take 11).drop 9)>500\/l.getD 11 0≠0)/\w'=w.drew) ?_ ?_;apply eB<;>intro E;exact⟨by rw[zZ (Or.inl (zC E))],rfl⟩;refine eN.at hd 11 rfl an ⟨?_,rfl⟩;have:=zB E;generalize l.getD 11 0=z;by_cases hz:z=0<;>simp[this,hz];rintro b w1 ⟨rfl,rfl⟩;apply eB<;>intro E;refine G ?_ fd;rw[fx,iN h0,iN h1,iN h2,iP (zC E)];have h3:=zB E;have V:iI ((l.take 11).drop 9)<=500:=by rcases Int.lt_or_le 500 (iI ((l.take 11).drop 9)) with h|h;exact absurd (Or.inl h) h3;exact h
 have ov:fx number l=if ∃x∈l.drop (12+(iI ((l.take 11).drop 9)).toNat),x≠0 then (0,[],2) else (l.getD 8 0,(l.take (12+(iI ((l.take 11).drop 9)).toNat)).drop 12,0):=by rw[fx,iN h0,iN h1,iN h2,iN h3]
 generalize iI ((l.take 11).drop 9)=n at hn V ov;obtain⟨m,rfl⟩:∃m:Nat,n=m:=⟨n.toNat,oJ⟩;rw[pA _ oJ];rw[zJ] at ov;refine eI.part hd (12+m) 512 oL (by rw[R,U];rfl) oJ oJ λs5 l5 r5 _=>?_;rw[zS oJ] at r5;have ho:=oE [] w.drew;refine ef.new ho λzb w2 ez sz ho=>?_;have ap:eN S w2 s5 (l.drop (12+m)):=r5.q8 ho.fr;refine qoD ap (hB.drop _) (ho.cell (off:=0) 0 rfl rfl) λc af=>?_;have J:Fr [] w w2:=fd.trans ho.fr;have ag:=r5.1;apply eB<;>intro E;refine G ?_ J;have aq:¬ ∀x∈l.drop (12+m),x=0:=by rw[<- af];intro e;rw[e,ag] at E;simp at E
 rw[ov,if_pos];exact Classical.byContradiction λar=>aq λx hx=>Classical.byContradiction λav=>ar ⟨x,hx,av⟩;have ah:∀x∈l.drop (12+m),x=0:=by rw[<- af];rw[ag] at E;simpa using E
 rw[iN (by rintro⟨x,hx,h0⟩;exact h0 (ah x hx))] at ov;have ai:eN S w2.drew s l:=(h.q8 J).drew;obtain⟨_,b8,o8,ax,_,aj,T8,ay,aa,az⟩:=eI.at ai 8 g8;have ab:aj[o8+8]?=some (.b (l.getD 8 0)):=by
  have:=IH (·[0]?) az;simpa using this
 refine qM ax ⟨oJ,oJ⟩ ?_;have I:∀ {w':IK},w'.heap[b8]?=some (.cells aj T8 ay)->w'.cell? ⟨b8,o8+Int.toNat 8*1,none⟩=some (.b (l.getD 8 0)):=λhb=>by rw[jC hb];exact ab
 refine oX (l.getD 8 0) (I aa)<|eI.part ai 12 (12+m) rfl oL oJ oJ λs6 l6 r6 _=>?_;have lm:((l.take (12+m)).drop 12).length=m:=(by rw[yB,yL];omega);refine wH r6 (by rw[lm];omega) λs7 B w3 aB f7 n7 _ _=>iS (I (by show _=_;rw[f7.block b8 (eO aa) oL];exact aa)) ?_;have e1:(w2.drew).heap.size=w2.heap.size:=rfl
 have:=hk s7 B w3 (by rw[ov];exact aB) (J.drew.trans f7) (λb hb=>by have:=n7 b hb;have:=J.size;omega);rw[ov] at this;exact this
end
section
open Go Go.Pt List
open Go.IntKind (wrap)
variable {K:IV->WP} {a b body:IT} {n number:Int}
def A7(x:Int):wrap .u8 x=x%256:=by unfold wrap;have:(IntKind.u8.signed)=false:=rfl;simp only[this,Bool.false_and,Bool.false_eq_true,if_false];rfl
def qAC{r x:Int}(h:0<=r/\r<16777216)(u:0<=x/\x<256):bits .or .u32 (wrap .u32 (r*2^8)) (wrap .u32 x)=r*256+x:=by rw[pA x oJ,pA (r*2^8) oJ];obtain⟨a,rfl⟩:∃a:Nat,r=a:=⟨r.toNat,oJ⟩;obtain⟨b,rfl⟩:∃b:Nat,x=b:=⟨x.toNat,oJ⟩;have e1:((a:Int)*2^8)=((2^8*a:Nat):Int):=oJ;rw[e1];show wrap .u32 ((BitVec.ofInt 32 ((2^8*a:Nat):Int)||| BitVec.ofInt 32 (b:Int)).toNat:Nat)=_;rw[BitVec.toNat_or,BitVec.ofInt_natCast,BitVec.ofInt_natCast,BitVec.toNat_ofNat,BitVec.toNat_ofNat,Nat.mod_eq_of_lt (show 2^8*a<2^32 by omega),Nat.mod_eq_of_lt (show b<2^32 by omega),<- Nat.two_pow_add_eq_or_of_lt (show b<2^8 by omega)];rw[pA _ oJ];omega
def pj (l:IT):Int:=l.foldl (λr x=>r*256+x) 0
def Dj:∀ {l:IT},eX l->l.length<=4->iI l=pj l:=by
 have key:∀(l:IT) (r:Int) (k:Nat),eX l->l.length<=k->k<=4->0<=r->r<256^(4-k)->
   l.foldl (λr x=>bits .or .u32 (wrap .u32 (r*2^8)) (wrap .u32 x)) r=l.foldl (λr x=>r*256+x) r:=by
  intro l;induction l with
  | nil=>intros;rfl
  | cons x l ih=>
   intro r k u h E I G;have J:=u x oL;simp only[yI] at h;have R:r<16777216:=by
    have:(256:Int)^(4-k)<=256^3:=by
     have:(4-k)<=3:=oJ;match k,E,h with
     | 1,_,_=>decide
     | 2,_,_=>decide
     | 3,_,_=>decide
     | 4,_,_=>decide
    have e:(256:Int)^3=16777216:=oM;omega
   rw[foldl_cons,foldl_cons,qAC ⟨I,R⟩ J];match k,E,h,G with
   | k+1,E,h,G=>
    refine ih _ k (λy U=>u y (zN _ U)) oJ oJ oJ ?_;have e:4-k=(4-(k+1))+1:=oJ;rw[e,Int.pow_succ];omega
 intro l u h;exact key l 0 4 u h oM oM oM
def Ao(h:0<=n)(j:Nat)(u:j<=3):gS n j=n / 256^j%256:=by
 unfold gS;rw[A7,Int.fdiv_eq_ediv_of_nonneg _ (by exact Int.pow_nonneg oM)];match j,u with
 | 0,_=>rfl
 | 1,_=>rfl
 | 2,_=>rfl
 | 3,_=>rfl
def Cr(h:0<=n):be n 4=[n / 16777216%256,n / 65536%256,n / 256%256,n%256]:=by have e:be n 4=[gS n 3,gS n 2,gS n 1,gS n 0]:=rfl;rw[e,Ao h 3 oM,Ao h 2 oM,Ao h 1 oM,Ao h 0 oM];simp
def be2(h:0<=n):be n 2=[n / 256%256,n%256]:=by have e:be n 2=[gS n 1,gS n 0]:=rfl;rw[e,Ao h 1 oM,Ao h 0 oM];simp
def tL(n:Int)(k:Nat):eX (be n k):=by intro x h;obtain⟨i,_,rfl⟩:=mem_map.1 h;unfold gS;rw[A7];omega
def Ga(h:0<=n/\n<4294967296):iI (be n 4)=n:=by rw[Dj (tL _ _) (by rw[kR];exact zM _),Cr h.1];show (((0*256+_)*256+_)*256+_)*256+_=n;omega
def qrN(h:0<=n/\n<65536):iI (be n 2)=n:=by rw[Dj (tL _ _) (by rw[kR];decide),be2 h.1];show (0*256+_)*256+_=n;omega
def qvN(l:IT):0<=oZ l/\oZ l<4294967296:=by unfold oZ uD;exact Dt _ _ _
def eX.append(h:eX a)(k:eX b):eX (a++b):=λx E=>by rcases zD.1 E with u|u;exact h x u;exact k x u
def eX.zs(n:Nat):eX (zs n):=λx h=>by
 have:=eq_of_mem_replicate h;omega
def eX.one{x:Int}(h:0<=x/\x<256):eX [x]:=λy u=>by simp at u;subst u;exact h
def qxh{kind:Int}(h:0<=kind/\kind<256)(u:eX body):eX (ls number kind body):=
 (((((tL _ _).append (.one h)).append (tL _ _)).append (.one oM)).append u).append (.zs _)
def Ey{kind:Int}(h:0<=kind/\kind<256)(u:eX body):eX (eU number kind body):=(tL _ _).append (qxh h u)
def Hq{kind:Int}(J:0<=number/\number<4294967296)(R:body.length<=500):fx number (eU number kind body)=(kind,body,0):=by
 have u:wrap .u32 (body.length:Int)=(body.length:Int):=pA _ oJ;have e0:eU number kind body=be (oZ (ls number kind body)) 4++(be number 4++([kind]++(be body.length 2++([0]++(body++zs (500-body.length)))))):=by
  rw[eU];conv=>lhs;rhs;rw[ls]
  rw[u];simp only[zV]
 have l4:=kR (oZ (ls number kind body)) 4;have e1:(eU number kind body).take 4=be (oZ (ls number kind body)) 4:=(by rw[eU,Ir (by rw[kR];exact zM _),zS (by rw[kR];exact zM _)]);have U:(eU number kind body).drop 4=ls number kind body:=(by rw[eU,Ix (by rw[kR];exact zM _),Iw (by rw[kR];exact zM _),xJ]);have I:∀n,∃a b c d,be n 4=[a,b,c,d]:=λn=>⟨_,_,_,_,rfl⟩;have V:∀n,∃a b,be n 2=[a,b]:=λn=>⟨_,_,rfl⟩;obtain⟨a0,a1,a2,a3,ha⟩:=I (oZ (ls number kind body));obtain⟨n0,n1,n2,n3,E⟩:=I number;obtain⟨l0,l1,G⟩:=V body.length;have h:eU number kind body=a0::a1::a2::a3::n0::n1::n2::n3::kind::l0::l1::0::(body++zs (500-body.length)):=by rw[e0,ha,E,G];rfl
 have g1:iI ((eU number kind body).take 4)=oZ ((eU number kind body).drop 4):=(by rw[e1,U,Ga (qvN _)]);have g2:iI (((eU number kind body).take 8).drop 4)=number:=(by have:((eU number kind body).take 8).drop 4=be number 4:=(by rw[h,E];rfl);rw[this,Ga J]);have g3:iI (((eU number kind body).take 11).drop 9)=body.length:=(by have:((eU number kind body).take 11).drop 9=be body.length 2:=(by rw[h,G];rfl);rw[this,qrN oJ]);have g4:(eU number kind body).getD 11 0=0:=(by rw[h];rfl);have g5:(eU number kind body).getD 8 0=kind:=(by rw[h];rfl);have g6:(eU number kind body).drop (12+body.length)=zs (500-body.length):=(by rw[h,Nat.add_comm];show (body++zs (500-body.length)).drop body.length=_;rw[Ix (zM _),drop_length,xJ]);have g7:((eU number kind body).take (12+body.length)).drop 12=body:=(by rw[h,Nat.add_comm];show (body++zs (500-body.length)).take body.length=_;rw[Ir (zM _),vA]);rw[fx,iN (by rw[xw R];simp),iN (by rw[g1];simp),iN (by rw[g2];simp),g3,g4,iN oO,zJ,g6,if_neg,g5,g7];rintro⟨x,hx,h0⟩;exact h0 (eq_of_mem_replicate hx)
def cmpL:IT->IT->Int
 | [],[]=>0
 | [],_::_=>-1
 | _::_,[]=>1
 | a::r,b::s=>if a<b then -1 else if b<a then 1 else cmpL r s
abbrev fT (a b:IT):Prop:=cmpL a b<0
def Fh:∀a b:IT,cmpL a b=-1\/cmpL a b=0\/cmpL a b=1
 | [],[]=>.inr (.inl rfl)
 | [],_::_=>.inl rfl
 | _::_,[]=>.inr (.inr rfl)
 | a::r,b::s=>by rw[cmpL];split;exact .inl rfl;split;exact .inr (.inr rfl);exact Fh r s
def FR:∀a:IT,cmpL a a=0
 | []=>rfl
 | a::r=>by rw[cmpL,iN,iN];exact FR r
def DL:∀ {a b:IT},cmpL a b=0->a=b
 | [],[],_=>rfl
 | [],_::_,h=>by simp[cmpL] at h
 | _::_,[],h=>by simp[cmpL] at h
 | a::r,b::s,h=>by rw[cmpL] at h;split at h;cases h;split at h;cases h;rw[DL h,show a=b by omega]
def ug:∀a b:IT,cmpL b a =-cmpL a b
 | [],[]=>rfl
 | [],_::_=>rfl
 | _::_,[]=>rfl
 | a::r,b::s=>by rw[cmpL,cmpL];by_cases h1:a<b;rw[iN (show ¬b<a by omega),iP h1,iP h1];rfl;by_cases h2:b<a;rw[iP h2,iN h1,iP h2];rw[iN h2,iN h1,iN h1,iN h2];exact ug r s
def rQ:¬fT a a:=by unfold fT;rw[FR];decide
def qc:∀ {a b c:IT},fT a b->fT b c->fT a c
 | [],[],_,h,_=>by simp[fT,cmpL] at h
 | [],_::_,[],_,h=>by simp[fT,cmpL] at h
 | [],_::_,_::_,_,_=>by simp[fT,cmpL]
 | _::_,[],_,h,_=>by simp[fT,cmpL] at h
 | _::_,_::_,[],_,h=>by simp[fT,cmpL] at h
 | a::r,b::s,c::t,h,g=>by unfold fT at h g⊢;rw[cmpL] at h g⊢;by_cases h1:a<b;by_cases g1:b<c;rw[iP];decide;rw[iN g1] at g;by_cases g2:c<b;rw[iP g2] at g;omega;rw[iP];decide;rw[iN h1] at h;by_cases h2:b<a;rw[iP h2] at h;omega;rw[iN h2] at h;by_cases g1:b<c;rw[iP];decide;rw[iN g1] at g;by_cases g2:c<b;rw[iP g2] at g;omega;rw[iN g2] at g;rw[iN,iN];exact qc (a:=r) (b:=s) (c:=t) h g
def tj(h:fT a b):¬fT b a:=λg=>rQ (qc h g)
def AE(h:fT a b):a≠b:=λe=>by rw[e] at h;exact rQ h
def qwN(a b:IT):fT a b\/a=b\/fT b a:=by rcases Fh a b with h|h|h;exact .inl (by unfold fT;omega);exact .inr (.inl (DL h));refine .inr (.inr ?_);unfold fT;rw[ug];omega
def BM:¬fT a b↔a=b\/fT b a:=by constructor;intro h;rcases qwN a b with u|u|u;exact absurd u h;exact .inl u;exact .inr u;rintro (rfl|h);exact rQ;exact tj h
abbrev mr (a b:IT):Prop:=¬fT b a
def Bp{c:IT}(h:mr a b)(g:fT b c):fT a c:=by rcases BM.1 h with u|u;rw[<- u];exact g;exact qc u g
def sq{c:IT}(h:fT a b)(g:mr b c):fT a c:=by rcases BM.1 g with u|u;rw[u];exact h;exact qc h u
def Ad{c:IT}(h:mr a b)(g:mr b c):mr a c:=λk=>by rcases BM.1 h with u|u;subst u;exact g k;exact g (qc k u)
abbrev Key:=IT
variable {k:Key}
abbrev gr:=List (List Int×List Int)
variable {l:gr}
def ed (l:List Key) (k:Key):Nat:=(l.takeWhile λa=>decide (fT a k)).length
def eP (l:List Key) (k:Key):Nat:=(l.takeWhile λa=>decide (mr a k)).length
def fY (l:List Key):Prop:=l.Pairwise fT
def qgh{α:Type}(p:α->Bool)(l:List α):(l.takeWhile p).length<=l.length:=(takeWhile_sublist p).length_le
def FL(l:List Key)(k:Key):ed l k<=l.length:=qgh _ l
def AL(l:List Key)(k:Key):eP l k<=l.length:=qgh _ l
def Hc{α:Type}(p:α->Bool):∀l:List α,l.take (l.takeWhile p).length=l.takeWhile p
 | []=>rfl
 | a::r=>by
  rw[takeWhile_cons];cases h:p a with
  | true=>simp[Hc p r]
  | false=>simp
def FW{α:Type}{p:α->Bool}:∀ {l:List α} {x:α},x∈l.takeWhile p->p x=true
 | a::r,x,h=>by
  rw[takeWhile_cons] at h;cases u:p a with
  | true=>
   rw[u] at h;rcases zG.1 h with rfl|h;exact u;exact FW h
  | false=>rw[u] at h;cases h
def HT{α:Type}{p:α->Bool}:∀ {l:List α} {x:α} {r:List α},l.drop (l.takeWhile p).length=x::r->p x=false
 | a::s,x,r,h=>by
  rw[takeWhile_cons] at h;cases u:p a with
  | true=>
   rw[u] at h;exact HT (l:=s) (oP h)
  | false=>
   rw[u] at h;simp at h;rw[<- h.1];exact u
def qsg{l:List Key}{a:Key}(h:a∈l.take (ed l k)):fT a k:=by unfold ed at h;rw[Hc] at h;exact zC (p:=fT a k) (FW (p:=λa=>decide (fT a k)) h)
def qnK{l:List Key}{a:Key}(h:a∈l.take (eP l k)):mr a k:=by unfold eP at h;rw[Hc] at h;exact zC (p:=mr a k) (FW (p:=λa=>decide (mr a k)) h)
def xm{x:Key}{r:List Key}(h:fY (x::r)):∀a∈r,fT x a:=(yJ.1 h).1
def fY.drop{l:List Key}(h:fY l)(n:Nat):fY (l.drop n):=List.Pairwise.sublist (drop_sublist n l) h
def fY.take{l:List Key}(h:fY l)(n:Nat):fY (l.take n):=List.Pairwise.sublist (take_sublist n l) h
def qqN{l:List Key}{a:Key}(G:fY l)(h:a∈l.drop (ed l k)):mr k a:=by
 have u:=G.drop (ed l k);cases e:l.drop (ed l k) with
 | nil=>rw[e] at h;cases h
 | cons x r=>
  have E:mr k x:=zB (HT (p:=λa=>decide (fT a k)) e);rw[e] at h u;rcases zG.1 h with rfl|h;exact E;exact Ad E (tj (xm u a h))
def ql0{l:List Key}{a:Key}(G:fY l)(h:a∈l.drop (eP l k)):fT k a:=by
 have u:=G.drop (eP l k);cases e:l.drop (eP l k) with
 | nil=>rw[e] at h;cases h
 | cons x r=>
  have E:fT k x:=Classical.not_not.1 (zB (HT (p:=λa=>decide (mr a k)) e));rw[e] at h u;rcases zG.1 h with rfl|h;exact E;exact qc E (xm u a h)
def gf (k v:Key):gr->gr
 | []=>[(k,v)]
 | x::r=>if fT k x.1 then (k,v)::x::r else if k=x.1 then (k,v)::r else x::gf k v r
def gL (k:Key) (l:gr):gr:=l.filter λx=>decide (x.1≠k)
abbrev eh (l:gr):List Key:=l.map (·.1)
def fD (l:gr):Prop:=fY (eh l)
def BZ{k v:Key}:∀ {a:gr} {l:gr},(∀x∈a,fT x.1 k)->gf k v (a++l)=a++gf k v l
 | [],l,_=>rfl
 | x::a,l,h=>by have u:=h x oL;rw[xK,gf,iN (tj u),iN λe=>AE u e.symm,BZ λy E=>h y (zN _ E),xK]
def qlW{k v:Key}{b:gr}(h:∀x∈b,fT k x.1):∀l:gr,gf k v (l++b)=gf k v l++b
 | []=>by
  cases b with
  | nil=>rfl
  | cons x r=>
   show gf k v (x::r)=(k,v)::x::r;rw[gf,iP (h x oL)]
 | x::l=>by rw[xK,gf,gf];split;rfl;split;rfl;rw[qlW h l,xK]
def GL{v w:Key}{a r:gr}(h:∀x∈a,fT x.1 k):gf k v (a++(k,w)::r)=a++(k,v)::r:=by rw[BZ h,gf,iN rQ,iP rfl]
def qwF{v:Key}{a b:gr}(h:∀x∈a,fT x.1 k)(u:∀x∈b,fT k x.1):gf k v (a++b)=a++(k,v)::b:=by
 rw[BZ h];cases b with
 | nil=>rfl
 | cons x r=>rw[gf,iP (u x oL)]
def CL{k v:Key}{x:Key×Key}:∀ {l:gr},x∈gf k v l->x=(k,v)\/x∈l
 | [],h=>.inl (by simpa[gf] using h)
 | y::l,h=>by rw[gf] at h;split at h;rcases zG.1 h with h|h;exact .inl h;exact .inr h;split at h;rcases zG.1 h with h|h;exact .inl h;exact .inr (zN _ h);rcases zG.1 h with h|h;exact .inr (by rw[h];simp);rcases CL h with h|h;exact .inl h;exact .inr (zN _ h)
def C6{k v:Key}:∀ {l:gr},fD l->fD (gf k v l)
 | [],_=>pairwise_singleton _ _
 | x::l,h=>by have E:=yJ.1 (show (x.1::eh l).Pairwise fT from h);rw[gf];split;rename_i G;refine yJ.2 ⟨λa u=>?_,h⟩;rcases zG.1 u with rfl|u;exact G;exact qc G (E.1 a u);split;rename_i G;refine yJ.2 ⟨λa u=>?_,E.2⟩;show fT k a;rw[G];exact E.1 a u;rename_i I J;refine yJ.2 ⟨λa u=>?_,C6 E.2⟩;obtain⟨y,R,rfl⟩:=mem_map.1 u;rcases CL R with rfl|R;rcases BM.1 I with e|e;exact absurd e J;exact e;exact E.1 _ (zY R)
def C4{k v:Key}:∀ {l:gr},k∉eh l->(gf k v l).length=l.length+1
 | [],_=>rfl
 | x::l,h=>by rw[gf];split;rfl;split;rename_i e;exact absurd (by rw[e];simp) h;rw[yI,C4 λu=>h (zN _ u),yI]
def EB{k v:Key}:∀ {l:gr},fD l->k∈eh l->(gf k v l).length=l.length
 | x::l,G,h=>by have E:=yJ.1 (show (x.1::eh l).Pairwise fT from G);rw[gf];split;rename_i u;rcases zG.1 h with e|e;rw[e] at u;exact absurd u rQ;exact absurd u (tj (E.1 k e));split;rfl;rename_i u;rcases zG.1 h with e|e;exact absurd e u;rw[yI,EB E.2 e,yI]
def qno{a:gr}(h:∀x∈a,fT x.1 k):gL k (a++l)=a++gL k l:=by unfold gL;rw[xC,filter_eq_self.2];intro x u;exact zZ (AE (h x u))
def qlN{b:gr}(h:∀x∈b,fT k x.1):gL k (l++b)=gL k l++b:=by unfold gL;rw[xC];congr 1;rw[filter_eq_self];intro x u;exact zZ λe=>AE (h x u) e.symm
def qx5{w:Key}{a b:gr}(h:∀x∈a,fT x.1 k)(u:∀x∈b,fT k x.1):gL k (a++(k,w)::b)=a++b:=by rw[qno h,show (k,w)::b=[(k,w)]++b from rfl,qlN u];unfold gL;simp
def qpA(h:fD l):fD (gL k l):=List.Pairwise.sublist (List.Sublist.map _ filter_sublist) h
def HD{x:Key×Key}:x∈gL k l↔x∈l/\x.1≠k:=by unfold gL;rw[IG];simp
def fD.tZ{a b:gr}:fD (a++b)↔fD a/\fD b/\∀x∈a,∀y∈b,fT x.1 y.1:=by unfold fD fY eh;rw[xO,pairwise_append];constructor;rintro⟨h,u,E⟩;exact⟨h,u,λx G y I=>E _ (zY G) _ (zY I)⟩;rintro⟨h,u,E⟩;refine⟨h,u,λa J b R=>?_⟩;obtain⟨x,G,rfl⟩:=mem_map.1 J;obtain⟨y,I,rfl⟩:=mem_map.1 R;exact E x G y I
def AD(u:fD l):(∀x∈l.take (ed (eh l) k),fT x.1 k)/\∀x∈l.drop (ed (eh l) k),mr k x.1:=by refine⟨λx h=>qsg (l:=eh l) ?_,λx h=>qqN (l:=eh l) u ?_⟩;rw[<- xQ];exact zY h;rw[<- xR];exact zY h
def qva{v:Key}(V:fD l):gf k v l=if (eh l)[ed (eh l) k]?=some k then l.set (ed (eh l) k) (k,v) else l.take (ed (eh l) k)++[(k,v)]++l.drop (ed (eh l) k):=by
 obtain⟨G,h2⟩:=AD (k:=k) V;have I:fD (l.drop (ed (eh l) k)):=(by unfold fD eh;rw[xR];exact fY.drop V _);generalize hi:ed (eh l) k=i at G h2 I;have J:l=l.take i++l.drop i:=(xF i l).symm;cases e:l.drop i with
 | nil=>
  have hn:l.length<=i:=drop_eq_nil_iff.1 e;rw[iN (by rw[yS (by rw[zK];exact hn)];simp)];conv=>lhs;rw[J,e]
  rw[BZ G];simp[gf]
 | cons x r=>
  have hx:=h2 x (by rw[e];simp);have u:i<l.length:=by rcases Nat.lt_or_ge i l.length with h|h;exact h;rw[vF h] at e;cases e
  have hg:l[i]=x:=by
   have:=zX u;rw[e] at this;exact (vD this).1.symm
  have hr:l.drop (i+1)=r:=by
   have:=zX u;rw[e] at this;exact (vD this).2.symm
  have R:(eh l)[i]?=some x.1:=(by rw[zQ,zA u,hg];rfl);rw[R];by_cases hk:x.1=k
  ·rw[iP (by rw[hk])];conv=>lhs;rw[J,e]
   obtain⟨a,w⟩:=x;dsimp only at hk;subst hk;rw[GL G,set_eq_take_append_cons_drop,iP u,hr]
  ·rw[iN λh=>hk (yO h)];have E:fT k x.1:=by rcases BM.1 hx with h|h;exact absurd h hk;exact h
   conv=>lhs;rw[J,e]
   rw[qwF G];simp;intro y U;rcases zG.1 U with rfl|U;exact E;rw[e] at I;exact qc E (xm (x:=x.1) (r:=eh r) I y.1 (zY U))
def zq(G:fD l):(eh l)[ed (eh l) k]?=some k↔k∈eh l:=by
 constructor;exact λh=>yF h;intro R;obtain⟨U,V⟩:=AD (k:=k) G;obtain⟨x,E,rfl⟩:=mem_map.1 R;have u:x∈l.drop (ed (eh l) x.1):=by rw[<- xF (ed (eh l) x.1) l,zD] at E;rcases E with E|E;exact absurd (U x E) rQ;exact E
 have I:fD (l.drop (ed (eh l) x.1)):=(by unfold fD eh;rw[xR];exact fY.drop G _);cases e:l.drop (ed (eh l) x.1) with
 | nil=>rw[e] at u;cases u
 | cons y r=>
  have hy:=V y (by rw[e];simp);rw[e] at u I;have he:y.1=x.1:=by rcases zG.1 u with rfl|u;rfl;exact absurd (xm (x:=y.1) (r:=eh r) I x.1 (zY u)) hy
  have J:(l.drop (ed (eh l) x.1))[0]?=some y:=(by rw[e];rfl);rw[xA] at J;rw[zQ,show l[ed (eh l) x.1]?=some y by simpa using J,<- he];rfl
def qnp(E:fD l)(R:k∈eh l):gL k l=l.take (ed (eh l) k)++l.drop (ed (eh l) k+1):=by
 have u:=(zq E).2 R;obtain⟨J,U⟩:=AD (k:=k) E;generalize ed (eh l) k=i at J U u;have h:i<l.length:=by
  have:=(zP.1 u).1;simpa using this
 have V:l=l.take i++l[i]::l.drop (i+1):=(by rw[<- zX h,xF]);have G:l[i].1=k:=(by rw[zQ,zA h] at u;exact yO u);have I:fD (l.drop i):=(by unfold fD eh;rw[xR];exact fY.drop E _);rw[zX h] at I;conv=>lhs;rw[V]
 obtain⟨a,w,e⟩:∃a w,l[i]=(a,w):=⟨_,_,rfl⟩;rw[e] at G I⊢;dsimp only at G;subst G;exact qx5 J λy hy=>xm (x:=a) (r:=eh (l.drop (i+1))) I y.1 (zY hy)
def si (t:Int):IV:=
 if t=0 then (16,88) else if t=1 then (16,108) else if t=2 then (16,1) else if t=3 then (16,16)
 else if t=4 then (24,16) else if t=5 then (24,16) else if t=6 then (24,65) else if t=7 then (1,8) else (0,0)
def qxo(t:Int):t=0\/t=1\/t=2\/t=3\/t=4\/t=5\/t=6\/t=7\/(t≠0/\t≠1/\t≠2/\t≠3/\t≠4/\t≠5/\t≠6/\t≠7):=by omega
def qrd{t:Int}{w:IK}(h:K (si t) w):cW 74 [.i t] dr w K:=by apply qqQ;rcases qxo t with rfl|rfl|rfl|rfl|rfl|rfl|rfl|rfl|⟨u,E,G,I,J,R,U,V⟩<;>simpa[si, *] using h
def ud (k v:Int):IV:=if k<1\/k>24\/v<0\/v>108 then (0,0) else (498 / (k+v),(498+k) / (4+k))
def qyZ{k v:Int}{w:IK}(h:∀w',ol w w'->K (ud k v) w'):cW 122 [.i k,.i v] dr w K:=by
 apply qr5;by_cases hc:k<1\/k>24\/v<0\/v>108;refine uu true w (λM u=>?_) ?_;by_cases h1:k<1;simpa[h1] using u;by_cases h2:k>24;simpa[h1,h2] using u;by_cases h3:v<0;simpa[h1,h2,h3] using u;have E:v>108:=oJ;simpa[h1,h2,h3,E] using u;have:=h w (.refl w);simpa[ud,hc] using this;refine uu false w (λM u=>?_) ?_;simpa[show ¬k<1 by omega,show ¬k>24 by omega,show ¬v<0 by omega,show ¬v>108 by omega] using u;have:=h w.drew (ol.refl w).drew;simp only[ud,hc,if_false] at this;have e1:IntKind.i64.wrap (k+v)=k+v:=IntWalk.i64_in _ oJ;have G:IntKind.i64.wrap (4+k)=4+k:=IntWalk.i64_in _ oJ;have I:IntKind.i64.wrap (498+k)=498+k:=IntWalk.i64_in _ oJ;have U:0<k+v:=oJ;have V:0<4+k:=oJ;have J:(498:Int).tdiv (k+v)=498 / (k+v):=IA oJ;have R:(498+k).tdiv (4+k)=(498+k) / (4+k):=IA oJ;have b1:498 / (k+v)<=498:=Int.ediv_le_self _ oJ;have b2:(498+k) / (4+k)<=498+k:=Int.ediv_le_self _ oJ;have b3:0<=498 / (k+v):=Int.ediv_nonneg oJ oJ;have b4:0<=(498+k) / (4+k):=Int.ediv_nonneg oJ oJ;rw[e1,G,I,J,R,IntWalk.i64_in _ ⟨oJ,oJ⟩,IntWalk.i64_in _ ⟨oJ,oJ⟩];exact⟨oJ,oJ,this⟩
abbrev Be (t:Int):Prop:=0<=t/\t<=7
end
section
open Go Go.Pt List
open Go.IntKind (wrap)
attribute [local irreducible] ld dX jg oe jF fP st new idx jG jR fM jY jz mM iH nn call eJ inv run fG js join loop held ext kz eC nK nE nQ IntKind.wrap
variable {B F F1 F2 S X:IS} {K:Int->WP} {L:IW} {T:IM} {Z:List IL} {body c l t:IT} {cs:Array IL} {db:Option Addr} {defb fb mb pb r:Nat} {f:List (Int×IL)} {n q:Int} {s sl sn:Sl} {w w' w0:IK}
def eZ (n:Nat):Nat:=if n=0 then 0 else (n-1) / 124+1
def qq3{n:Nat}(G:n<=1000000)(h:K (eZ n) w):cW 141 [.i n] dm w K:=by
 refine qmF ?_;apply cD<;>intro u;have:=u;have E:n=0:=oJ;subst E;exact h;have:=u;have E:n≠0:=oJ;rw[eZ,iN E] at h;rw[gG ((n:Int)-1) oJ];have e:Int.tdiv ((n:Int)-1) 124=(((n-1) / 124:Nat):Int):=(by rw[IA oJ];omega);rw[e,gG (((n-1) / 124:Nat):Int) oJ,gG ((((n-1) / 124:Nat):Int)+1) oJ];exact h
def i8:Int->IT->Bool
 | _,[]=>true
 | a,x::r=>decide (a<x)&&i8 x r
def qst{K:Bool->WP}(h:Rd S w s l)(hl:l.length<=1000000)(I:K (i8 1 l) w): cW 206 [s.v] dp w K:=by
 refine qlq ?_;have U:=h.1;refine jv (λx w'=>w'=w/\∃i:Nat,x.2=i/\i<=l.length/\i8 x.1 (l.drop i)=i8 1 l) (λx _=>((l.length:Int)-x.2).toNat) ⟨rfl,0,rfl,oJ,oL⟩ ?_;rintro⟨a,ii⟩ w' ⟨rfl,i,G,hi,E⟩ X V;simp only at G E;subst G;apply cD<;>intro J;have u:i<l.length:=oJ;refine Rd.at h i rfl (zA u) ?_;rw[zX u,i8] at E;apply cD<;>intro R;have:=R;rw[show decide (a<l[i])=false by rw[IE];omega,Bool.false_and] at E;rw[<- E] at I;exact I;have:=R;rw[show decide (a<l[i])=true by rw[yN];omega,Bool.true_and] at E;rw[gG _ oJ];exact V _ _ ⟨rfl,i+1,oL,oJ,E⟩ oN;have u:i=l.length:=oJ;subst u;rw[drop_length] at E;rw[<- E] at I;exact I
def qzj(n:Int):gS n 0=wrap .u8 n:=by
 unfold gS;have:Int.fdiv n (2^min (8*0) 32)=n:=by show Int.fdiv n (2^0)=n;simp
 rw[this]
def qqg{K:Sl->WP}(h:gb w s l B)(hl:l.length<=1000000)(hk:∀E B' w',gb w' E (l++be n 4) B'->Fr B w w'->(∀b∈B',b∈B\/w.heap.size<=b)->K E w'): new (.cells #[.b (wrap .u8 (Int.fdiv n (2^24))),.b (wrap .u8 (Int.fdiv n (2^16))),.b (wrap .u8 (Int.fdiv n (2^8))),.b (wrap .u8 n)] 5) w λr w2=> Pt.run dl ((Builtin.append_ #[101,101] 101 #[s.v,.slice (pW r) 4 4]).run prog w2) λE w'=>K E w':=by obtain⟨i5,G,hz,I,J⟩:=wQ;refine oB (oE [] w) λr w1 e1 R ho=>?_;have U:be n 4=[gS n 3,gS n 2,gS n 1,gS n 0]:=rfl;have af:=R.size;refine fj.j4 (ys:=be n 4) (e:=5) (h.q8 R) lY oK G hz I rfl (.ofSlice _ (e':=5) oK _ 4 4 _ (by rw[sC];simp[kR]) (λj u hj=>?_) λu hu=>?_) (kR n 4).symm (by rw[J];omega) oJ λE B' w' g1 g2 g3 _=>?_;rw[Addr.j3,jC (ho.at (i:=0) rfl),xT];rw[sC,U,qzj] at hj;rw[List.getElem?_toArray];exact hj;rw[sC] at hu;obtain⟨x,_,rfl⟩:=mem_map.1 hu;rfl;refine hk E B' w' g1 ((R.mono λi G _=>by cases G).J0 g2 λb V=>.inl V) λb V=>?_;rcases g3 b V with h|h;exact .inl h;exact .inr oJ
def qtS{K:Sl->WP}(h:gb w s l B)(G:l.length<=1000000)(I:∀E B' w',gb w' E (l++be n 4) B'->Fr B w w'->(∀b∈B',b∈B\/w.heap.size<=b)->K E w'): cW 208 [s.v,.u n] dl w K:=by exact qnz<|qqg h G I
def Fl{A B:Int}(k:Nat)(I:0<=A)(E:A%2^k=0)(J:0<=B)(h:B<2^k)(R:A+B<4294967296):bits .or .u32 A B=A+B:=by
 obtain⟨a,rfl⟩:∃a:Nat,A=a:=⟨A.toNat,oJ⟩;obtain⟨b,rfl⟩:∃b:Nat,B=b:=⟨B.toNat,oJ⟩;have G:a%2^k=0:=by have:((a:Int)%((2^k:Nat):Int))=0:=(by rw[Int.natCast_pow];exact E);omega
 have u:b<2^k:=(by have:(b:Int)<((2^k:Nat):Int):=(by rw[Int.natCast_pow];exact h);omega);obtain⟨q,rfl⟩:∃q,a=2^k*q:=⟨a / 2^k,by have:=Nat.div_add_mod a (2^k);omega⟩;show wrap .u32 ((BitVec.ofInt 32 ((2^k*q:Nat):Int)||| BitVec.ofInt 32 (b:Int)).toNat:Nat)=_;rw[BitVec.toNat_or,BitVec.ofInt_natCast,BitVec.ofInt_natCast,BitVec.toNat_ofNat,BitVec.toNat_ofNat,Nat.mod_eq_of_lt (show 2^k*q<2^32 by omega),Nat.mod_eq_of_lt (show b<2^32 by omega),<- Nat.two_pow_add_eq_or_of_lt u];rw[pA _ oJ];omega
def pC (a b c d:Int):Int:=bits .or .u32 (bits .or .u32 (bits .or .u32 (wrap .u32 (wrap .u32 a*2^24)) (wrap .u32 (wrap .u32 b*2^16))) (wrap .u32 (wrap .u32 c*2^8))) (wrap .u32 d)
def qrL{a b c d:Int}(h:0<=a/\a<256)(u:0<=b/\b<256)(E:0<=c/\c<256)(G:0<=d/\d<256):pC a b c d=((a*256+b)*256+c)*256+d:=by unfold pC;rw[pA a oJ,pA b oJ,pA c oJ,pA d oJ,pA (a*2^24) oJ,pA (b*2^16) oJ,pA (c*2^8) oJ];rw[Fl (A:=a*2^24) (B:=b*2^16) 24 oJ oJ oJ oJ oJ];rw[Fl (B:=c*2^8) 16 oJ oJ oJ oJ oJ];rw[Fl (B:=d) 8 oJ oJ oJ oJ oJ];omega
def qxX(h:0<=n/\n<4294967296):pC (n / 16777216%256) (n / 65536%256) (n / 256%256) (n%256)=n:=by rw[qrL oJ oJ oJ oJ];omega
def fL (l:IT):Int:=pC (l.getD 0 0) (l.getD 1 0) (l.getD 2 0) (l.getD 3 0)
def getD_some{n:Nat}(h:n<l.length):l[n]?=some (l.getD n 0):=by rw[yR,zA h];rfl
def qww(h:eN S w s l)(R:4<=l.length)(u:K (fL l) w): (idx s 0 1 λa=>ld .b a w λE=>idx s 1 1 λa=>ld .b a w λG=>idx s 2 1 λa=>ld .b a w λI=>idx s 3 1 λa=>ld .b a w λJ=>K (pC E G I J) w):=by exact eN.at h 0 rfl (getD_some oJ)<|eN.at h 1 rfl (getD_some oJ)<|eN.at h 2 rfl (getD_some oJ)<|eN.at h 3 rfl (getD_some oJ)<|u
def qtR(h:eN S w s l)(E:4<=l.length)(G:K (fL l) w.drew):cW 211 [s.v] dy w K:=by exact qny<|qww (w:=w.drew) h E G
def qsb{A B:Int}(k:Nat)(I:0<=A)(E:A%2^k=0)(J:0<=B)(h:B<2^k)(R:A+B<4294967296):bits .or .i64 A B=A+B:=by
 obtain⟨a,rfl⟩:∃a:Nat,A=a:=⟨A.toNat,oJ⟩;obtain⟨b,rfl⟩:∃b:Nat,B=b:=⟨B.toNat,oJ⟩;have G:a%2^k=0:=by have:((a:Int)%((2^k:Nat):Int))=0:=(by rw[Int.natCast_pow];exact E);omega
 have u:b<2^k:=(by have:(b:Int)<((2^k:Nat):Int):=(by rw[Int.natCast_pow];exact h);omega);obtain⟨q,rfl⟩:∃q,a=2^k*q:=⟨a / 2^k,by have:=Nat.div_add_mod a (2^k);omega⟩;show wrap .i64 ((BitVec.ofInt 64 ((2^k*q:Nat):Int)||| BitVec.ofInt 64 (b:Int)).toNat:Nat)=_;rw[BitVec.toNat_or,BitVec.ofInt_natCast,BitVec.ofInt_natCast,BitVec.toNat_ofNat,BitVec.toNat_ofNat,Nat.mod_eq_of_lt (show 2^k*q<2^64 by omega),Nat.mod_eq_of_lt (show b<2^64 by omega),<- Nat.two_pow_add_eq_or_of_lt u];rw[gG _ oJ];omega
def lc (l:IT):Int:=l.getD 4 0*256+l.getD 5 0
def kL (l:IT) (n:Nat):IT:=(List.range n).map λi=>fL (l.drop (6+4*i))
def iM (l:IT):Int×List Int×Int:=
 if l.length<6 then (0,[],2) else
 if fL l=1\/lc l>123\/(l.length:Int)≠6+4*lc l then (0,[],2) else
 if i8 1 (kL l (lc l).toNat) then (fL l,kL l (lc l).toNat,0) else (0,[],2)
def qvT{K:I4->WP}(h:eN S w s l)(hB:eX l)(hl:l.length<=100000)(hk:∀s' B w',lO w' s' (iM l).2.1 B->Fr [] w w'->(∀b∈B,w.heap.size<=b)->K ((iM l).1,s',(iM l).2.2) w'): cW 175 [s.v] dR w K:=by
 refine qlo ?_;have J:=h.1;have U:∀ {e:Int} {w':IK},iM l=(0,[],e)->Fr [] w w'->K (0,dT,e) w':=by
  intro e w' he hf;have:=hk dT [] w' (by rw[he];exact .nil _ _ _) hf oL;rw[he] at this;exact this
 apply eB<;>intro E;have:=zC E;exact U (by rw[iM,iP]) (.refl _ _);have h6:¬l.length<6:=(by have:=zB E;omega);have fd:Fr [] w w.drew:=(Fr.refl _ _).drew;have G:Fr [] w w.drew.drew:=fd.drew;obtain⟨_,b4,o4,al,aL,am,T4,aM,ab,an⟩:=eI.at h 4 (getD_some (l:=l) (n:=4) oJ);obtain⟨_,b5,o5,ao,aN,ap,T5,aO,ac,aq⟩:=eI.at h 5 (getD_some (l:=l) (n:=5) oJ);have g4:am[o4+4]?=some (.b (l.getD 4 0)):=(by have:=IH (·[0]?) an;simpa using this);have g5:ap[o5+5]?=some (.b (l.getD 5 0)):=(by have:=IH (·[0]?) aq;simpa using this);have c4:∀ {w':IK},Fr [] w w'->w'.cell? ⟨b4,o4+Int.toNat 4*1,none⟩=some (.b (l.getD 4 0)):=λf=>by rw[jC (by rw[f.block b4 (eO ab) oL];exact ab)];exact g4
 have c5:∀ {w':IK},Fr [] w w'->w'.cell? ⟨b5,o5+Int.toNat 5*1,none⟩=some (.b (l.getD 5 0)):=λf=>by rw[jC (by rw[f.block b5 (eO ac) oL];exact ac)];exact g5
 refine qM al ⟨oJ,oJ⟩<|oX (l.getD 4 0) (c4 fd)<|qM ao ⟨oJ,oJ⟩<|oX (l.getD 5 0) (c5 fd)<|qtR (w:=w.drew) (S:=S) h oJ<|kV (c5 G) (c4 G) ?_;have r4:0<=l.getD 4 0/\l.getD 4 0<256:=hB _ (yF (getD_some (l:=l) (n:=4) oJ));have r5:0<=l.getD 5 0/\l.getD 5 0<256:=hB _ (yF (getD_some (l:=l) (n:=5) oJ));have ad:bits .or .i64 (wrap .i64 (wrap .i64 (l.getD 4 0)*2^8)) (wrap .i64 (l.getD 5 0))=lc l:=by rw[gG (l.getD 4 0) oJ,gG (l.getD 5 0) oJ,gG (l.getD 4 0*2^8) oJ,qsb 8 oJ oJ oJ oJ oJ];rfl
 have aI:0<=lc l/\lc l<65536:=(by unfold lc;omega);rw[ad];refine iC (λb w'=>b=decide (fL l=1\/lc l>123\/(l.length:Int)≠6+4*lc l)/\w'=w.drew.drew) ?_ ?_;apply eB<;>intro E;exact⟨by rw[zZ (Or.inl (oP E))],rfl⟩;have ar:¬fL l=1:=(oP E);apply cD<;>intro V;exact⟨by rw[zZ (Or.inr (Or.inl (V)))],rfl⟩;have ae:¬lc l>123:=V;refine⟨?_,rfl⟩;rw[gG (4*lc l) oJ,gG (6+4*lc l) oJ,J];by_cases h3:(l.length:Int)=6+4*lc l<;>simp[ar,ae,h3];rintro b w1 ⟨rfl,rfl⟩;refine eB (λE=>U (by rw[iM,iN h6,iP (zC E)]) G) λE=>?_;have aa:=zB E;have af:lc l<=123:=by rcases Int.lt_or_le 123 (lc l) with h|h;exact absurd (Or.inr (Or.inl h)) aa;exact h
 have au:(l.length:Int)=6+4*lc l:=Classical.byContradiction λh=>aa (Or.inr (Or.inr h));have pv:iM l=if i8 1 (kL l (lc l).toNat) then (fL l,kL l (lc l).toNat,0) else (0,[],2):=by rw[iM,iN h6,iN aa]
 obtain⟨n,hn⟩:∃n:Nat,lc l=n:=⟨(lc l).toNat,oJ⟩;rw[hn] at af au pv⊢;rw[zJ] at pv;refine jv (λx w'=>∃(i:Nat) (B:IS),x.2=i/\i<=n/\lO w' x.1 (kL l i) B/\Fr [] w w'/\∀b∈B,w.heap.size<=b) (λx _=>((n:Int)-x.2).toNat)
  ⟨0,[],rfl,oJ,.nil _ _ _,G,oL⟩ ?_
 rintro⟨s1,ii⟩ w2 ⟨i,B,ag,hi,R,f2,n2⟩ X hX;simp only at ag R;subst ag;apply cD<;>intro E;have ah:i<n:=oJ;rw[gG (4*(i:Int)) oJ,gG (6+4*(i:Int)) oJ];have h2:eN S w2 s l:=h.q8 f2;refine eI.part h2 (6+4*i) l.length oL (by rw[J];rfl) oJ oJ λs3 l3 r3 _=>?_;rw[vA] at r3;refine qtR r3 (by rw[yB];omega) ?_;have ai:Fr [] w w2.drew:=f2.drew;refine H5 (w:=w2.drew) (B:=B) R (by simp[kL];omega) λs4 B4 w4 g1 g2 g3=>?_;rw[gG _ oJ];have a0:=ai.size;refine hX _ _ ⟨i+1,B4,oL,oJ,?_,ai.J0 g2 λb R=>.inr (n2 b R),λb R=>?_⟩ oN;have:kL l (i+1)=kL l i++[fL (l.drop (6+4*i))]:=(by simp[kL,range_succ]);rw[this];exact g1;rcases g3 b R with h|h;exact n2 b h;omega;have ah:i=n:=oJ;subst ah;refine qst (S:=[]) (R.jQ rM oL) (by simp[kL];omega) ?_;apply eB<;>intro hr;have I:¬i8 1 (kL l i)=true:=(oP hr);exact U (by rw[pv,iN I]) f2;have I:i8 1 (kL l i)=true:=by simpa using hr
 have:=hk s1 B w2 (by rw[pv,iP I];exact R) f2 n2;rw[pv,iP I] at this;exact this
def ue:Sl->List IL:=λs=>[s.v]
def qrz:∀x,(ue x).length=1:=λ_=>rfl
def qAS:∃i,prog.info? 101=some i/\i.zero=some (.slice none 0 0)/\i.size=1/\i.bytes=24:=tB oK
def jT (S:IS) (w:IK) (s:Sl) (u:List (IT)) (B:IS):Prop:=
 ∃h:List Sl,fj ue 1 w s h B/\h.length=u.length/\∀(i:Nat) sl l,h[i]?=some sl->u[i]?=some l->eN (S++B) w sl l
def jT.nil(S:IS)(w:IK):jT S w dT [] []:=⟨[],.nil _ _ _,rfl,λi sl l h=>by simp at h⟩
def jT.j1{S S':IS}{w w':IK}{s:Sl}{I:List (IT)}{B:IS}(h:jT S w s I B)(f:Fr S w w')(J:∀b∈B,b∉S)(E:∀b∈S',b∈S\/w.heap.size<=b):jT S' w' s I B:=by obtain⟨G,R,U,V⟩:=h;refine⟨G,R.j1 f J,U,λi sl l hi hl=>(V i sl l hi hl).j1 (f.mono λb u _=>zH _ u) λb u=>?_⟩;rcases zD.1 u with u|u;rcases E b u with h|h;exact .inl (zH _ h);exact .inr h;exact .inl (zI _ u)
def jT.push{S:IS}{w:IK}{s sl:Sl}{R:List (IT)}{B:IS}{l:IT}{T:IM}{K:Sl->WP}(h:jT S w s R B)(hr:eN (S++B) w sl l)(hl:R.length<=1000000)(kk:∀J B' w',jT S w' J (R++[l]) B'->Fr B w w'->(∀b∈B',b∈B\/w.heap.size<=b)->K J w'): Pt.new (.cells #[sl.v] T) w λr w1=>Pt.run dl ((Builtin.append_ #[171,171] 171 #[s.v,.slice (pW r) 1 1]).run prog w1) K:=by
 obtain⟨i,hi,hz,U,V⟩:=qAS;obtain⟨I,h1,h2,h3⟩:=h;refine fj.push (e:=101) (x:=sl) h1 qrz (by simp[ue,Value.oneCell']) oK hi hz U rfl rfl (by rw[V];omega) oJ λJ B' w' b' f' n'=>kk J B' w' ⟨_,b',by simp[h2],λj sj lj E u=>?_⟩ f' n';have hw:∀b∈S++B',b∈S++B\/w.heap.size<=b:=λb G=>by rcases zD.1 G with G|G;exact .inl (zH _ G);rcases n' b G with h|h;exact .inl (zI _ h);exact .inr h
 have hf:Fr (S++B) w w':=f'.mono λb G _=>zI _ G;by_cases hjl:j<I.length;rw[yZ hjl] at E;rw[yZ oJ] at u;exact (h3 j sj lj E u).j1 hf hw;by_cases hje:j=I.length;subst hje;rw[yY (zM _),Nat.sub_self] at E;rw[h2,yY (zM _),Nat.sub_self] at u;simp at E u;subst E u;exact hr.j1 hf hw;rw[yS (by rw[zF];simp;omega)] at E;cases E
def jl (next:Int) (c:IT):IT:=be next 4++[wrap .u8 (Int.fdiv c.length (2^8)),wrap .u8 c.length]++c.flatMap (be · 4)
def gN (numbers cC:IT) (k:Nat):List (IT):=(List.range k).map λi=>jl (cC.getD (i+1) 0) ((numbers.drop (123*i)).take 123)
def gM (numbers cC:IT):List (IT)×Int:=
 if i8 1 numbers=false\/numbers.length>123*cC.length then ([],1) else if ∃p∈cC,p<2 then ([],1) else (gN numbers cC cC.length,0)
def qxM{K:IL->WP}(G:∀u E w',Fr [] w w'->(∀S w0 L,ef S w0 w L->ef S w0 w' ((u,.c #[.i n] 3)::(E,.c #[s.v] 172)::L))->K (.func (.func 240) #[] #[dS u,dS E]) w'): cW 207 [s.v,.i n] dw w K:=by exact qlp<|Pt.DE<|Pt.DE<|G _ _ _ (((Fr.refl [] w).alloc _).alloc _) λS w0 L h=>(h.alloc _).alloc _
def CM:∀l:IT,(l.flatMap (be · 4)).length=l.length*4
 | []=>rfl
 | x::l=>by rw[yH,zF,kR,CM l,yI];omega
def qz5(a b:Int):([a,b]:IT).length=2:=rfl
def quq{G:IS}{sp:Sl}{numbers cC:IT}{K:I0->WP}(hn:Rd S w sn numbers)(hp:Rd S w sp cC)(b6:numbers.length<=100000)(b7:cC.length<=100000)(hG:∀b∈G,b<w.heap.size)(hk:∀s' B w',jT G w' s' (gM numbers cC).1 B->Fr [] w w'->(∀b∈B,w.heap.size<=b)->K (s',(gM numbers cC).2) w'): cW 172 [sn.v,sp.v] dq w K:=by
 refine qkf ?_;have bm:=hn.1;have bn:=hp.1;have aY:∀ {w':IK},gM numbers cC=([],1)->Fr [] w w'->K (dT,1) w':=by
  intro w' he hf;have:=hk dT [] w' (by rw[he];exact .nil _ _) hf oL;rw[he] at this;exact this
 refine oB (oE [] w) λr1 w1 e1 f1 ho=>?_;have bo:Rd S w1 sn numbers:=hn.q8 ho.fr;have bp:Rd S w1 sp cC:=hp.q8 ho.fr;refine iC (λb w'=>b=decide (i8 1 numbers=false\/numbers.length>123*cC.length)/\w'=w1) ?_ ?_;refine qst bo oJ ?_;apply eB<;>intro hc;have hr:i8 1 numbers=false:=(oP hc);exact⟨by rw[zZ (Or.inl hr)],rfl⟩;have hr:i8 1 numbers=true:=(oP hc);refine IQ ho 0 rfl sp ⟨?_,rfl⟩;rw[gG (123*(sp.len:Int)) oJ,bm,bn];have e:decide ((numbers.length:Int)>123*(cC.length:Int))=decide (numbers.length>123*cC.length):=by by_cases h:numbers.length>123*cC.length;rw[zZ h,zZ];omega;rw[zU h,zU];omega
 rw[e];by_cases h:numbers.length>123*cC.length<;>simp[hr,h];rintro b w2 ⟨rfl,rfl⟩;refine eB (λhc=>aY (by rw[gM,iP (zC hc)]) ho.fr) λhc=>?_;have aZ:=zB hc;refine IQ ho 0 rfl sp<|jv (λx w'=>w'=w2/\∃i:Nat,x.2.2=i/\i<=cC.length/\∀p∈cC.take i,¬p<2) (λx _=>((cC.length:Int)-x.2.2).toNat) ⟨rfl,0,rfl,oJ,oL⟩ ?_;rintro⟨sx,ex,ii⟩ w3 ⟨rfl,i,a0,hi,au⟩ X hX;simp only at a0;subst a0;dsimp only;apply cD<;>intro hc;have av:i<cC.length:=oJ;refine Rd.at bp i rfl (zA av) ?_;apply cD<;>intro hx;exact aY (by rw[gM,iN aZ,iP ⟨cC[i],zW av,hx⟩]) ho.fr;rw[gG _ oJ];refine hX _ _ ⟨rfl,i+1,oL,oJ,λp hp=>?_⟩ oN;rw[yG av] at hp;rcases zD.1 hp with hp|hp;exact au p hp;simp at hp;subst hp;exact hx;have av:i=cC.length:=oJ;subst av;rw[vA] at au;have bx:gM numbers cC=(gN numbers cC cC.length,0):=by rw[gM,iN aZ,if_neg];rintro⟨p,hp,h2⟩;exact au p hp h2
 rw[bx] at hk;refine oB ho λro w4 eo fo ho=>IQ ho 1 rfl sp<|qxM λrp rl w5 f5 a1=>?_;have bz:=a1 _ _ _ ho;refine ef.kz (lb:=[dS rp,dS rl]) bz rfl oK λDm l R Bz J E E0 w6 el eD ca a2 hy=>qiF<|IQ a2 2 rfl sp.len<|jv (λx w'=>∃(j:Nat) (cl so:Sl) (Bo:IS),x=j/\j<=cC.length/\Rd [] w cl (numbers.drop (123*j))/\jT ([l,Dm,rp,rl,ro,r1]++G) w' so (gN numbers cC j) Bo/\(∀b∈Bo,w.heap.size<=b/\b∉[l,Dm,rp,rl,ro,r1])/\
   ef [] w w' [(l,R),(Dm,.deferred (some [])),(rp,.c #[.i sp.len] 3),(rl,.c #[cl.v] 172),(ro,.c #[so.v] 171),(r1,.c #[sp.v] 172)]) (λx _=>((cC.length:Int)-x).toNat)
  ⟨0,sn,dT,[],rfl,oJ,hn.j8 (λb I=>by cases I),.nil _ _,oL,a2⟩ ?_
 rintro x w7 ⟨j,cl,so,Bo,rfl,hj,aM,aw,ap,ad⟩ X hX;have am:∀b∈Bo,b∉[l,Dm,rp,rl,ro,r1]++G:=λb I V=>by
  rcases zD.1 V with V|V;exact (ap b I).2 V;have:=hG b V;have:=(ap b I).1;omega
 have bB:=aM.1;rw[yB] at bB;apply cD<;>intro hc
 ·have cd:j<cC.length:=oJ;refine IQ ad 3 rfl cl<|IQ ad 3 rfl cl ?_;obtain⟨m,V,ac⟩:∃m:Nat,(if (123:Int)<(cl.len:Int) then 123 else (cl.len:Int))=m/\m=Nat.min 123 cl.len:=(by by_cases h:123<cl.len;exact⟨123,by rw[iP];rfl,(xS oJ).symm⟩;exact⟨cl.len,by rw[iN],(Nat.min_eq_right oJ).symm⟩);rw[V];have bC:m<=123:=(by rw[ac];exact Nat.min_le_left _ _);have bX:m<=cl.len:=(by rw[ac];exact Nat.min_le_right _ _);refine eI.part aM 0 m rfl rfl oJ (by rw[yB];omega) λcs bY aE _=>?_;rw[xG] at aE;have an:(numbers.drop (123*j)).take m=(numbers.drop (123*j)).take 123:=(by by_cases h:123<cl.len;rw[ac];congr 1;exact xS oJ;have:m=cl.len:=(by rw[ac];exact Nat.min_eq_right oJ);rw[this,zS (by rw[yB];omega),zS (by rw[yB];omega)]);generalize bD:(numbers.drop (123*j)).take m=chunk at aE an;have a3:chunk.length=m:=(by rw[<- bD,yL,yB];omega);have aK:cs.len=m:=oJ;refine hy ((j:Int),cs) w7 _ (ad.at (i:=0) rfl) ?_;dsimp only;refine⟨ad.at (i:=0) rfl,?_⟩;have U:=ad.iz (o':=Bz) 0 rfl;have aa:=U.wm [];have a4:Rd [] (Pt.iz w7 l Bz) sp cC:=(hp.j8 λb I=>by cases I).q8 U.fr;have ax:jT ([l,Dm,rp,rl,ro,r1]++G) (Pt.iz w7 l Bz) so (gN numbers cC j) Bo:=aw.j1 ((oQ (eO (ad.at (i:=0) rfl)) Bz).mono λb I _=>by simp at I;subst I;simp) am λb I=>.inl I;have a5:=aw.choose_spec.1.lt;refine iC (λx w'=>x=cC.getD (j+1) 0/\w'=Pt.iz w7 l Bz) ?_ ?_;refine IQ aa 5 rfl sp ?_;rw[gG ((j:Int)+1) oJ];apply cD<;>intro aN;have h2:j+1<cC.length:=oJ;exact IQ aa 5 rfl sp<|Rd.at a4 (j+1) oJ (getD_some h2)<|⟨rfl,rfl⟩;have h2:¬j+1<cC.length:=oJ;exact⟨by rw[yR,yS oJ];rfl,rfl⟩;rintro x w8 ⟨rfl,rfl⟩;generalize bE:cC.getD (j+1) 0=next
  have hW:(Pt.iz w7 l Bz).heap.size=w7.heap.size:=ux _ _ _;generalize cf:Pt.iz w7 l Bz=w8 at U aa a4 hW ax;have bZ:Rd [] w8 cs chunk:=aE.q8 U.fr;have ao:∀p∈[l,Dm,rp,rl,ro,r1],p<w8.heap.size:=λp hp=>by have aq:=λ(k:Nat) (q:Nat×Obj) (hq:_[k]?=some q)=>eO (U.at (i:=k) hq);simp only[zG,xY,or_false] at hp;rcases hp with rfl|rfl|rfl|rfl|rfl|rfl;exact aq 0 _ rfl;exact aq 1 _ rfl;exact aq 2 _ rfl;exact aq 3 _ rfl;exact aq 4 _ rfl;exact aq 5 _ rfl
  obtain⟨i5,bF,bG,a6,a7⟩:=wQ;refine qtS (s:=dT) (l:=[]) (B:=[]) (.nil _ _ _) oL λs9 B9 w9 b9 f9 n9=>?_;rw[xJ] at b9;have aa:=aa.q8 f9;refine oB aa λr2 ci cj a8 aa=>?_;have aP:∀b∈B9,w8.heap.size<=b:=λb I=>by rcases n9 b I with h|h;cases h;exact h
  refine fj.j4 (ys:=[wrap .u8 (Int.fdiv chunk.length (2^8)),wrap .u8 chunk.length]) (e:=5) (b9.q8 a8) lY oK bF bG a6 rfl (.ofSlice _ (e':=5) oK _ 2 2 _ (by rw[sC];rfl) (λq u hq=>?_) λu hu=>?_) rfl (by rw[a7,kR];decide) (by rw[kR];decide) λck a9 cm bI bJ bK _=>?_;rw[Addr.j3,jC (aa.at (i:=0) rfl),xT,aK,<- a3];rw[sC] at hq;rw[List.getElem?_toArray];exact hq;rw[sC] at hu;obtain⟨x,_,rfl⟩:=mem_map.1 hu;rfl;have cn:=f9.size;have b2:=a8.size;have bL:=b9.lt;have aa:=(aa.sub (IC _ _)).j1 bJ (λb I=>.inr (aP b I)) (λp hp I=>by have h1:=ao p.1 (zY (f:=(·.1)) hp);have h2:=aP _ I;omega);have a':∀b∈a9,w8.heap.size<=b:=λb I=>by rcases bK b I with h|h;exact aP b h;omega
  refine jv (λx w'=>∃(q:Nat) (Bq:IS),x.2=q/\q<=m/\gb w' x.1 (be next 4++[wrap .u8 (Int.fdiv chunk.length (2^8)),wrap .u8 chunk.length]++(chunk.take q).flatMap (be · 4)) Bq/\(∀b∈Bq,w8.heap.size<=b)/\
    ef ([l,Dm,rp,rl,ro,r1]++[]) w8 w' [(l,Bz),(Dm,.deferred (some [])),(rp,.c #[.i sp.len] 3),(rl,.c #[cl.v] 172),(ro,.c #[so.v] 171),(r1,.c #[sp.v] 172)]) (λx _=>((m:Int)-x.2).toNat)
   ⟨0,a9,rfl,oJ,by simpa using bI,a',aa⟩ ?_
  rintro⟨bN,qq⟩ aQ ⟨q,Bq,ba,co,bq,nq,hq⟩ Y hY;simp only at ba bq;subst ba;dsimp only;rw[aK];apply cD<;>intro aR
  ·have ay:q<chunk.length:=oJ;have aT:Rd [] aQ cs chunk:=aE.q8 (U.xd (T:=[]) oL hq.fr);refine Rd.at aT q rfl (zA ay) ?_;have aU:(be next 4++[wrap .u8 (Int.fdiv chunk.length (2^8)),wrap .u8 chunk.length]++(chunk.take q).flatMap (be · 4)).length<=1000000:=(by rw[zF,zF,kR,CM,yL,qz5];omega);refine qtS bq aU λbb aF aG aV aW aX=>?_;rw[gG _ oJ];refine hY _ _ ⟨q+1,aF,oL,oJ,?_,λb I=>?_,hq.j1 aW (λb I=>.inr (nq b I)) λp hp I=>?_⟩ oN;rw[yG ay,yQ,flatMap_singleton,<- zV];exact aV;rcases aX b I with h|h;exact nq b h;exact zL hq.fr.size h;have h1:=ao p.1 (zY (f:=(·.1)) hp);have h2:=nq _ I;omega
  ·have bO:q=m:=oJ;subst bO;rw[zS oJ] at bq;refine IQ hq 4 rfl so ?_;have bc:eN (([l,Dm,rp,rl,ro,r1]++G)++Bo) aQ bN (jl next chunk):=bq.jQ lY λb I V=>by
    have h2:=nq _ I;rcases zD.1 V with V|V;rcases zD.1 V with V|V;have:=ao b V;omega;have:=hG b V;have:=U.fr.size;omega;have:=a5 b V;omega
   have aH:jT ([l,Dm,rp,rl,ro,r1]++G) aQ so (gN numbers cC j) Bo:=ax.j1 (hq.fr.mono λb I _=>by rw[xI] at I;exact zH _ I) am λb I=>.inl I;refine jT.push aH bc (by rw[gN,zK,length_range];omega) λbb aF aG aV aW aX=>?_;have az:=(U.xn (T:=[]) oL hq).j1 aW (λb I=>.inr (ap b I).1) λp hp I=>(ap _ I).2 (zY (f:=(·.1)) hp);refine oD az 4 rfl _ λcq az bP=>⟨az.at (i:=0) rfl,?_⟩;have ay:=az.iz (o':=R) 0 rfl;refine Io rfl<|IQ ay 3 rfl cl<|eI.part aM q (numbers.drop (123*j)).length rfl (by rw[yB];show (cl.len:Int)=_;omega) (by rw[yB];omega) (zM _) λcr b4 bd _=>oD ay 3 rfl _ λbQ bR bS=>?_;rw[gG _ oJ];have aA:∀b∈aF,w.heap.size<=b/\b∉[l,Dm,rp,rl,ro,r1]:=λb I=>by
    rcases aX b I with h|h;exact ap b h;have h1:=hq.fr.size;refine⟨?_,λV=>?_⟩;have:=U.fr.size;omega;have:=ao b V;omega
   have ff:Fr [l,Dm,rp,rl,ro,r1] aG bQ:=
    (bP.mono λb I _=>by simp at I;subst I;simp).J0 ((oQ (eO (az.at (i:=0) rfl)) R).mono (T:=[l,Dm,rp,rl,ro,r1]) λb I _=>by simp at I;subst I;simp) (λb I=>.inl I) |>.J0 (bS.mono (T:=[l,Dm,rp,rl,ro,r1]) λb I _=>by simp at I;subst I;simp) (λb I=>.inl I)
   have aI:=aV.j1 (ff.mono λb I _=>zH _ I) (λb I V=>by
    rcases zD.1 V with V|V;exact (aA b I).2 V;have:=hG b V;have:=(aA b I).1;omega) (λb I=>.inl I)
   have bf:((numbers.drop (123*j)).take (numbers.drop (123*j)).length).drop q=numbers.drop (123*(j+1)):=(by rw[vA,xE];by_cases h:123<cl.len;rw[show q=123 by rw[ac];exact xS oJ,Nat.mul_add];have:q=cl.len:=(by rw[ac];exact Nat.min_eq_right oJ);rw[vF oJ,vF oJ]);rw[bf] at bd;have aU:gN numbers cC (j+1)=gN numbers cC j++[jl next chunk]:=(by rw[gN,range_succ,xO,map_singleton,bE,<- an];rfl);refine hX _ _ ⟨j+1,cr,bb,aF,oL,oJ,bd,by rw[aU];exact aI,aA,bR⟩ oJ
 have bT:j=cC.length:=oJ;subst bT;refine .inl ⟨ad.at (i:=0) rfl,?_⟩;have U:=ad.iz (o':=E0) 0 rfl;refine IQ U 4 rfl so<|ef.eC U.lX 1 rfl λaG hd=>?_;have bU:jT ([l,Dm,rp,rl,ro,r1]++G) (Pt.iz w7 l E0) so (gN numbers cC cC.length) Bo:=aw.j1 ((oQ (eO (ad.at (i:=0) rfl)) E0).mono λb I _=>by simp at I;subst I;simp) am λb I=>.inl I;exact hk so Bo aG (bU.j1 (S':=G) (hd.fr.mono λb I _=>zH _ I) am λb I=>.inl (zI _ I)) (U.back hd.fr) (λb I=>(ap b I).1)
def fv (q:Int) (t:IT):List IL:=.w q::t.map (Value.int .u32)
def gQ (q:Int) (t:IT):IT:=be (wrap .u32 (Int.fdiv q (2^32))) 4++be (wrap .u32 q) 4++t.flatMap (be · 4)
def AO(h:t.length=27):(gQ q t).length=116:=by rw[gQ,zF,zF,kR,kR,CM,h]
def qF(h:t.length=27):(fv q t).length=28:=by simp[fv,h]
def Cp(n:Nat)(h:n<t.length):(fv q t).toArray[n+1]?=some (.u (t.getD n 0)):=by simp[fv,yR,zA h]
def CV(q:Int)(t:IT):((fv q t).all Value.oneCell')=true:=by rw[Iz];intro v h;rcases zG.1 h with rfl|h;rfl;obtain⟨x,_,rfl⟩:=mem_map.1 h;rfl
def qrp{α:Type}{enc:α->List IL}{k:Nat}{l:List α}(h:fj enc k w s l B):fj enc k w.drew s l B:=h
def oq (w0:IK) (L:IW) (B:IS):Prop:=∀b∈B,w0.heap.size<=b/\b∉L.map (·.1)
def oq.cons{o:Obj}(h:oq w0 L B)(G:r∉B):oq w0 ((r,o)::L) B:=λb u=>⟨(h b u).1,λE=>by rcases zG.1 E with rfl|E;exact G u;exact (h b u).2 E⟩
def oq.tail{p:Nat×Obj}(h:oq w0 (p::L) B):oq w0 L B:=λb u=>⟨(h b u).1,λE=>(h b u).2 (zN _ E)⟩
def FI{j:Nat}(h:j+3<=l.length):l.drop j=l.getD j 0::l.getD (j+1) 0::l.getD (j+2) 0::l.drop (j+3):=by rw[zX oJ,zX (i:=j+1) oJ,zX (i:=j+1+1) oJ];simp only[yR];rw[zA (show j<l.length by omega),zA (show j+1<l.length by omega),zA (show j+2<l.length by omega)];rfl
def rF{j:Nat}(h:j+3<=l.length):l.take (j+3)=l.take j++[l.getD j 0,l.getD (j+1) 0,l.getD (j+2) 0]:=by rw[take_add,FI h];rfl
def qA5{j:Nat}(h:j+3<=l.length):(l.map (Value.int .u32)).extract j (j+3)=[.u (l.getD j 0),.u (l.getD (j+1) 0),.u (l.getD (j+2) 0)]:=by rw[extract_eq_take_drop,<- xR,FI h,show j+3-j=3 by omega];rfl
def wv{K:Sl->WP}(I:ef [] w0 w L)(h:gb w s l B)(J:oq w0 L B)(V:l.length<=1000000)(hk:∀G B' w',ef [] w0 w' L->gb w' G (l++be n 4) B'->oq w0 L B'->K G w'): cW 209 [s.v,.u n] dl w K:=by
 refine qsE<|qqg h V λG B' w' b' f' n'=>hk G B' w' (I.j1 f' (λb E=>.inr (J b E).1) λp R E=>(J _ E).2 (zY R)) b' λb E=>?_;rcases n' b E with U|U;exact J b U;refine⟨zL I.fr.size U,λhm=>?_⟩;obtain⟨p,R,rfl⟩:=mem_map.1 hm
 have:=eO (I.eY p R);omega
def qv6{K:Sl->WP}(hv:Hv w)(R:t.length=27)(hk:∀b T w',w'.heap[b]?=some (.c (gw (eU (wrap .u32 (Int.tmod q 2)) 1 (gQ q t))) T)->Fr [] w w'->w.heap.size<=b->K ⟨pW b,512,512⟩ w'): cW 173 [.agg (fv q t).toArray] dl w K:=by
 refine qpb<|oB (oE [] w) λr1 w1 e1 f1 E=>?_;have c0:(fv q t).toArray[0]?=some (.w q):=rfl;have J:=λn (h:n<27)=>Cp (q:=q) (t:=t) n oJ;refine oA E.drew 0 rfl q c0<|oA E.drew 0 rfl q c0<|wv (s:=dT) (l:=[]) (B:=[]) E.drew (.nil _ _ _) (λb G=>by cases G) oL λs5 B5 w6 E b5 U=>iS (E.cell (off:=0) 0 rfl c0)<|wv E b5 U (by simp[kR]) λs8 B8 w9 E b8 n8=>oA E.drew 0 rfl (t.getD 0 0) (J 0 oM)<|oA E.drew 0 rfl (t.getD 1 0) (J 1 oM)<|oA E.drew 0 rfl (t.getD 2 0) (J 2 oM)<|wv E.drew (qrp b8) n8 (by simp[kR]) λaD aE aF E ae af=>kV (E.cell (off:=3) 0 rfl (J 2 oM)) (E.cell (off:=2) 0 rfl (J 1 oM))<|wv E ae af (by simp[kR]) λaG aH aI E ag ah=>iS (E.cell (off:=3) 0 rfl (J 2 oM))<|wv E ag ah (by simp[kR]) λaJ ai aK E V aj=>?_;have hr:((fv q t).toArray.toList.drop 4).take 24=(t.drop 3).map (Value.int .u32):=by show (List.drop 3 (t.map (Value.int .u32))).take 24=_;rw[xR,zS (by rw[yB,zK,R];decide)]
 refine rP (E.at (i:=0) rfl) ((t.drop 3).map (Value.int .u32)) (by rw[zK,yB,R]) hr ?_;have ak:(t.drop 3).length=24:=(by rw[yB,R]);have al:t=[t.getD 0 0,t.getD 1 0,t.getD 2 0]++t.drop 3:=by
  have:=FI (l:=t) (j:=0) oJ;rw[xG] at this;exact this
 have base:[]++be (wrap .u32 (Int.fdiv q (2^32))) 4++be (wrap .u32 q) 4++be (t.getD 0 0) 4++be (t.getD 1 0) 4++be (t.getD 2 0) 4=be (wrap .u32 (Int.fdiv q (2^32))) 4++be (wrap .u32 q) 4++[t.getD 0 0,t.getD 1 0,t.getD 2 0].flatMap (be · 4):=oL;rw[base] at V;refine jv (λx w'=>∃(i:Nat) (B:IS),x.2=i/\i<=8/\gb w' x.1 (be (wrap .u32 (Int.fdiv q (2^32))) 4++be (wrap .u32 q) 4++[t.getD 0 0,t.getD 1 0,t.getD 2 0].flatMap (be · 4)++((t.drop 3).take (3*i)).flatMap (be · 4)) B/\ef [] w w' [(r1,.c (fv q t).toArray 185)]/\oq w [(r1,.c (fv q t).toArray 185)] B) (λx _=>(8-x.2).toNat)
  ⟨0,ai,rfl,oJ,by simpa using V,E,aj⟩ ?_
 rintro⟨s,ii⟩ w2 ⟨i,B,aa,aM,I,E,nb⟩ X hX;simp only at aa I;subst aa;dsimp only;have ap:(be (wrap .u32 (Int.fdiv q (2^32))) 4++be (wrap .u32 q) 4++[t.getD 0 0,t.getD 1 0,t.getD 2 0].flatMap (be · 4)++((t.drop 3).take (3*i)).flatMap (be · 4)).length<=200:=by rw[zF,zF,zF,kR,kR,CM,CM,yL,ak];show 4+4+3*4+_<=200;omega
 apply cD<;>intro hc;have hi:i<8:=oJ;refine qu ⟨oJ,oJ⟩ ?_;have h3:3*i+3<=(t.drop 3).length:=oJ;refine qzp ((t.drop 3).getD (3*i) 0,(t.drop 3).getD (3*i+1) 0,(t.drop 3).getD (3*i+2) 0) ?_ ?_;have:=qA5 h3;rw[show Int.toNat (i:Int)*3=3*i by simp;omega];exact this;refine oB E λr2 w3 e3 f3 u=>oD u 0 rfl _ λw4 u f4=>?_;have an:=I.lt;have ab:r2∉B:=λG=>by have:=an _ G;omega
 have I:=(I.q8 f3).j1 f4 (λb G hm=>by simp only[zE] at hm;subst hm;exact ab G);refine IQ u.drew 0 rfl ((t.drop 3).getD (3*i) 0)<|IQ u.drew 0 rfl ((t.drop 3).getD (3*i+1) 0)<|IQ u.drew 0 rfl ((t.drop 3).getD (3*i+2) 0)<|wv u.drew (qrp I) (nb.cons ab) oJ λs5 B5 w5 u b5 U=>kV (u.cell (off:=2) 0 rfl rfl) (u.cell (off:=1) 0 rfl rfl)<|wv u b5 U (by rw[zF,kR];omega) λs6 B6 w6 u b6 n6=>iS (u.cell (off:=2) 0 rfl rfl)<|wv u b6 n6 (by rw[zF,zF,kR,kR];omega) λs7 B7 w7 u b7 n7=>?_;rw[gG _ oJ];refine hX _ _ ⟨i+1,B7,oL,oJ,?_,u.sub (IC _ _),n7.tail⟩ oN;rw[show 3*(i+1)=3*i+3 by omega,rF h3,yQ];have e:([(t.drop 3).getD (3*i) 0,(t.drop 3).getD (3*i+1) 0,(t.drop 3).getD (3*i+2) 0]:IT).flatMap (be · 4)=be ((t.drop 3).getD (3*i) 0) 4++be ((t.drop 3).getD (3*i+1) 0) 4++be ((t.drop 3).getD (3*i+2) 0) 4:=oL;rw[e];simpa only[zV] using b7;obtain rfl:i=8:=by omega
 rw[zS oJ,zV,<- yQ,<- al] at I;refine oA E 0 rfl q c0 ?_;have G:=I.jQ (S:=[]) lY oL;refine H8 G (hv.q8 E.fr) (by show (gQ q t).length<=_;rw[AO R];decide) (λh=>?_) λ_ b T w5 h5 f5 U=>?_;have h':500<(gQ q t).length:=h;rw[AO R] at h';exact absurd h' oM;exact hk b T w5 h5 (E.fr.J0 f5 oL) (zL E.fr.size U)
def wY(R:ef [] w0 w L)(i:Nat)(hi:L[i]?=some (r,.c #[s.v] 101))(h:eN [] w0 s l)(U:4<=l.length)(V:∀G w',eN [] w0 G (l.drop 4)->ef [] w0 w' (L.set i (r,.c #[G.v] 101))->K (fL l) w'): eJ prog (.func (.func 259) #[] #[dS r]) [] dy w K:=by refine tT (lb:=[dS r]) rfl oK<|qlC ?_;have E:=R.drew;have I:eN [] w.drew s l:=h.q8 E.fr;exact oA E i hi s rfl<|eN.at I 0 rfl (getD_some oJ)<|oA E i hi s rfl<|eN.at I 1 rfl (getD_some oJ)<|oA E i hi s rfl<|eN.at I 2 rfl (getD_some oJ)<|oA E i hi s rfl<|eN.at I 3 rfl (getD_some oJ)<|oA E i hi s rfl<|eI.drop h 4 rfl U oJ λG h'=>oH E i hi _ rfl rfl rfl λw' J _=>V G w' h' J
def iX (l:IT):Int:=bits .or .u64 (wrap .u64 (wrap .u64 (fL l)*2^32)) (wrap .u64 (fL (l.drop 4)))
def md (l:IT):IT:=(List.range 27).map λi=>fL (l.drop (8+4*i))
def tW(l:IT):(md l).length=27:=by simp[md]
def lJ (q:Int) (f:Nat->Int) (n:Nat):Array IL:=(fv q ((List.range n).map f++zs (27-n))).toArray
def qol{x y:Int}{A Z:IT}:en (fv q (A++x::Z)).toArray (A.length+1) [.u y]=(fv q (A++y::Z)).toArray:=by
 apply Array.ext';have:=E5 (.w q::A.map (Value.int .u32)) [Value.int .u32 x] [Value.int .u32 y] (Z.map (Value.int .u32)) rfl;rw[qJ _ _ _ (by simp[fv])];simpa[fv] using this
def AW{f:Nat->Int}{n:Nat}(h:n<27):en (lJ q f n) (n+1) [.u (f n)]=lJ q f (n+1):=by
 have E:zs (27-n)=0::zs (27-(n+1)):=by rw[show 27-n=(27-(n+1))+1 by omega];rfl
 have:=qol (q:=q) (x:=0) (y:=f n) (A:=(List.range n).map f) (Z:=zs (27-(n+1)));rw[zK,length_range] at this;rw[lJ,E,this,lJ,range_succ,xO,zV];rfl
def qxu{h:Int}{f:Nat->Int}{n:Nat}:en (lJ q f n) 0 [.w h]=lJ h f n:=by apply Array.ext';rw[qJ _ _ _ (by simp[lJ,fv])];simp[lJ,fv]
def A5{f:Nat->Int}{n:Nat}(h:n<=27):(lJ q f n).size=28:=by simp[lJ,fv,qj];omega
def qxt{f:Nat->Int}:lJ q f 27=(fv q ((List.range 27).map f)).toArray:=by show (fv q ((List.range 27).map f++[])).toArray=_;rw[xI]
def qv4{K:List IL->WP}(h:eN S w s l)(hl:l.length=116)(hk:∀w',Fr [] w w'->K (fv (iX l) (md l)) w'): cW 241 [s.v] [.lK] w K:=by
 refine qpc ?_;have h0:eN [] w s l:=h.j8 oL;have U:((prog.info? 185).bind (·.zero)).map (λz=>z.cells.toList)=some (fv 0 (zs 27)):=oK;refine oB (oE [] w) λr1 w1 e1 f1 u=>oI u U λr3 w2 e3 u=>oI u U λG w3 e5 u=>wY u 2 rfl h0 oJ λs1 w4 h1 u=>?_;have I:∀(q:Int),(fv q (zs 27)).toArray=lJ q (λi=>fL (l.drop (8+4*i))) 0:=λq=>rfl;refine oG u 0 rfl (lJ (wrap .u64 (wrap .u64 (fL l)*2^32)) (λi=>fL (l.drop (8+4*i))) 0) ?_ rfl ?_ λw5 u _=>?_;rw[I 0];exact qxu;exact zO rfl;refine oA u.drew 0 rfl (wrap .u64 (wrap .u64 (fL l)*2^32)) rfl<|wY u.drew 2 rfl h1 (by rw[yB];omega) λs2 w6 V u=>iS (u.cell (off:=0) 0 rfl rfl)<|oG u 0 rfl (lJ (iX l) (λi=>fL (l.drop (8+4*i))) 0) qxu rfl (zO rfl) λw7 u _=>?_;rw[xE] at V;refine wY u 2 rfl V (by rw[yB];omega) λs3 w8 h3 u=>oG u 0 rfl (lJ (iX l) (λi=>fL (l.drop (8+4*i))) 1) (AW oM) rfl (by show 1+1<=_;rw[A5 oM];decide) λw9 u _=>?_;rw[xE] at h3;refine wY u 2 rfl h3 (by rw[yB];omega) λs4 al h4 u=>oG u 0 rfl (lJ (iX l) (λi=>fL (l.drop (8+4*i))) 2) (AW oM) rfl (by show 2+1<=_;rw[A5 oM];decide) λam u _=>?_;rw[xE] at h4;refine wY u 2 rfl h4 (by rw[yB];omega) λs5 ao h5 u=>oG u 0 rfl (lJ (iX l) (λi=>fL (l.drop (8+4*i))) 3) (AW oM) rfl (by show 3+1<=_;rw[A5 oM];decide) λap u _=>?_;rw[xE] at h5;refine jv (λx w'=>∃(i:Nat) (J:Sl),x=i/\i<=8/\eN [] w J (l.drop (20+12*i))/\
   ef [] w w' [(G,.c (lJ (iX l) (λi=>fL (l.drop (8+4*i))) (3+3*i)) 185),(r3,.c (fv 0 (zs 27)).toArray 185),(r1,.c #[J.v] 101)]) (λx _=>(8-x).toNat)
  ⟨0,s5,rfl,oJ,h5,u⟩ ?_
 rintro x aq ⟨i,J,rfl,ar,hx,u⟩ X hX;apply cD<;>intro R;have hi:i<8:=oJ;refine qu ⟨oJ,oJ⟩ ?_;simp only[Addr.j3];have aw:Int.toNat (i:Int)=i:=oJ;refine wY u 2 rfl hx (by rw[yB];omega) λs6 E h6 u=>?_;show Pt.st ⟨G,4+Int.toNat (i:Int)*3+0,none⟩ _ _ _;refine oG u 0 rfl (lJ (iX l) (λi=>fL (l.drop (8+4*i))) (3+3*i+1)) ?_ rfl ?_ λax u _=>?_;rw[show 20+12*i=8+4*(3+3*i) by omega,show 4+Int.toNat (i:Int)*3+0=(3+3*i)+1 by omega];exact AW (f:=λi=>fL (l.drop (8+4*i))) oJ;rw[A5 oJ];show _+1<=28;omega;rw[xE] at h6;refine wY u 2 rfl h6 (by rw[yB];omega) λs7 ay h7 u=>?_;show Pt.st ⟨G,0+4+Int.toNat (i:Int)*3+1,none⟩ _ _ _;refine oG u 0 rfl (lJ (iX l) (λi=>fL (l.drop (8+4*i))) (3+3*i+2)) ?_ rfl ?_ λaz u _=>?_;rw[show 20+12*i+4=8+4*(3+3*i+1) by omega];show en _ (0+4+Int.toNat (i:Int)*3+1) _=_;rw[show 0+4+Int.toNat (i:Int)*3+1=(3+3*i+1)+1 by omega];exact AW (f:=λi=>fL (l.drop (8+4*i))) oJ;rw[A5 oJ];show 0+4+Int.toNat (i:Int)*3+1+1<=28;omega;rw[xE] at h7;refine wY u 2 rfl h7 (by rw[yB];omega) λs8 aB h8 u=>?_;show Pt.st ⟨G,0+4+Int.toNat (i:Int)*3+2,none⟩ _ _ _;refine oG u 0 rfl (lJ (iX l) (λi=>fL (l.drop (8+4*i))) (3+3*i+3)) ?_ rfl ?_ λaC u _=>?_;rw[show 20+12*i+4+4=8+4*(3+3*i+2) by omega];show en _ (0+4+Int.toNat (i:Int)*3+2) _=_;rw[show 0+4+Int.toNat (i:Int)*3+2=(3+3*i+2)+1 by omega];exact AW (f:=λi=>fL (l.drop (8+4*i))) oJ;rw[A5 oJ];show 0+4+Int.toNat (i:Int)*3+2+1<=28;omega;rw[xE] at h8;rw[gG _ oJ];refine hX _ _ ⟨i+1,s8,oL,oJ,?_,?_⟩ oJ;rw[show 20+12*(i+1)=20+12*i+4+4+4 by omega];exact h8;rw[show 3+3*(i+1)=3+3*i+3 by omega];exact u;obtain rfl:i=8:=by omega
 rw[show 3+3*8=27 from rfl,qxt] at u;refine rP (u.at (i:=0) rfl) (fv (iX l) (md l)) (qF (tW l)) (by rw[xG];exact zS (Nat.le_of_eq (qF (tW l))))<|qu (qF (tW l))<|oG u 1 rfl (fv (iX l) (md l)).toArray ?_ (CV _ _) ?_ λE u _=>?_;apply Array.ext';rw[qJ _ _ _ (by rw[qF (tW l)];decide),qF (tW l),take_zero,xJ,Iw oM,xI];rw[qF (tW l)];decide;exact rP (u.at (i:=1) rfl) (fv (iX l) (md l)) (qF (tW l)) (by rw[xG];exact zS (Nat.le_of_eq (qF (tW l))))<|hk E u.fr
def ui:((prog.info? 185).bind (·.zero)).map (λz=>z.cells.toList)=some (fv 0 (zs 27)):=by kernel_rfl
def qvF{P:IN}{t:IM}{z:IL}{offs:Array (I1)}(u:(P.info? t).bind (·.zero)=some z)(E:P.underlying t=some (.struct (fieldsOf P t)))(h:∀w,((fieldsOf P t).mapM λf=>do pure (f.offset,<- sizeOf f.type):Sem (Array (I1))).run P w=.ok offs w)(w:IK): (Instr.build t #[]).run P w=.ok (.agg z.cells) w:=by simp only[Instr.build,Iu,v9 u,Iv,run_underlying E,h,Instr.fill,Sem.run_pure]
def AJ{K:List IL->Prop}(k:K (fv 0 (zs 27))):fG [iF.lK] (λw'=>(Instr.build 185 #[]).run prog w') w K:=by
 obtain⟨z,u,h⟩:=yT.1 ui;refine sh (ts:=[iF.lK]) (fv 0 (zs 27)) ?_ k;have:=qvF (P:=prog) (t:=185) (offs:=#[(0,1),(1,1),(2,1),(3,1),(4,24)]) u oK (λw=>oK) w;rw[this];show Result.ok (Value.agg z.cells) w=.ok (Value.agg (fv 0 (zs 27)).toArray) w;rw[<- h]
def mR{vs:List IL}(h:vs.length=cs.size):en cs 0 vs=vs.toArray:=by apply Array.ext';rw[qJ _ _ _ oJ,take_zero,xJ,Iw (by rw[IJ];omega),xI]
def C9(h:t.length=27):(fv q t).toArray.size=28:=by rw[size_toArray];exact qF h
def vq{u:I1}{K:List IL->Prop}(E:w.heap[r]?=some (.cells (fv q t).toArray T u))(h:t.length=27)(k:K (fv q t)):jg 28 (dk r) w K:=
 rP E (fv q t) (qF h) (by rw[xG,zS (Nat.le_of_eq (qF h))]) k
def Ap{I:Int}{E:IT}{K:WP}(J:ef [] w0 w L)(i:Nat)(hi:L[i]?=some (r,.c (fv I E).toArray T))(G:E.length=27)(h:t.length=27)(R:∀w',ef [] w0 w' (L.set i (r,.c (fv q t).toArray T))->K w'):iH ((fv q t).length=28) (st (dk r) (fv q t) w K):=by refine qu (qF h)<|oG J i hi (fv q t).toArray (mR (by rw[C9 G,qF h])) (CV _ _) (by rw[C9 G,qF h];decide) λw' u _=>R w' u
def uX{J:Int}{G:IT}{K:List IL->WP}(R:ef [] w0 w L)(i:Nat)(hi:L[i]?=some (r,.c (fv J G).toArray T))(U:G.length=27)(I:t.length=27)(V:∀w',Fr [] w0 w'->K (fv q t) w'):iH ((fv q t).length=28) (st (dk r) (fv q t) w λw'=>jg 28 (dk r) w' λvs=>K vs w'):=by
 refine Ap R i hi U I λw' u=>?_;have E:i<L.length:=by rcases Nat.lt_or_ge i L.length with h|h;exact h;rw[yS h] at hi;cases hi
 exact vq (u.at (i:=i) (by rw[List.getElem?_set_self E])) I (V w' u.fr)
abbrev oV:=I7
def gU:oV:=(0,zs 27)
def fC (place:Int) (l:IT):oV×Int:=
 if (fx place l).2.2≠0 then (gU,(fx place l).2.2)
 else if (fx place l).1≠1\/(fx place l).2.1.length≠116 then (gU,2)
 else if Int.tmod (iX (fx place l).2.1) 2≠place then (gU,2)
 else ((iX (fx place l).2.1,md (fx place l).2.1),0)
def zn(place:Int)(l:IT):(fC place l).1.2.length=27:=by unfold fC;split<;>(try rfl);split<;>(try rfl);split<;>rfl
def iw (a b:IT):oV×Int:=
 if (fC 0 a).2≠0/\(fC 1 b).2≠0 then (gU,5)
 else if (fC 0 a).2≠0\/((fC 1 b).2=0/\(fC 1 b).1.1>(fC 0 a).1.1) then ((fC 1 b).1,0)
 else ((fC 0 a).1,0)
def ql3(a b:IT):(iw a b).1.2.length=27:=by unfold iw;split<;>(try rfl);split<;>exact zn _ _
def qrc{place:Int}{K:List IL×Int->WP}(h:eN S w s l)(hv:Hv w)(hB:eX l)(hl:l.length<=100000)(V:place=0\/place=1)(hk:∀w',Fr [] w w'->K (fv (fC place l).1.1 (fC place l).1.2,(fC place l).2) w'): cW 210 [.i place,s.v] dN w K:=by
 refine qqP<|oI (oE [] w) ui λr1 w1 e1 u=>?_;have aa:wrap .u32 place=place:=by rcases V with rfl|rfl<;>kernel_rfl
 have ab:wrap .u64 place=place:=by rcases V with rfl|rfl<;>kernel_rfl
 rw[aa,ab];refine iC (λb w'=>b=false/\w'=w1) ?_ ?_;rcases V with rfl|rfl;exact Io rfl ⟨rfl,rfl⟩;exact Im rfl ⟨rfl,rfl⟩;rintro b w2 ⟨rfl,rfl⟩;refine Io rfl ?_;have G:∀ {e:Int} {w':IK},fC place l=(gU,e)->Fr [] w w'->K (fv 0 (zs 27),e) w':=by
  intro e w' I hf;have:=hk w' hf;rw[I] at this;exact this
 refine HI (h.q8 u.fr) (hv.q8 u.fr) hB hl λs3 B3 w3 b3 f3 n3=>?_;have u:=u.q8 f3;apply eB<;>intro E;have I:(fx place l).2.2≠0:=(oP E);exact AJ<|uX u 0 rfl rfl rfl λw4 f4=>G (by rw[fC,iP I]) f4;have I:¬(fx place l).2.2≠0:=(oP E);refine iC (λb w'=>b=decide ((fx place l).1≠1\/(fx place l).2.1.length≠116)/\w'=w3) ?_ ?_;apply eB<;>intro E;have U:(fx place l).1≠1:=(oP E);exact⟨by simp[U],rfl⟩;have U:(fx place l).1=1:=(oP E);have ac:s3.len=(fx place l).2.1.length:=b3.len;refine⟨?_,rfl⟩;dsimp only;rw[ac];by_cases hx:(fx place l).2.1.length=116;rw[hx];simp[U];have:¬(((fx place l).2.1.length:Int)=116):=oJ;simp[U,hx,this];rintro b w4 ⟨rfl,rfl⟩;apply eB<;>intro E;exact AJ<|uX u 0 rfl rfl rfl λw5 f5=>G (by rw[fC,iN I,iP (zC E)]) f5;have J:=zB E;have R:(fx place l).2.1.length=116:=by rcases Nat.decEq (fx place l).2.1.length 116 with h|h;exact absurd (Or.inr h) J;exact h
 have ae:=b3.jQ (S:=[]) lY oL;refine qv4 ae R λw5 f5=>?_;have u:=u.q8 f5;refine oI u ui λr6 w6 e6 u=>Ap u 0 rfl rfl (tW _) λw7 u=>IQ u 0 rfl (iX (fx place l).2.1) ?_;apply eB<;>intro E;have hq:Int.tmod (iX (fx place l).2.1) 2≠place:=(oP E);exact AJ<|uX u 1 rfl rfl rfl λw8 f8=>G (by rw[fC,iN I,iN J,iP hq]) f8;have hq:¬Int.tmod (iX (fx place l).2.1) 2≠place:=(oP E);refine vq (u.at (i:=0) rfl) (tW _)<|uX u 1 rfl rfl (tW _) λw8 f8=>?_
 have:=hk w8 f8;rw[fC,iN I,iN J,iN hq] at this;exact this
def quJ{sa sb:Sl}{a b:IT}{K:List IL×Int->WP}(ha:eN S w sa a)(hb:eN S w sb b)(hv:Hv w)(R:eX a)(U:eX b)(V:a.length<=100000)(aa:b.length<=100000)(hk:∀w',Fr [] w w'->K (fv (iw a b).1.1 (iw a b).1.2,(iw a b).2) w'): cW 174 [sa.v,sb.v] dN w K:=by
 refine qon<|oI (oE [] w) ui λr1 w1 e1 h=>qrc (ha.q8 h.fr) (hv.q8 h.fr) R V (.inl rfl) λw2 f2=>?_;have h:=h.q8 f2;refine oI h ui λr3 w3 e3 h=>Ap h 0 rfl rfl (zn _ _) λw4 h=>qrc (hb.q8 h.fr) (hv.q8 h.fr) U aa (.inr rfl) λw5 f5=>?_;have h:=h.q8 f5;refine oI h ui λr6 w6 e6 h=>Ap h 0 rfl rfl (zn _ _) λw7 h=>iC (λc w'=>c=decide ((fC 0 a).2≠0/\(fC 1 b).2≠0)/\w'=w7) ?_ ?_;apply eB<;>intro u;have E:(fC 0 a).2≠0:=(oP u);refine⟨?_,rfl⟩;by_cases J:(fC 1 b).2=0<;>simp[E,J];have E:(fC 0 a).2=0:=(oP u);exact⟨by simp[E],rfl⟩;rintro c w8 ⟨rfl,rfl⟩;apply eB<;>intro u;refine AJ<|uX h 2 rfl rfl rfl λw9 f9=>?_
 have:=hk w9 f9;rw[iw,iP (zC u)] at this;exact this;have hn:=zB u;refine iC (λc w'=>c=decide ((fC 0 a).2≠0\/((fC 1 b).2=0/\(fC 1 b).1.1>(fC 0 a).1.1))/\w'=w8) ?_ ?_;apply eB<;>intro u;have E:(fC 0 a).2≠0:=(oP u);exact⟨by simp[E],rfl⟩;have E:(fC 0 a).2=0:=(oP u);apply eB<;>intro u;have J:(fC 1 b).2=0:=(oP u);refine oA h 0 rfl (fC 1 b).1.1 rfl<|oA h 1 rfl (fC 0 a).1.1 rfl<|⟨?_,rfl⟩;by_cases h3:(fC 1 b).1.1>(fC 0 a).1.1<;>simp[E,J,h3];have J:(fC 1 b).2≠0:=(oP u);exact⟨by simp[E,J],rfl⟩;rintro c w9 ⟨rfl,rfl⟩;apply cD<;>intro u;refine vq (h.at (i:=0) rfl) (zn _ _)<|uX h 2 rfl rfl (zn _ _) λG I=>?_
 have:=hk G I;rw[iw,iN hn,iP (u)] at this;exact this;refine vq (h.at (i:=1) rfl) (zn _ _)<|uX h 2 rfl rfl (zn _ _) λG I=>?_
 have:=hk G I;rw[iw,iN hn,iN (u)] at this;exact this
abbrev sS:IM:=191
abbrev Cx:IM:=187
def look {β:Type} (n:Int):List (Int×β)->Option (Nat×β)
 | []=>none
 | p::r=>if n=p.1 then some (0,p.2) else (look n r).map λq=>(q.1+1,q.2)
def ir {β:Type} (n:Int) (v:β) (l:List (Int×β)):List (Int×β):=match look n l with|some q=>l.set q.1 (n,v)|none=>l++[(n,v)]
def jN {β:Type} (n:Int) (l:List (Int×β)):List (Int×β):=match look n l with|some q=>l.eraseIdx q.1|none=>l
def wI{β γ:Type}(g:β->γ)(n:Int):∀l:List (Int×β),look n (l.map λe=>(e.1,g e.2))=(look n l).map λq=>(q.1,g q.2)
 | []=>rfl
 | p::r=>by simp only[xP,look];by_cases h:n=p.1;simp[h];rw[iN h,iN h,wI g n r];cases look n r<;>rfl
def ye(n:Int):∀l:List (Int×IL),posOf n l=look n l
 | []=>rfl
 | p::r=>by simp only[posOf,look,ye n r]
def tX{β:Type}{n:Int}:∀ {l:List (Int×β)} {q:Nat×β},look n l=some q->l[q.1]?=some (n,q.2)/\(n,q.2)∈l
 | p::r,q,h=>by simp only[look] at h;by_cases hp:n=p.1;rw[iP hp] at h;cases h;subst hp;exact⟨rfl,oL⟩;rw[iN hp] at h;obtain⟨x,u,rfl⟩:=yT.1 h;obtain⟨E,G⟩:=tX u;exact⟨by simpa using E,zN _ G⟩
def ve{β:Type}{n:Int}:∀ {l:List (Int×β)},look n l=none↔n∉l.map (·.1)
 | []=>by simp[look]
 | p::r=>by simp only[look,xP,zG,not_or];by_cases hp:n=p.1;simp[hp];rw[iN hp,Option.map_eq_none_iff,ve (l:=r)];simp[hp]
def En{β γ:Type}(g:β->γ)(n:Int)(v:β)(l:List (Int×β)):(ir n v l).map (λe=>(e.1,g e.2))=ir n (g v) (l.map λe=>(e.1,g e.2)):=by
 unfold ir;rw[wI];cases look n l with
 | none=>simp
 | some q=>simp[map_set]
def qrv{β γ:Type}(g:β->γ)(n:Int)(l:List (Int×β)):(jN n l).map (λe=>(e.1,g e.2))=jN n (l.map λe=>(e.1,g e.2)):=by
 unfold jN;rw[wI];cases look n l with
 | none=>rfl
 | some q=>simp only[Option.map_some];exact vW _ l q.1
def Dz{β:Type}{v:β}{l:List (Int×β)}{e:Int×β}(h:e∈ir n v l):e∈l\/e=(n,v):=by unfold ir at h;split at h;exact mem_or_eq_of_mem_set h;rcases zD.1 h with h|h;exact .inl h;exact .inr (oP h)
def qr3{β:Type}{l:List (Int×β)}{e:Int×β}(h:e∈jN n l):e∈l:=by unfold jN at h;split at h;exact mem_of_mem_eraseIdx h;exact h
def G9{t et:IM}{v:IL}(ht:prog.underlying t=some (.map 63 et)){b:Nat}(h:jy jL w b f)(x:Int): ∃o,(Instr.mapUpdate t (.map (some b)) (jL x) v).run prog w=.ok () (iz w b o)/\jy jL (iz w b o) b (ir x v f):=by
 have K:=vu;cases J:posOf x f with
 | none=>
  obtain⟨o,R,h2⟩:=jy.new ht K h x (v:=v) J;refine⟨o,R,?_⟩;rw[ye] at J;rw[ir,J];exact h2
 | some q=>
  obtain⟨E,c,V,he,hs,hc⟩:=h;have hq:=J;rw[ye] at hq;obtain⟨R,_⟩:=tX hq;have I:=he;simp only[ng] at I;have hi:E[q.1]?.map (·.key)=some (jL x):=by
   have:=IH (·[q.1]?) I;simp only[zQ,R,Option.map_some] at this;rw[<- xM];cases G:E.toList[q.1]? with
   | none=>rw[G] at this;cases this
   | some e=>rw[G] at this;simp at this;simp[this.1]
  refine⟨.map (E.modify q.1 λe=>{ e with key:=jL x,val:=v }) c,?_,E.modify q.1 λe=>{ e with key:=jL x,val:=v },c,?_,?_,?_,?_⟩;simp[Instr.mapUpdate,run_underlying ht,IF V,K.check,uK K he,J,hi,Instr.keyThatStays,Instr.sameBits,Go.MapKept.run_setObj_map _ V];rfl;rw[pf _ _ _ _ (eO V),iP rfl];rw[ir,hq];show ((E.modify q.1 _).toList).map _=(f.set q.1 (x,v)).map _;rw[Array.toList_modify];apply ext_getElem?;intro j;have u:=IH (·[j]?) I;simp only[zQ] at u;rw[zQ,zQ,List.getElem?_modify,List.getElem?_set];by_cases hqj:q.1=j;subst hqj;have ab:=(zP.1 R).1;rw[R] at u;cases G:E.toList[q.1]? with
  | none=>rw[G] at u;cases u
  | some e=>simp[ab]
  simp only[hqj,if_false];rw[<- u];cases E.toList[j]?<;>rfl;have e:(E.modify q.1 λe=>{ e with key:=jL x,val:=v }).toList.map (·.born)=E.toList.map (·.born):=by rw[Array.toList_modify];apply ext_getElem?;intro j;rw[zQ,zQ,List.getElem?_modify];by_cases hqj:q.1=j;subst hqj;cases E.toList[q.1]?<;>simp;simp[hqj]
  rw[e];exact hs;intro e U;rw[Array.toList_modify] at U;obtain⟨j,u⟩:=mem_iff_getElem?.1 U;rw[List.getElem?_modify] at u;by_cases hqj:q.1=j;subst hqj;cases G:E.toList[q.1]? with
  | none=>rw[G] at u;simp at u
  | some e0=>
   rw[G] at u;simp at u;subst u;exact hc e0 (yF G)
  simp[hqj] at u;exact hc e (yF (by rw[xM];exact u))
section
structure eH where
 J1:oV
 Q7:IT
 x5:IT
 x8:Int
 Q5:Bool
 Q3:IT
 J9:IT
 Q0:List (I8)
 Q4:IT
abbrev lG:=Int×Sl×List Int
def lS (x:lG):IL:=.agg #[.b x.1,x.2.1.v]
def nR (sl sn:Sl) (x8:Int) (Q5:Bool) (fb defb mb:Nat):List IL:=
 [sl.v,sn.v,.i x8,.bool Q5,dS fb,dS defb,.map (some mb)]
def gi (db:Option Addr) (J1:oV) (sl sn:Sl) (x8:Int) (Q5:Bool) (fb defb mb:Nat) (Q4:IT):Array IL:=
 ((.pointer db::fv J1.1 J1.2)++nR sl sn x8 Q5 fb defb mb++Q4.map (Value.int .u32)).toArray
section
variable {db:Option Addr} {J1:oV} {sl sn:Sl} {x8:Int} {Q5:Bool} {fb defb mb:Nat} {Q4:IT}
def tl(h:J1.2.length=27):(Value.pointer db::fv J1.1 J1.2).length=29:=by rw[yI,qF h]
def quc(h:J1.2.length=27):(gi db J1 sl sn x8 Q5 fb defb mb Q4).size=36+Q4.length:=by rw[gi,size_toArray,zF,zF,tl h,zK];rfl
def Eh:(gi db J1 sl sn x8 Q5 fb defb mb Q4)[0]?=some (.pointer db):=rfl
def qw2:(gi db J1 sl sn x8 Q5 fb defb mb Q4)[1]?=some (.w J1.1):=rfl
def HW(E:J1.2.length=27)(n:Nat)(h:n<27):(gi db J1 sl sn x8 Q5 fb defb mb Q4)[n+2]?=some (.u (J1.2.getD n 0)):=by
 rw[gi,List.getElem?_toArray,zV,yZ (by rw[tl E];omega),List.getElem?_cons_succ];have:=Cp (q:=J1.1) (t:=J1.2) n oJ;rw[List.getElem?_toArray] at this;exact this
def At(u:J1.2.length=27)(j:Nat)(h:j<7):(gi db J1 sl sn x8 Q5 fb defb mb Q4)[29+j]?=(nR sl sn x8 Q5 fb defb mb)[j]?:=by rw[gi,List.getElem?_toArray,zV,yY (by rw[tl u];omega),tl u,vE,yZ (by exact h)]
def GJ(h:J1.2.length=27):(gi db J1 sl sn x8 Q5 fb defb mb Q4)[29]?=some sl.v:=At h 0 oM
def qyv(h:J1.2.length=27):(gi db J1 sl sn x8 Q5 fb defb mb Q4)[30]?=some sn.v:=At h 1 oM
def Aw(h:J1.2.length=27):(gi db J1 sl sn x8 Q5 fb defb mb Q4)[32]?=some (.bool Q5):=At h 3 oM
def Aj(h:J1.2.length=27):(gi db J1 sl sn x8 Q5 fb defb mb Q4)[33]?=some (dS fb):=At h 4 oM
def Ee(h:J1.2.length=27):(gi db J1 sl sn x8 Q5 fb defb mb Q4)[34]?=some (dS defb):=At h 5 oM
def tN(h:J1.2.length=27):(gi db J1 sl sn x8 Q5 fb defb mb Q4)[35]?=some (.map (some mb)):=At h 6 oM
end
structure Rows (F:IS) (w:IK) (sl sn:Sl) (Q7 x5:IT) (fs:List (Int×lG)):Prop where
 Q7:Rd F w sl Q7
 x5:Rd F w sn x5
 cM:∀ e∈fs,eN F w e.2.2.1 e.2.2.2
def Rows.j1{F F':IS}{w w':IK}{sl sn:Sl}{Q7 x5:IT}{E:List (Int×lG)}(h:Rows F w sl sn Q7 x5 E)(f:Fr F w w')(u:∀b∈F',b∈F\/w.heap.size<=b):Rows F' w' sl sn Q7 x5 E:=
 ⟨h.Q7.j1 f u,h.x5.j1 f u,λe G=>(h.cM e G).j1 f u⟩
structure oY (w:IK) (X:IS) (pb:Nat) (db:Option Addr) (M:eH) (fb defb mb:Nat) (sl sn:Sl) (F1 F2:IS) (fs:List (Int×lG)):Prop where
 cell:w.heap[pb]?=some (.c (gi db M.J1 sl sn M.x8 M.Q5 fb defb mb M.Q4) sS)
 Q3:io w fb F1 M.Q3
 J9:io w defb F2 M.J9
 map:jy jL w mb (fs.map λe=>(e.1,lS e.2))
 Q0:M.Q0=fs.map λe=>(e.1,e.2.1,e.2.2.2)
 rows:Rows (X++pb::mb::(F1++F2)) w sl sn M.Q7 M.x5 fs
 pE:∀ b∈X,b<w.heap.size
 m7:∀ b∈X,b∉pb::mb::(F1++F2)
 sep:pb≠mb/\(∀ b∈F1,b≠pb/\b≠mb/\b∉F2)/\(∀ b∈F2,b≠pb/\b≠mb)
 x4:M.J1.2.length=27
 x9:M.Q4.length=24
def eW (w:IK) (X:IS) (pb:Nat) (db:Option Addr) (F:IS) (M:eH):Prop:=
 ∃fb defb mb sl sn h F2 u,F=pb::mb::(h++F2)/\oY w X pb db M fb defb mb sl sn h F2 u
def oY.dJ{M:eH}{u:List (Int×lG)}(h:oY w X pb db M fb defb mb sl sn F1 F2 u):mb<w.heap.size:=by exact h.map.lt
def oY.lt{w:IK}{X:IS}{pb:Nat}{db:Option Addr}{M:eH}{fb defb mb:Nat}{sl sn:Sl}{F1 F2:IS}{E:List (Int×lG)}(h:oY w X pb db M fb defb mb sl sn F1 F2 E):∀b∈pb::mb::(F1++F2),b<w.heap.size:=by intro b u;rcases zG.1 u with rfl|u;exact eO h.cell;rcases zG.1 u with rfl|u;exact h.dJ;rcases zD.1 u with u|u;exact h.Q3.lt b u;exact h.J9.lt b u
def eW.lt{w:IK}{X:IS}{pb:Nat}{db:Option Addr}{F:IS}{M:eH}(h:eW w X pb db F M):∀b∈F,b<w.heap.size:=by obtain⟨fb,defb,mb,sl,sn,E,F2,G,rfl,u⟩:=h;exact u.lt
def oY.j1{w w':IK}{S X:IS}{pb:Nat}{db:Option Addr}{M:eH}{fb defb mb:Nat}{sl sn:Sl}{F1 F2:IS}{G:List (Int×lG)}(h:oY w X pb db M fb defb mb sl sn F1 F2 G)(f:Fr S w w')(E:∀b∈pb::mb::(F1++F2),b∉S)(I:Rows (X++pb::mb::(F1++F2)) w' sl sn M.Q7 M.x5 G):oY w' X pb db M fb defb mb sl sn F1 F2 G where
 cell:=by rw[f.block pb (eO h.cell) (E pb oL)];exact h.cell
 Q3:=h.Q3.j1 f λb u=>E b (by simp[u])
 J9:=h.J9.j1 f λb u=>E b (by simp[u])
 map:=h.map.j1 f (E mb oL)
 Q0:=h.Q0
 rows:=I
 pE:=λb u=>yC (h.pE b u) f.size
 m7:=h.m7
 sep:=h.sep
 x4:=h.x4
 x9:=h.x9
def oY.q8{M:eH}{E:List (Int×lG)}(h:oY w X pb db M fb defb mb sl sn F1 F2 E)(f:Fr [] w w'):oY w' X pb db M fb defb mb sl sn F1 F2 E:=
 h.j1 f oL (h.rows.j1 (f.mono λb u=>by cases u) λb u=>.inl u)
def eW.q8{w w':IK}{X:IS}{pb:Nat}{db:Option Addr}{F:IS}{M:eH}(h:eW w X pb db F M)(f:Fr [] w w'):eW w' X pb db F M:=by obtain⟨fb,defb,mb,sl,sn,u,F2,E,rfl,G⟩:=h;exact⟨fb,defb,mb,sl,sn,u,F2,E,rfl,G.q8 f⟩
def EA{u:IS}(n1:∀b∈u,b∈F1\/w.heap.size<=b):∀b∈pb::mb::(u++F2),b∈pb::mb::(F1++F2)\/w.heap.size<=b:=λb h=>by simp only[zG,zD] at h⊢;rcases h with h|h|h|h;exact .inl (.inl h);exact .inl (.inr (.inl h));rcases n1 b h with E|E;exact .inl (.inr (.inr (.inl E)));exact .inr E;exact .inl (.inr (.inr (.inr h)))
def Hl{u:IS}(n1:∀b∈u,b∈F2\/w.heap.size<=b):∀b∈pb::mb::(F1++u),b∈pb::mb::(F1++F2)\/w.heap.size<=b:=λb h=>by simp only[zG,zD] at h⊢;rcases h with h|h|h|h;exact .inl (.inl h);exact .inl (.inr (.inl h));exact .inl (.inr (.inr (.inl h)));rcases n1 b h with E|E;exact .inl (.inr (.inr (.inr E)));exact .inr E
def A4{F':IS}(n:∀b∈F',b∈F\/w.heap.size<=b):∀b∈X++F',b∈X++F\/w.heap.size<=b:=λb u=>by rcases zD.1 u with h|h;exact .inl (zH _ h);rcases n b h with h|h;exact .inl (zI _ h);exact .inr h
def HM{F':IS}(E:∀b∈X,b<w.heap.size)(G:∀b∈X,b∉F)(n:∀b∈F',b∈F\/w.heap.size<=b):∀b∈X,b∉F':=λb u h=>by
 rcases n b h with h|h;exact G b u h;have:=E b u;omega
def oY.qR{M:eH}{E:IS}{J:List (Int×lG)}(h:oY w X pb db M fb defb mb sl sn F1 F2 J)(f:Fr F1 w w')(U:io w' fb E l)(G:∀b∈E,b∈F1\/w.heap.size<=b): oY w' X pb db { M with Q3:=l } fb defb mb sl sn E F2 J where
 cell:=by rw[f.block pb (eO h.cell) λu=>(h.sep.2.1 pb u).1 rfl];exact h.cell
 Q3:=U
 J9:=h.J9.j1 f λb u I=>(h.sep.2.1 b I).2.2 u
 map:=h.map.j1 f (λu=>(h.sep.2.1 mb u).2.1 rfl)
 Q0:=h.Q0
 rows:=h.rows.j1 (f.mono λb u _=>by simp[u]) (A4 (EA G))
 pE:=λb u=>yC (h.pE b u) f.size
 m7:=HM h.pE h.m7 (EA G)
 sep:=⟨h.sep.1,λb u=>by rcases G b u with R|R;exact h.sep.2.1 b R;have l1:=eO h.cell;have l2:=h.dJ;exact⟨oJ,oJ,λV=>by have:=h.J9.lt b V;omega⟩,h.sep.2.2⟩
 x4:=h.x4
 x9:=h.x9
def oY.xz{M:eH}{E:IS}{R:List (Int×lG)}(h:oY w X pb db M fb defb mb sl sn F1 F2 R)(f:Fr F2 w w')(U:io w' defb E l)(I:∀b∈E,b∈F2\/w.heap.size<=b): oY w' X pb db { M with J9:=l } fb defb mb sl sn F1 E R where
 cell:=by rw[f.block pb (eO h.cell) λu=>(h.sep.2.2 pb u).1 rfl];exact h.cell
 Q3:=h.Q3.j1 f λb u J=>(h.sep.2.1 b u).2.2 J
 J9:=U
 map:=h.map.j1 f (λu=>(h.sep.2.2 mb u).2 rfl)
 Q0:=h.Q0
 rows:=h.rows.j1 (f.mono λb u _=>by simp[u]) (A4 (Hl I))
 pE:=λb u=>yC (h.pE b u) f.size
 m7:=HM h.pE h.m7 (Hl I)
 sep:=⟨h.sep.1,λb u=>⟨(h.sep.2.1 b u).1,(h.sep.2.1 b u).2.1,λV=>by
  rcases I b V with G|G;exact (h.sep.2.1 b u).2.2 G;have:=h.Q3.lt b u;omega⟩,λb u=>by
  rcases I b u with G|G;exact h.sep.2.2 b G;have l1:=eO h.cell;have l2:=h.dJ;exact⟨oJ,oJ⟩⟩
 x4:=h.x4
 x9:=h.x9
def oY.sK{o:Obj}{M:eH}{J E:List (Int×lG)}(h:oY w X pb db M fb defb mb sl sn F1 F2 J)(U:jy jL (iz w mb o) mb (E.map λe=>(e.1,lS e.2)))(u:∀e∈E,e∈J\/eN (X++pb::mb::(F1++F2)) w e.2.2.1 e.2.2.2): oY (iz w mb o) X pb db { M with Q0:=E.map λe=>(e.1,e.2.1,e.2.2.2) } fb defb mb sl sn F1 F2 E:=by
 have f:Fr [mb] w (iz w mb o):=yv h.dJ o;have R:Fr (X++pb::mb::(F1++F2)) w (iz w mb o):=f.mono λb u _=>by simp only[zE] at u;subst u;simp
 have G:=h.rows.j1 R (F':=X++pb::mb::(F1++F2)) λb u=>.inl u;exact {
  cell:=by rw[f.block pb (eO h.cell) (oP h.sep.1)];exact h.cell
  Q3:=h.Q3.j1 f λb u=>by simpa using (h.sep.2.1 b u).2.1
  J9:=h.J9.j1 f λb u=>by simpa using (h.sep.2.2 b u).2
  map:=U
  Q0:=rfl
  rows:=⟨G.Q7,G.x5,λe V=>by rcases u e V with I|I;exact G.cM e I;exact I.j1 R λb u=>.inl u⟩
  pE:=λb u=>yC (h.pE b u) f.size
  m7:=h.m7
  sep:=h.sep
  x4:=h.x4
  x9:=h.x9 }
def eW.pS{X':IS}{M:eH}(h:eW w X pb db F M)(f:Fr X w w')(E:∀b∈X',b<w'.heap.size)(I:∀b∈X',b∈X\/w.heap.size<=b):eW w' X' pb db F M:=by
 obtain⟨fb,defb,mb,sl,sn,J,F2,U,rfl,h⟩:=h;have V:∀b∈pb::mb::(J++F2),b∉X:=λb u E=>h.m7 b E u;have G:=h.j1 (w':=w') f V (h.rows.j1 (f.mono λb u _=>zH _ u) λb u=>.inl u);refine⟨fb,defb,mb,sl,sn,J,F2,U,rfl,{ G with rows:=h.rows.j1 (f.mono λb u _=>zH _ u) λb u=>?_,pE:=E,m7:=λb u R=>?_ }⟩;rcases zD.1 u with u|u;rcases I b u with u|u;exact .inl (zH _ u);exact .inr u;exact .inl (zI _ u);rcases I b u with u|u;exact h.m7 b u R;have:=h.lt b R;omega
def eW.sep{M:eH}(h:eW w X pb db F M):∀b∈X,b∉F:=by obtain⟨fb,defb,mb,sl,sn,u,F2,E,rfl,h⟩:=h;exact h.m7
end
section
def qxD(h:Rd S w s l)(V:l.length<=1000000)(J:∀x:Int,(decide (x>=0)=decide (n∈l))->K x w): cW 227 [s.v,.u n] dm w K:=by refine qoj ?_;have R:=h.1;refine jv (λx w'=>w'=w/\∃i:Nat,x=i/\i<=l.length/\n∉l.take i) (λx _=>((l.length:Int)-x).toNat) ⟨rfl,0,rfl,oJ,oL⟩ ?_;rintro x w' ⟨rfl,i,rfl,hi,E⟩ X U;apply eB<;>intro G;have I:i<l.length:=(by have:=zC G;omega);refine Rd.at h i rfl (zA I) ?_;apply eB<;>intro G;have e:n=l[i]:=(oP G);refine J _ ?_;rw[zZ (show (i:Int)>=0 by omega),zZ (by rw[e];exact zW I)];have e:n≠l[i]:=(oP G);rw[gG _ oJ];refine U _ _ ⟨rfl,i+1,oL,oJ,?_⟩ oJ;rw[yG I];simp only[zD,zE,not_or];exact⟨E,e⟩;have:i=l.length:=(by have:=zB G;omega);subst this;rw[vA] at E;refine J _ ?_;rw[zU oM,zU E]
def qsQ{K:Bool->WP}(h:Rd S w s l)(E:l.length<=1000000)(G:K (decide (n∈l)) w): cW 186 [s.v,.u n] dp w K:=by refine qkH<|qxD h E λx I=>?_;rw[I];exact G
def qAy:∀w,(zeroValue 247).run prog w=.ok (.agg #[.b 0,.slice none 0 0]) w:=λw=>by kernel_rfl
def AU:prog.underlying Cx=some (.map 63 247):=by kernel_rfl
def Dh{E:List (Int×lG)}{K:((Int×Sl)×Bool)->Prop}(h:lh jL w mb (E.map λe=>(e.1,lS e.2)))(I:∀q,look n E=some q->K ((q.2.1,q.2.2.1),true))(J:look n E=none->K ((0,dT),false)): fG [iF.agg [Cell.int .u8,Cell.slice],iF.one Cell.bool] (λw'=>(Instr.lookup Cx (.map (some mb)) (.u n) true).run prog w') w K:=by
 have:=qsv (P:=prog) AU qAy vu h n;rw[ye,wI] at this;cases G:look n E with
 | none=>
  rw[G] at this;exact sh (ts:=[iF.agg [Cell.int .u8,Cell.slice],iF.one Cell.bool]) ((0,dT),false) this (J G)
 | some q=>
  rw[G] at this;exact sh (ts:=[iF.agg [Cell.int .u8,Cell.slice],iF.one Cell.bool]) ((q.2.1,q.2.2.1),true) this (I q G)
section
variable {w:IK} {X:IS} {pb:Nat} {db:Option Addr} {F:IS} {M:eH}
def qxK(h:eW w X pb db F M)(E:K M.Q3.length w):cW 129 [dS pb] dm w K:=by obtain⟨fb,defb,mb,sl,sn,G,F2,I,rfl,u⟩:=h;refine qjF<|fO (iv u.cell (pW fb) (Aj u.x4) ?_);exact qtw u.Q3 E
def gI (M:eH) (n:Int):Bool:=!(decide (n<2)||decide (n>=M.J1.2.getD 0 0)||decide (n∈M.Q7)||decide (n∈M.Q3)||decide (n∈M.J9))&&(look n M.Q0).isNone
def qq8{K:Bool->WP}(h:eW w X pb db F M)(hl:M.Q7.length<=1000000)(hk:∀w',Fr [] w w'->K (gI M n) w'):cW 155 [dS pb,.u n] dp w K:=by
 obtain⟨fb,defb,mb,sl,sn,F1,F2,fs,rfl,E⟩:=h;refine qjJ<|iC (λb w'=>b=(decide (n<2)||decide (n>=M.J1.2.getD 0 0)||decide (n∈M.Q7)||decide (n∈M.Q3)||decide (n∈M.J9))/\w'=w) ?_ ?_;refine eB (λG=>⟨by rw[G];rfl,rfl⟩) λG=>fO ?_;simp only[Addr.j3];refine iv E.cell (M.J1.2.getD 0 0) (HW E.x4 0 oM)<|eB (λI=>⟨by rw[G,I];rfl,by trivial⟩) λI=>fO (iv E.cell sl (GJ E.x4) ?_);refine qsQ E.rows.Q7 hl<|eB (λJ=>⟨by rw[G,I,J];rfl,by trivial⟩) λJ=>fO (iv E.cell (pW fb) (Aj E.x4) ?_);refine EK E.Q3<|eB (λR=>⟨by rw[G,I,J,R];rfl,by trivial⟩) λR=>fO<|iv E.cell (pW defb) (Ee E.x4)<|EK E.J9 ⟨by rw[G,I,J,R];rfl,by trivial⟩;rintro b w' ⟨rfl,rfl⟩;have V:(look n M.Q0).isNone=(look n fs).isNone:=by rw[E.Q0,wI λx:lG=>(x.1,x.2.2)];cases look n fs<;>rfl
 apply eB<;>intro G;have:=hk w' (.refl _ _);rw[gI,G] at this;exact this;refine fO ?_;simp only[Addr.j3];refine iv E.cell (some mb) (tN E.x4)<|Dh E.map.at (λq hq=>?_) λhq=>?_;refine oB (oE [] w') λr w1 e1 f1 U=>oH U 0 rfl _ rfl rfl rfl λw2 U _=>?_
 have:=hk w2 U.fr;rw[gI,G,V,hq] at this;exact this;refine oB (oE [] w') λr w1 e1 f1 U=>oH U 0 rfl _ rfl rfl rfl λw2 U _=>?_;have:=hk w2 U.fr;rw[gI,G,V,hq] at this;exact this
def gF (M:eH) (kind:Int) (body:IT):IV×eH:=
 if M.Q5 then ((0,7),M) else if body.length>500 then ((0,3),M) else
 match M.Q3 with
 | []=>((0,6),M)
 | n::r=>((n,0),{ M with Q3:=r,Q0:=ir n (kind,body) M.Q0 })
def qxI{kind:Int}{K:IV->WP}(h:eW w X pb db F M)(hb:eN (X++F) w s body)(hl:body.length<=100000)(hf:M.Q3.length<=1000000)(hk:∀F' w',eW w' X pb db F' (gF M kind body).2->Fr F w w'->(∀b∈F',b∈F\/w.heap.size<=b)->K (gF M kind body).1 w'): cW 164 [dS pb,.b kind,s.v] dx w K:=by
 have h0:=h;obtain⟨fb,defb,mb,sl,sn,F1,F2,fs,rfl,hx⟩:=h;have hlen:=hb.1;refine qjD (p:=pW pb) (body:=s) ?_;have same:∀ {e:Int},gF M kind body=((0,e),M)->K (0,e) w:=by
  intro e he;have:=hk _ w (by rw[he];exact h0) (.refl _ _) (λb hb=>.inl hb);rw[he] at this;exact this
 refine fO (iv (c:=.bool) hx.cell M.Q5 (Aw hx.x4) ?_);refine eB (λhc=>same (by rw[gF,iP hc])) λhc=>?_;have ho:¬M.Q5=true:=(by rw[hc];decide);apply cD<;>intro hc;have:=hc;exact same (by rw[gF,iN ho,iP]);have hb5:¬body.length>500:=oJ;refine fO (iv (c:=.ptr) hx.cell (pW fb) (Aj hx.x4) ?_);refine qzd hx.Q3 hf λF1' w1 hp1 f1 n1=>?_;have hx1:=hx.qR f1 hp1 n1;have fF:Fr (pb::mb::(F1++F2)) w w1:=f1.mono λb hb _=>by simp[hb]
 have nF:=EA (w:=w) (pb:=pb) (mb:=mb) (F2:=F2) n1;cases hfr:M.Q3 with
 | nil=>
  have hmv:gF M kind body=((0,6),M):=(by rw[gF,iN ho,iN hb5,hfr]);rw[hfr] at hp1 hx1;refine Im rfl ?_;have hM:{ M with Q3:=(ur []).2 }=M:=(by show { M with Q3:=[] }=M;rw[<- hfr]);rw[hM] at hx1;have:=hk _ w1 (by rw[hmv];exact⟨fb,defb,mb,sl,sn,F1',F2,fs,rfl,hx1⟩) fF nF;rw[hmv] at this;exact this
 | cons n r=>
  have hmv:gF M kind body=((n,0),{ M with Q3:=r,Q0:=ir n (kind,body) M.Q0 }):=(by rw[gF,iN ho,iN hb5,hfr]);rw[hfr] at hp1 hx1;refine Io rfl<|fO ?_;simp only[Addr.j3];have c1:w1.heap[pb]?=_:=hx1.cell;refine iv (w:=w1.drew) (c:=.map) c1 (some mb) (tN hx.x4) ?_;have hb1:eN (X++pb::mb::(F1'++F2)) w1.drew s body:=hb.j1 (fF.drew.mono λb hb _=>zI _ hb) (A4 nF);refine Aa hb1 oJ λs2 B2 w2 b2 f2 n2 _ _=>?_;have f12:Fr [] w1 w2:=((Fr.refl [] w1).drew).trans f2;have hx2:=hx1.q8 f12;refine iS (by show _=_;rw[jC hx2.cell];exact tN hx.x4) ?_;obtain⟨o,hr,hm⟩:=G9 (v:=lS (kind,s2,body)) AU hx2.map n;refine Dr _ hr ?_;have hm':jy jL (iz w2 mb o) mb ((ir n (kind,s2,body) fs).map λe=>(e.1,lS e.2)):=(by rw[En lS];exact hm);have hx3:=hx2.sK hm' λe he=>by
   rcases Dz he with h1|h1;exact .inl h1;subst h1;refine .inr (b2.jQ lY λb hb hb2=>?_);have l2:w1.heap.size<=b:=n2 b hb;rcases zD.1 hb2 with hb2|hb2;have:=hx1.pE b hb2;omega;have:=hx1.lt b hb2;omega
  have hM:(ir n (kind,s2,body) fs).map (λe=>(e.1,e.2.1,e.2.2.2))=ir n (kind,body) M.Q0:=(by rw[hx.Q0];exact En (λx:lG=>(x.1,x.2.2)) n (kind,s2,body) fs);rw[hM] at hx3;have f3:Fr (pb::mb::(F1++F2)) w (iz w2 mb o):=(fF.J0 f12 oL).J0 (yv hx2.dJ o) λb hb=>by simp only[zE] at hb;subst hb;exact .inl oL
  have:=hk _ (iz w2 mb o) (by rw[hmv];exact⟨fb,defb,mb,sl,sn,F1',F2,_,rfl,hx3⟩) f3 nF;rw[hmv] at this;exact this
end
end
section
def oY.cX{M:eH}{u:List (Int×lG)}(h:oY w X pb db M fb defb mb sl sn F1 F2 u)(n:Int):look n M.Q0=(look n u).map λq=>(q.1,q.2.1,q.2.2.2):=by rw[h.Q0,wI λx:lG=>(x.1,x.2.2)]
section
variable {w:IK} {X:IS} {pb:Nat} {db:Option Addr} {F:IS} {M:eH}
def jJ (M:eH) (n kind:Int) (body:IT):Int×eH:=
 if M.Q5 then (7,M) else match look n M.Q0 with
 | none=>(10,M)
 | some _=>if body.length>500 then (3,M) else (0,{ M with Q0:=ir n (kind,body) M.Q0 })
def qy9{kind:Int}(h:eW w X pb db F M)(G:eN (X++F) w s body)(hl:body.length<=100000)(hk:∀w',eW w' X pb db F (jJ M n kind body).2->Fr F w w'->K (jJ M n kind body).1 w'): cW 163 [dS pb,.u n,.b kind,s.v] dm w K:=by
 have h0:=h;obtain⟨fb,defb,mb,sl,sn,F1,F2,fs,rfl,I⟩:=h;have aq:=G.1;refine qkx ?_;have J:∀ {e:Int} {w':IK},jJ M n kind body=(e,M)->Fr [] w w'->K e w':=by
  intro e w' he hf;have:=hk w' (by rw[he];exact h0.q8 hf) (hf.mono λb G=>by cases G);rw[he] at this;exact this
 have R:=I.cX n;refine fO (iv I.cell M.Q5 (Aw I.x4) ?_);refine eB (λhc=>J (by rw[jJ,iP hc]) (.refl _ _)) λhc=>?_;have ho:¬M.Q5=true:=(by rw[hc];decide);refine fO ?_;simp only[Addr.j3];refine iv I.cell (some mb) (tN I.x4)<|Dh I.map.at (λq hq=>?_) λhq=>?_;rw[hq] at R;refine oB (oE [] w) λr w1 e1 f1 E=>oH E 0 rfl _ rfl rfl rfl λw2 E _=>Io rfl ?_;apply cD<;>intro hc
 have:=hc;exact J (by rw[jJ,iN ho,R];dsimp only [Option.map_some];rw[iP]) E.fr;have am:¬body.length>500:=oJ;have ac:jJ M n kind body=(0,{ M with Q0:=ir n (kind,body) M.Q0 }):=(by rw[jJ,iN ho,R];dsimp only [Option.map_some];rw[iN am]);have ab:=I.q8 E.drew.fr;refine fO<|iv (w:=w2.drew) (c:=.map) ab.cell (some mb) (tN I.x4)<|Aa (G.q8 E.drew.fr) oJ λs2 B2 w3 b2 f2 n2 _ _=>?_;have ad:Fr [] w w3:=E.drew.fr.trans f2;have V:=I.q8 ad;refine iS (by show _=_;simp only[Addr.j3];rw[jC V.cell];exact tN I.x4) ?_;obtain⟨o,hr,hm⟩:=G9 (v:=lS (kind,s2,body)) AU V.map n;refine Dr _ hr ?_;have an:jy jL (iz w3 mb o) mb ((ir n (kind,s2,body) fs).map λe=>(e.1,lS e.2)):=(by rw[En lS];exact hm);have ae:=V.sK an λe he=>by rcases Dz he with h1|h1;exact .inl h1;subst h1;refine .inr (b2.jQ lY λb G U=>?_);have l2:w2.drew.heap.size<=b:=n2 b G;rcases zD.1 U with U|U;have:b<w2.heap.size:=ab.pE b U;have:w2.drew.heap.size=w2.heap.size:=rfl;omega;have:b<w2.heap.size:=ab.lt b U;have:w2.drew.heap.size=w2.heap.size:=rfl;omega
 have hM:(ir n (kind,s2,body) fs).map (λe=>(e.1,e.2.1,e.2.2.2))=ir n (kind,body) M.Q0:=(by rw[I.Q0];exact En (λx:lG=>(x.1,x.2.2)) n (kind,s2,body) fs);rw[hM] at ae;have f4:Fr (pb::mb::(F1++F2)) w (iz w3 mb o):=(ad.mono (T:=pb::mb::(F1++F2)) λb G=>by cases G).J0 (yv V.dJ o) λb G=>by simp only[zE] at G;subst G;exact .inl oL
 have:=hk (iz w3 mb o) (by rw[ac];exact⟨fb,defb,mb,sl,sn,F1,F2,_,rfl,ae⟩) f4;rw[ac] at this;exact this;rw[hq] at R;exact oB (oE [] w) λr w1 e1 f1 E=>oH E 0 rfl _ rfl rfl rfl λw2 E _=>Im rfl<|J (by rw[jJ,iN ho,R];rfl) E.fr
def fK (M:eH) (n:Int):Int×eH:=
 if M.Q5 then (7,M) else match look n M.Q0 with
 | some _=>(0,{ M with Q0:=jN n M.Q0,Q3:=ins n M.Q3 })
 | none=>if gI M n then (0,{ M with J9:=ins n M.J9 }) else (10,M)
def qxG(h:eW w X pb db F M)(hl:M.Q7.length<=1000000)(hf:M.Q3.length<=1000000)(hd:M.J9.length<=1000000)(hk:∀F' w',eW w' X pb db F' (fK M n).2->Fr F w w'->(∀b∈F',b∈F\/w.heap.size<=b)->K (fK M n).1 w'): cW 137 [dS pb,.u n] dm w K:=by
 have h0:=h;obtain⟨fb,defb,mb,sl,sn,F1,F2,fs,rfl,J⟩:=h;refine qjC ?_;have ab:∀ {e:Int} {w':IK},fK M n=(e,M)->Fr [] w w'->K e w':=by
  intro e w' he hf;have:=hk _ w' (by rw[he];exact h0.q8 hf) (hf.mono λb G=>by cases G) (λb G=>.inl G);rw[he] at this;exact this
 have R:=J.cX n;refine fO (iv J.cell M.Q5 (Aw J.x4) ?_);refine eB (λhc=>ab (by rw[fK,iP hc]) (.refl _ _)) λhc=>?_;have ho:¬M.Q5=true:=(by rw[hc];decide);refine fO ?_;simp only[Addr.j3];refine iv J.cell (some mb) (tN J.x4)<|Dh J.map.at (λq hq=>?_) λhq=>?_;rw[hq] at R;refine oB (oE [] w) λr w1 e1 f1 E=>oH E 0 rfl _ rfl rfl rfl λw2 E _=>Im rfl ?_;have U:fK M n=(0,{ M with Q0:=jN n M.Q0,Q3:=ins n M.Q3 }):=(by rw[fK,iN ho,R];rfl);have V:=J.q8 E.fr;refine fO<|iv V.cell (some mb) (tN J.x4) ?_;obtain⟨o,hr,hm⟩:=jy.del (ty:=0) AU vu V.map n;refine FS (ts:=[]) () _ hr ?_;have ar:jy jL (iz w2 mb o) mb ((jN n fs).map λe=>(e.1,lS e.2)):=by
  rw[qrv lS];rw[ye] at hm;unfold jN;cases hl:look n (fs.map λe=>(e.1,lS e.2)) with
  | none=>rw[hl] at hm;exact hm
  | some q=>rw[hl] at hm;exact hm
 have I:=V.sK ar λe he=>.inl (qr3 he);have hM:(jN n fs).map (λe=>(e.1,e.2.1,e.2.2.2))=jN n M.Q0:=by rw[J.Q0];exact qrv (λx:lG=>(x.1,x.2.2)) n fs
 rw[hM] at I;have f3:Fr (pb::mb::(F1++F2)) w (iz w2 mb o):=(E.fr.mono (T:=pb::mb::(F1++F2)) λb G=>by cases G).J0 (yv V.dJ o) λb G=>by simp only[zE] at G;subst G;exact .inl oL
 refine fO (iv I.cell (pW fb) (Aj J.x4) ?_);refine Hs I.Q3 hf λav w4 ad f4 n4=>?_;have ae:=I.qR f4 ad n4;have hs:w.heap.size<=(iz w2 mb o).heap.size:=by rw[ux];exact E.fr.size
 have:=hk _ w4 (by rw[U];exact⟨fb,defb,mb,sl,sn,av,F2,_,rfl,ae⟩) (f3.J0 f4 λb G=>.inl (by simp[G])) λb G=>by rcases EA n4 b G with h1|h1;exact .inl h1;exact .inr (zL hs h1)
 rw[U] at this;exact this;rw[hq] at R;refine oB (oE [] w) λr w1 e1 f1 E=>oH E 0 rfl _ rfl rfl rfl λw2 E _=>Io rfl<|qq8 (h0.q8 E.fr) hl λw3 f3=>?_;have aa:=E.fr.trans f3;apply eB<;>intro hc;have hu:gI M n=false:=(oP hc);exact ab (by rw[fK,iN ho,R];show (if gI M n then _ else _)=_;rw[hu];rfl) aa;have hu:gI M n=true:=(oP hc);have U:fK M n=(0,{ M with J9:=ins n M.J9 }):=by rw[fK,iN ho,R];show (if gI M n then _ else _)=_;rw[hu];rfl
 have I:=J.q8 aa;refine fO (iv I.cell (pW defb) (Ee J.x4) ?_);refine Hs I.J9 hd λay w4 ad f4 n4=>?_;have ae:=I.xz f4 ad n4;have:=hk _ w4 (by rw[U];exact⟨fb,defb,mb,sl,sn,F1,ay,_,rfl,ae⟩) ((aa.mono (T:=pb::mb::(F1++F2)) λb G=>by cases G).J0 f4 λb G=>.inl (by simp[G])) λb G=>by rcases Hl n4 b G with h1|h1;exact .inl h1;exact .inr (zL aa.size h1)
 rw[U] at this;exact this
end
end
def rJ (e:MapEntry):Int:=match e.key with | .int _ n=>n|_=>0
def qyl{es:List MapEntry}(h:ng jL es f):es.map rJ=f.map (·.1)/\∀e∈es,e.key=jL (rJ e):=by
 induction es generalizing f with
 | nil=>cases f with
  | nil=>exact⟨rfl,oL⟩
  | cons p f=>simp[ng] at h
 | cons e es ih=>cases f with
  | nil=>simp[ng] at h
  | cons p f=>
   simp only[ng,xP,List.cons.injEq,Prod.mk.injEq] at h;obtain⟨⟨E,V⟩,I⟩:=h;obtain⟨J,R⟩:=ih I;have G:rJ e=p.1:=(by unfold rJ;rw[E]);refine⟨by rw[xP,xP,G,J],λU u=>?_⟩;rcases zG.1 u with rfl|u;rw[G];exact E;exact R U u
def qqc{β:Type}{g:β->Nat}:∀ {l:List β} {e:β},(l.map g).Pairwise (· < ·)->e∈l->l.Perm (e::l.filter λx=>!(g x==g e))
 | x::l,e,u,E=>by
  rw[xP,yJ] at u;rcases zG.1 E with rfl|E;have:(e::l).filter (λx=>!(g x==g e))=l:=by
   rw[filter_cons_of_neg oL];exact filter_eq_self.2 λy G=>by
    have:=u.1 (g y) (zY G);have h:g y≠g e:=oJ;simp[h]
  rw[this];have I:=u.1 (g e) (zY E);have h:g x≠g e:=oJ;rw[filter_cons_of_pos (by simp[h])];exact ((qqc u.2 E).cons x).trans (List.Perm.swap e x _)
def left (es:Array MapEntry) (seen:Array Nat):List MapEntry:=es.toList.filter λe=>!seen.toList.contains e.born
def qwP{es:Array MapEntry}{seen:Array Nat}{e:MapEntry}(hs:(es.toList.map (·.born)).Pairwise (· < ·))(he:e∈es.toList)(hn:e.born∉seen.toList):(left es seen).Perm (e::left es (seen.push e.born)):=by have h1:left es (seen.push e.born)=(left es seen).filter λx=>!(x.born==e.born):=(by rw[left,left,filter_filter];congr 1;funext x;rw[Array.toList_push];by_cases h:x.born=e.born<;>simp[h]);rw[h1];refine qqc (g:=λx:MapEntry=>x.born) ?_ (mem_filter.2 ⟨he,by simpa using hn⟩);exact hs.sublist (filter_sublist.map _)
def seenAt (w:IK) (u:Nat):Nat:=match w.heap[u]? with|some (.mapIter _ _ h _)=>h.size|_=>0
def qqo{E:Nat}{a:Option Nat}{b c:Nat}{u:Array Nat}(h:w.heap[E]?=some (.mapIter a b u c)):seenAt w E=u.size:=by unfold seenAt;rw[h]
def qqA{rk:Nat}{K:Sl->WP}(hm:jy jL w mb f)(hrk:w.heap[rk]?=some (.c #[.map (some mb)] T))(hf:f.length<=100000)(hk:∀s' B l' w',lO w' s' l' B->l'.Perm (f.map (·.1))->Fr [] w w'->(∀b∈B,w.heap.size<=b)->K s' w'): cW 248 [.slice none 0 0,.func (.func 224) #[] #[dS rk]] dl w K:=by
 refine qjK (s:=dT) ?_;obtain⟨es,c,hb,he,hs,hc⟩:=hm;obtain⟨hkm,hkey⟩:=qyl he;have hesl:es.toList.length=f.length:=(by have:=IH List.length hkm;simpa using this);have hbW:∀ {w':IK},Fr [] w w'->w'.heap[mb]?=some (.map es c):=λf=>by rw[f.block mb (eO hb) oL];exact hb
 have hrW:∀ {w':IK},Fr [] w w'->w'.heap[rk]?=some (.c #[.map (some mb)] T):=λf=>by rw[f.block rk (eO hrk) oL];exact hrk
 refine oB (oE [] w) λr1 w1 e1 f1 ho=>ef.kz (lb:=[dS rk]) ho rfl oK λDm l R Bz J E E0 w6 el eD f56 ho6 hy=>qnO<|iv (c:=.map) (hrW ho6.fr) (some mb) rfl<|FS (ts:=dw) _ _ (qxm AU (hbW ho6.fr)) ?_;have ho7:=ho6.alloc (.mapIter (some mb) c #[] c);generalize hit:w6.heap.size=it at ho7;refine jv (λ_ w'=>∃(seen:Array Nat) (so:Sl) (xs:IT) (Bo:IS),
   ef [] w w' [(it,.mapIter (some mb) c seen c),(l,R),(Dm,.deferred (some [])),(r1,.c #[so.v] 172)]/\(xs++(left es seen).map rJ).Perm (f.map (·.1))/\xs.length=seen.size/\lO w' so xs Bo/\
   ∀b∈Bo,w.heap.size<=b/\b∉[it,l,Dm,r1]) (λ_ w'=>f.length-seenAt w' it)
  ⟨#[],dT,[],[],ho7,?_,rfl,.nil _ _ _,oL⟩ ?_
 have:left es #[]=es.toList:=(by unfold left;exact filter_eq_self.2 oL);rw[this,hkm];exact .refl _;rintro _ w8 ⟨seen,so,xs,Bo,ho8,hperm,hxl,hbu,hBo⟩ X hX;have hxs:xs.length+(left es seen).length=f.length:=(by have:=hperm.length_eq;simpa using this);refine qAA (hbW ho8.fr) (ho8.at (i:=0) rfl) hc (λhall=>?_) λe hem hne w9 hsame=>?_;have hl0:left es seen=[]:=filter_eq_nil_iff.2 λe he=>by simpa using hall e he
 rw[hl0,map_nil,xI] at hperm;refine .inl ⟨ho8.at (i:=1) rfl,?_⟩;have ho9:=ho8.iz (o':=E0) 1 rfl;have hbu9:=hbu.j1 (oQ (eO (ho8.at (i:=1) rfl)) E0) (λb hb hm=>by simp only[zE] at hm;subst hm;exact (hBo _ hb).2 oL);exact oA (c:=.slice) ho9 3 rfl so rfl<|ef.eC ho9.lX 2 rfl λw10 hd=>hk so Bo xs w10 (hbu9.j1 hd.fr λb hb=>(hBo b hb).2) hperm (ho9.back hd.fr) λb hb=>(hBo b hb).1;have ho9:=(ho8.q8 (.of_same hsame)).iz (o':=.mapIter (some mb) c (seen.push e.born) c) 0 rfl;have hbu9:lO (Pt.iz w9 it (.mapIter (some mb) c (seen.push e.born) c)) so xs Bo:=(hbu.q8 (.of_same hsame)).j1 (oQ (eO ((ho8.q8 (.of_same hsame)).at (i:=0) rfl)) _) (λb hb hm=>by simp only[zE] at hm;subst hm;exact (hBo _ hb).2 oL);generalize hw10:Pt.iz w9 it (.mapIter (some mb) c (seen.push e.born) c)=w10 at ho9 hbu9;refine qAh (hbW ho9.fr) (ho9.at (i:=0) rfl) hem hs ?_;rw[hkey e hem];refine hy (rJ e) w10 _ (ho9.at (i:=1) rfl) ?_;dsimp only;refine⟨ho9.at (i:=1) rfl,?_⟩;have hoA:=ho9.iz (o':=Bz) 1 rfl;have hbuA:=hbu9.j1 (oQ (eO (ho9.at (i:=1) rfl)) Bz) (λb hb hm=>by simp only[zE] at hm;subst hm;exact (hBo _ hb).2 oL);refine oA (c:=.slice) hoA 3 rfl so rfl<|H5 hbuA oJ λs11 B11 w11 b11 f11 n11=>?_;have hLlt:∀p∈[it,l,Dm,r1],p<(Pt.iz w10 l Bz).heap.size:=λp hp=>by have hlt:=λ(k:Nat) (q:Nat×Obj) (hq:_[k]?=some q)=>eO (hoA.at (i:=k) hq);simp only[zG,xY,or_false] at hp;rcases hp with rfl|rfl|rfl|rfl;exact hlt 0 _ rfl;exact hlt 1 _ rfl;exact hlt 2 _ rfl;exact hlt 3 _ rfl
 have hB11:∀b∈B11,w.heap.size<=b/\b∉[it,l,Dm,r1]:=λb hb=>by rcases n11 b hb with h|h;exact hBo b h;refine⟨zL hoA.fr.size h,λhm=>?_⟩;exact Nat.lt_irrefl _ (yC (hLlt b hm) h)
 have hoB:=hoA.j1 f11 (λb hb=>.inr (hBo b hb).1) λp hp hb=>(hBo _ hb).2 (zY (f:=(·.1)) hp);refine oD hoB 3 rfl _ λw12 hoC f12=>⟨hoC.at (i:=1) rfl,?_⟩;have hoD:=hoC.iz (o':=R) 1 rfl;have b12:=(b11.j1 f12 (λb hb hm=>by simp only[zE] at hm;subst hm;exact (hB11 _ hb).2 oL)).j1 (oQ (eO (hoC.at (i:=1) rfl)) R) (λb hb hm=>by simp only[zE] at hm;subst hm;exact (hB11 _ hb).2 oL);refine Io rfl ?_;have hpk:=qwP hs hem hne;refine hX _ _ ⟨seen.push e.born,s11,xs++[rJ e],B11,hoD,?_,by simp[hxl],b12,hB11⟩ ?_;refine List.Perm.trans ?_ hperm;rw[zV];exact (hpk.symm.map rJ).append_left xs;have h1:=qqo (ho8.at (i:=0) rfl);have h2:seenAt (Pt.iz w12 l R) it=(seen.push e.born).size:=qqo (hoD.at (i:=0) rfl);have h3:=hpk.length_eq;rw[yI] at h3;show f.length-seenAt (Pt.iz w12 l R) it<f.length-seenAt w8 it;rw[h1,h2,Array.size_push];omega
abbrev mw:={l:IT // l.length=512}
def jA (b:mw):List IL:=b.1.map (Value.int .u8)
def tM(b:mw):(jA b).length=512:=by rw[jA,zK,b.2]
def mz (x:Int×mw):List IL:=Value.int .i64 x.1::jA x.2
def wj(x:Int×mw):(mz x).length=513:=by rw[mz,yI,tM]
def mw.zero:mw:=⟨zs 512,qj 512⟩
structure dV where
 Q8:List mw
 Q9:List (Int×mw)
 cK:Int
 down:Bool
 writes:Int
variable {D:dV}
structure dV.Ok (D:dV):Prop where
 at_:∀ x∈D.Q9,0<=x.1/\x.1<D.Q8.length
 cK:-1<=D.cK/\D.cK<=1000000000
 Q8:D.Q8.length<=4096
 Q9:D.Q9.length<=1000000
 writes:0<=D.writes/\D.writes<=1000000000
 pc:∀ b∈D.Q8,eX b.1
 oW:∀ x∈D.Q9,eX x.2.1
abbrev DT:IM:=263
def jU (D:dV) (sb:Nat) (h:Sl):Array IL:=#[.slice (pW sb) D.Q8.length D.Q8.length,h.v,.i D.cK,.bool D.down,.i D.writes]
def fl (w:IK) (db:Nat) (F:IS) (D:dV):Prop:=
 ∃(sb:Nat) (T:IM) (h:Sl) (B:IS),F=db::sb::B/\(db::sb::B).Nodup/\w.heap[db]?=some (.c (jU D sb h) DT)/\w.heap[sb]?=some (.c (D.Q8.flatMap jA).toArray T)/\fj mz 513 w h D.Q9 B
def fl.j1{w w':IK}{db:Nat}{F S:IS}{D:dV}(h:fl w db F D)(f:Fr S w w')(u:∀b∈F,b∉S):fl w' db F D:=by obtain⟨sb,T,E,B,rfl,J,G,I,R⟩:=h;exact⟨sb,T,E,B,rfl,J,by rw[f.block db (eO G) (u _ oL)];exact G,by rw[f.block sb (eO I) (u _ oL)];exact I,R.j1 f λb U=>u b (by simp[U])⟩
def fl.q8{db:Nat}(h:fl w db F D)(f:Fr [] w w'):fl w' db F D:=h.j1 f (λ_ _ h=>by cases h)
def fl.lt{w:IK}{db:Nat}{F:IS}{D:dV}(h:fl w db F D):∀b∈F,b<w.heap.size:=by obtain⟨sb,T,E,B,rfl,R,G,I,J⟩:=h;intro b u;simp only[zG] at u;rcases u with rfl|rfl|u;exact eO G;exact eO I;exact J.lt b u
def fl.cell{db:Nat}(h:fl w db F D):∃sb u,w.heap[db]?=some (.c (jU D sb u) DT):=by obtain⟨sb,T,u,B,rfl,G,E,I,J⟩:=h;exact⟨sb,u,E⟩
def fl.mem{db:Nat}(h:fl w db F D):db∈F:=by obtain⟨sb,T,u,B,rfl,_⟩:=h;simp
def tk (D:dV) (sb c:Nat) (h:Sl):Array IL:=#[.slice (pW sb) D.Q8.length c,h.v,.i D.cK,.bool D.down,.i D.writes]
def xe (w:IK) (db:Nat) (F:IS) (D:dV) (c:Nat) (Z:List IL):Prop:=
 ∃(sb:Nat) (T:IM) (h:Sl) (B:IS),F=db::sb::B/\(db::sb::B).Nodup/\w.heap[db]?=some (.c (tk D sb c h) DT)/\w.heap[sb]?=some (.c (D.Q8.flatMap jA++Z).toArray T)/\fj mz 513 w h D.Q9 B
def fl.z{db:Nat}(h:fl w db F D):xe w db F D D.Q8.length []:=by obtain⟨sb,T,u,B,rfl,E,G,I,J⟩:=h;exact⟨sb,T,u,B,rfl,E,G,by rw[xI];exact I,J⟩
def fl.x8{db:Nat}{D':dV}{sb:Nat}{E:Sl}(h:fl w db F D)(hc:w.heap[db]?=some (.c (jU D sb E) DT))(f:Fr [db] w w')(hs:D'.Q8=D.Q8)(hw:D'.Q9=D.Q9)(R:w'.heap[db]?=some (.c (jU D' sb E) DT)):fl w' db F D':=by
 obtain⟨G,T,u,B,rfl,I,h1,h2,h3⟩:=h;have J:G=sb/\u=E:=by have q:=h1.symm.trans hc;have q0:=IH (λo=>match o with|some (Obj.cells U _ _)=>(match U[0]? with|some (Value.slice (some a) _ _)=>a.block|_=>0)|_=>0) q;have q1:=IH (λo=>match o with|some (Obj.cells U _ _)=>U[1]? | _=>none) q;refine⟨q0,?_⟩;have q2:Value.slice u.a u.len u.cap=Value.slice E.a E.len E.cap:=yO q1;cases E;cases u;simp only[Value.slice.injEq] at q2;obtain⟨rfl,rfl,rfl⟩:=q2;rfl
 obtain⟨rfl,rfl⟩:=J;have V:G≠db:=λe=>by rw[e] at I;simp at I
 have hB:∀b∈B,b∉[db]:=λb hb J=>by simp at J;subst J;simp at I;exact I.1.2 hb
 exact⟨G,T,u,B,rfl,I,R,by rw[hs,f.block G (eO h2) (oP V)];exact h2,by rw[hw];exact h3.j1 f hB⟩
def Ff{db:Nat}(h:fl w db F D)(u:K D.Q8.length w):cW 140 [dS db] dm w K:=by refine qjA ?_;obtain⟨sb,E,G⟩:=h.cell;refine fO (iv G ⟨pW sb,D.Q8.length,D.Q8.length⟩ rfl ?_);exact u
def nP (h:Nat):dV:=⟨List.replicate h .zero,[],-1,false,0⟩
def qzM{n:Nat}(h:n<=4096):(nP n).Ok:=
 ⟨λ_ h=>(by cases h),⟨by show (-1:Int)<=-1;decide,by show (-1:Int)<=1000000000;decide⟩,by rw[nP];simpa using h,by simp[nP],by simp[nP],λb u=>by rw[eq_of_mem_replicate u];exact eX.zs 512,λ_ h=>(by cases h)⟩
def qs6(n:Nat)(b:mw):(List.replicate n (jA b)).flatten=(List.replicate n b).flatMap jA:=by rw[flatMap_def,map_replicate]
set_option maxRecDepth 100000 in
def qy1{h:Int}{K:Option Addr×Int->WP}(G:(h<8\/h>4096)->K (none,1) w)(R:8<=h->h<=4096->∀db F w',fl w' db F (nP h.toNat)->Fr [] w w'->(∀b∈F,w.heap.size<=b)->K (pW db,0) w'): cW 106 [.i h] dP w K:=by
 refine qs2<|iC (λb w'=>b=decide (h<8\/h>4096)/\w'=w) ?_ ?_;apply eB<;>intro E;exact⟨by rw[zZ (Or.inl (zC E))],rfl⟩;have:=zB E;exact⟨by simp[this],rfl⟩;rintro b w1 ⟨rfl,rfl⟩;refine eB (λE=>G (zC E)) λE=>?_;have hr:=zB E;have U:8<=h:=oJ;have V:h<=4096:=oJ;obtain⟨n,rfl⟩:∃n:Nat,h=n:=⟨h.toNat,oJ⟩;refine ef.mkN (zero:=jA mw.zero) (oE [] w1) (tM _) oJ oJ oJ oJ λsb w2 e2 u=>ef.new u λdb w3 e3 s3 u=>?_;have I:(List.replicate (n:Int).toNat (jA mw.zero)).flatten=((nP n).Q8).flatMap jA:=(by rw[zJ];exact qs6 n _);refine R U V db [db,sb] w3 ⟨sb,296,dT,[],rfl,?_,?_,?_,.nil _ _ _⟩ u.fr (λb J=>?_);have:=u.nodup;simpa using this;have:=u.at (i:=0) rfl;rw[this];simp[jU,nP];have:=u.at (i:=1) rfl;rw[this,zJ,<- I,zJ];simp at J;have:=u.own;rcases J with rfl|rfl;have:=u.own (b,_) (yF (i:=0) rfl);simpa using this;have:=u.own (b,_) (yF (i:=1) rfl);simpa using this
def iA (D:dV):dV×Bool:=if D.cK=0 then ({ D with down:=true },true) else if D.cK>0 then ({ D with cK:=D.cK-1 },false) else (D,false)
def qv8{db:Nat}{K:Bool->WP}(h:fl w db F D)(hD:D.cK<=1000000000)(V:∀w',fl w' db F (iA D).1->Fr [db] w w'->K (iA D).2 w'): cW 171 [dS db] dp w K:=by
 refine qmA ?_;obtain⟨sb,I,J⟩:=h.cell;have u:ef [db] w w [(db,.c (jU D sb I) DT)]:=⟨by simpa using J,oL,.refl _ _,oL⟩;refine fO (IQ u 0 rfl D.cK ?_);apply eB<;>intro R;have E:D.cK=0:=(oP R);refine fO<|oH u 0 rfl _ rfl rfl rfl λw1 u _=>?_
 have:=V w1 (by rw[iA,iP E];exact h.x8 J u.fr rfl rfl (u.at (i:=0) rfl)) u.fr;rw[iA,iP E] at this;exact this;have E:¬D.cK=0:=(oP R);refine iC (λ_ w'=>fl w' db F (iA D).1/\Fr [db] w w') ?_ ?_;refine fO (IQ u 0 rfl D.cK ?_);apply cD<;>intro U;have G:D.cK>0:=U;refine fO (IQ u 0 rfl D.cK ?_);refine fO ?_;rw[gG _ oJ];refine oH u 0 rfl _ rfl rfl rfl λw1 u _=>⟨?_,u.fr⟩;rw[iA,iN E,iP G];exact h.x8 J u.fr rfl rfl (u.at (i:=0) rfl);have G:¬D.cK>0:=U;refine⟨?_,.refl _ _⟩;rw[iA,iN E,iN G];exact h;rintro _ w1 ⟨h1,h2⟩;have:=V w1 h1 h2;have e:(iA D).2=false:=(by rw[iA,iN E];split<;>rfl);rw[e] at this;exact this
def qyW:∃i,prog.info? 298=some i/\(∃z,i.zero=some z/\z.cells.size=513)/\i.size=513/\i.bytes=520:=by have h:(prog.info? 298).map (λi=>(i.zero.map λz=>z.cells.size,i.size,i.bytes))=some (some 513,513,520):=oK;obtain⟨i,G,u⟩:=yT.1 h;simp only[Prod.mk.injEq] at u;obtain⟨z,I,E⟩:=yT.1 u.1;exact⟨i,G,⟨z,I,E⟩,u.2.1,u.2.2⟩
def me (D:dV) (n:Int) (b:mw):dV:={ D with Q9:=D.Q9++[(n,b)],writes:=D.writes+1 }
def eQ (D:dV) (n:Int) (l:IT):dV×Int:=
 if D.down then (D,7) else if n<0\/n>=D.Q8.length then (D,4) else
 if h:l.length=512 then ((iA (me D n ⟨l,h⟩)).1,if (iA (me D n ⟨l,h⟩)).2 then 7 else 0) else (D,1)
def qsW(n:Int)(b:mw)(w:IK):(Instr.build 298 #[(0,.i n),(1,.agg (jA b).toArray)]).run prog w=.ok (.agg (mz (n,b)).toArray) w:=by
 obtain⟨z,hz,hzs⟩:∃z,(prog.info? 298).bind (·.zero)=some z/\z.cells.size=513:=by obtain⟨i,hi,⟨z,hz,hzs⟩,_⟩:=qyW;exact⟨z,by rw[hi];exact hz,hzs⟩
 have:=qvG (P:=prog) (a:=.i n) (b:=.agg (jA b).toArray) (o1:=1) (s0:=1) (s1:=512) hz oK (λw=>oK) rfl (by show (jA b).toArray.size=512;rw[size_toArray,tM]) rfl hzs w;exact this
def qlk(l:IT):((l.map (Value.int .u8)).all Value.oneCell')=true:=by rw[Iz];intro v h;obtain⟨x,_,rfl⟩:=mem_map.1 h;rfl
def qrx(b:mw):((jA b).all Value.oneCell')=true:=qlk _
def Fe(x:Int×mw):((mz x).all Value.oneCell')=true:=by rw[mz,all_cons,qrx];rfl
def qxb(h:eN S w s l)(G:l≠[]):∃b o u T E,s.a=some (dk b o)/\w.heap[b]?=some (.cells u T E)/\b∉S/\(u.toList.drop o).take l.length=l.map (Value.int .u8):=by
 rcases h.2.2 with I|⟨b,o,u,T,E,J,R,U,V⟩;exact absurd I G;refine⟨b,o,u,T,E,J,R,U,?_⟩;apply ext_getElem?;intro i;rw[xB,zQ];by_cases hi:i<l.length;rw[iP hi,xA,zA hi];have:=V i l[i] (zA hi);rw[xU] at this;have:=IH (·[0]?) this;simpa using this;rw[iN hi,yS oJ];rfl
def qpn{db:Nat}(h:fl w db F D)(hD:D.Ok)(hs:eN S w s l)(hk:∀F' w',fl w' db F' (eQ D n l).1->Fr F w w'->(∀b∈F',b∈F\/w.heap.size<=b)->K (eQ D n l).2 w'): cW 138 [dS db,.i n,s.v] dm w K:=by
 refine qj4 (d:=pW db) (b:=s) ?_;have hlen:=hs.1;have hdb:=h.mem;obtain⟨sb,T,wsl,B,hF,hn,hc,hsb,hbuf⟩:=h;have h:fl w db F D:=⟨sb,T,wsl,B,hF,hn,hc,hsb,hbuf⟩;have ho:ef F w w [(db,.c (jU D sb wsl) DT)]:=⟨by simpa using hc,oL,.refl _ _,by simp[hdb]⟩;refine fO (oA (c:=.bool) ho 0 rfl D.down rfl ?_);have same:∀ {e:Int},eQ D n l=(D,e)->∀ {w'},w'=w->K e w':=by
  rintro e he w' rfl;have:=hk F w' (by rw[he];exact h) (.refl _ _) (λb hb=>.inl hb);rw[he] at this;exact this
 refine eB (λhd=>same (by rw[eQ,iP hd]) rfl) λhd=>iC (λb w'=>b=decide (n<0\/n>=D.Q8.length)/\w'=w) ?_ ?_;apply eB<;>intro hc;exact⟨by rw[zZ (Or.inl (zC hc))],rfl⟩;refine fO (oA (c:=.slice) ho 0 rfl ⟨pW sb,D.Q8.length,D.Q8.length⟩ rfl ⟨?_,rfl⟩);have:=zB hc;by_cases h2:n>=D.Q8.length<;>simp[this,h2];rintro b w1 ⟨rfl,rfl⟩;refine eB (λhr=>same (by rw[eQ,iN (oP hd),iP (zC hr)]) rfl) λhr=>?_;have hr':=zB hr;refine eB (λhq=>same ?_ rfl) λhq=>?_;have:¬l.length=512:=(by simp at hq;omega);rw[eQ,iN (oP hd),iN hr',dif_neg this];have h512:l.length=512:=(by simp at hq;omega);obtain⟨eY,hblk⟩:∃eY:mw,eY.1=l:=⟨⟨l,h512⟩,rfl⟩;have hw:eQ D n l=((iA (me D n eY)).1,if (iA (me D n eY)).2 then 7 else 0):=by rw[eQ,iN (oP hd),iN hr',dif_pos h512];have:eY=⟨l,h512⟩:=Subtype.ext hblk;rw[this]
 rw[hw] at hk;have hd1:=ho.drew;refine fO (oA (c:=.slice) hd1 0 rfl wsl rfl ?_);obtain⟨sbk,so,scs,sT,sfr,hsa,hsbk,hsS,hscs⟩:=qxb hs (by rw[<- length_pos_iff];omega);obtain⟨sa,slen,scap⟩:=s;simp only at hsa hlen;subst hsa;refine qAG oJ<|rP (n:=512) (w:=w1.drew) hsbk (jA eY) (tM _) (by rw[<- h512,hscs,jA,hblk])<|sh (ts:=[.lK]) (mz (n,eY)) (qsW n eY _)<|qu (wj _)<|oB hd1 λr w2 er fr2 ho2=>iS (ho2.cell (off:=1) 1 rfl rfl) ?_;obtain⟨iW,hi,⟨z,hz,hzs⟩,hsz,hby⟩:=qyW;have hwl:=hD.Q9;have hwr:=hD.writes;have hfz:=hD.cK;have fr2':Fr [] w1 w2:=(Fr.refl [] w1).drew.trans fr2;have hbuf2:fj mz 513 w2 wsl D.Q9 B:=hbuf.q8 fr2';have hsb2:w2.heap[sb]?=some (.c (D.Q8.flatMap jA).toArray T):=(by rw[fr2'.block sb (eO hsb) oL];exact hsb);have hBF:∀b∈B,b∈F:=λb hb=>by rw[hF];simp[hb]
 have hdbB:∀b∈B,b≠db:=λb hb e=>by subst e;simp at hn;exact hn.1.2 hb
 have hsbB:∀b∈B,b≠sb:=λb hb e=>by subst e;simp at hn;exact hn.2.1 hb
 have hrB:∀b∈B,b≠r:=λb hb e=>by have:=hbuf.lt b hb;have e1:w1.drew.heap.size=w1.heap.size:=rfl;omega
 refine fj.j4 (ys:=[(n,eY)]) (e:=298) hbuf2 wj oK hi hz hsz hzs (.ofSlice _ (e':=298) oK _ 1 1 _ ?_ ?_ ?_) rfl (by rw[hby];omega) oJ λs' B' w3 g1 g2 g3 _=>?_;simp[wj];intro j u hj;rw[Addr.j3,jC (ho2.at (i:=0) rfl),xT];have:(mz (n,eY))[j]?=some u:=(oP hj);simpa using this;intro u hu;have:u∈mz (n,eY):=(oP hu);exact all_eq_true.1 (Fe (n,eY)) u this;have ho3:ef F w1 w3 [(r,.c (mz (n,eY)).toArray 298),(db,.c (jU D sb wsl) DT)]:=
  ho2.j1 g2 (λb hb=>.inl (hBF b hb)) (λp hp=>by simp at hp;rcases hp with rfl|rfl;exact λhb=>hrB _ hb rfl;exact λhb=>hdbB _ hb rfl)
 have hsb3:w3.heap[sb]?=some (.c (D.Q8.flatMap jA).toArray T):=(by rw[g2.block sb (eO hsb2) λhb=>hsbB _ hb rfl];exact hsb2);have hc3:=ho3.at (i:=1) rfl;refine fO<|qH hc3 (jU { D with Q9:=D.Q9++[(n,eY)] } sb s') rfl rfl (zO rfl) λw4 hc4 f4=>fO (iv (c:=.i) hc4 D.writes rfl ?_);refine fO ?_;rw[gG (D.writes+1) oJ];refine qH hc4 (jU (me D n eY) sb s') rfl rfl (zO rfl) λw5 hc5 f5=>?_;have hs2:=fr2'.size;have hs3:=g2.size;have hne:sb≠db:=λe=>by rw[e] at hn;simp at hn
 have f35:Fr [db] w3 w5:=f4.trans f5;have hB'db:∀b∈B',b≠db:=λb hb e=>by
  rcases g3 b hb with h'|h';exact hdbB b h' e;have:=eO hc;omega
 have hB'sb:∀b∈B',b≠sb:=λb hb e=>by
  rcases g3 b hb with h'|h';exact hsbB b h' e;have:=eO hsb;omega
 have hB'n:B'.Nodup:=by rcases g1 with ⟨_,_,rfl⟩|⟨b',o',cs',T',rfl,_⟩;simp;simp
 have h5:fl w5 db (db::sb::B') (me D n eY):=(by refine⟨sb,T,s',B',rfl,?_,hc5,?_,?_⟩;simp only[nodup_cons,zG,not_or];exact⟨⟨λe=>hne e.symm,λhb=>hB'db _ hb rfl⟩,λhb=>hB'sb _ hb rfl,hB'n⟩;rw[f35.block sb (eO hsb3) (oP hne)];exact hsb3;exact g1.j1 f35 (λb hb=>by simpa using hB'db b hb));have hF':∀b∈db::sb::B',b∈F\/w1.heap.size<=b:=λb hb=>by simp only[zG] at hb;rcases hb with rfl|rfl|hb;exact .inl hdb;exact .inl (by rw[hF];simp);rcases g3 b hb with h'|h';exact .inl (hBF b h');exact .inr oJ
 have f15:Fr F w1 w5:=((fr2'.mono λi hi _=>by cases hi).J0 g2 λb hb=>.inl (hBF b hb)).J0 f35 (λb hb=>by simp at hb;subst hb;exact .inl hdb);refine qv8 h5 (by show D.cK<=_;omega) λw6 h6 f6=>?_;have:=hk (db::sb::B') w6 h6 (f15.J0 f6 (λb hb=>by simp at hb;subst hb;exact .inl hdb)) hF';apply eB<;>intro ha;rw[ha] at this;exact this;rw[ha] at this;exact this
def gB (s:List mw) (x:Int×mw):List mw:=s.set x.1.toNat x.2
def BN(l:List (Int×mw)):∀s:List mw,(l.foldl gB s).length=s.length:=by
 induction l with
 | nil=>intro s;rfl
 | cons x l ih=>intro s;rw[foldl_cons,ih,gB,xH]
def gA (D:dV):dV×Int:=
 if D.down then (D,7) else if (iA D).2 then ((iA D).1,7) else ({ (iA D).1 with Q8:=D.Q9.foldl gB D.Q8,Q9:=[] },0)
def AR(D:dV):(iA D).1.Q8=D.Q8/\(iA D).1.Q9=D.Q9:=by unfold iA;split;exact⟨rfl,rfl⟩;split<;>exact⟨rfl,rfl⟩
def qq2{db:Nat}(h:fl w db F D)(hD:D.Ok)(hk:∀F' w',fl w' db F' (gA D).1->Fr F w w'->(∀b∈F',b∈F)->K (gA D).2 w'): cW 139 [dS db] dm w K:=by
 refine qln ?_;have ai:=h.mem;have aK:=hD.cK;refine iC (λb w'=>(D.down=true/\b=true/\w'=w)\/(D.down=false/\b=(iA D).2/\fl w' db F (iA D).1/\Fr [db] w w')) ?_ ?_;obtain⟨sb,E,hc⟩:=h.cell;refine fO (iv hc D.down rfl ?_);exact eB (λV=>.inl ⟨V,rfl,rfl⟩) λV=>qv8 h oJ λw1 h1 f1=>.inr ⟨V,rfl,h1,f1⟩;rintro b w1 (⟨V,rfl,rfl⟩|⟨V,rfl,h1,f1⟩);refine Im rfl ?_;have:=hk F w1 (by rw[gA,iP V];exact h) (.refl _ _) (λb hb=>hb);rw[gA,iP V] at this;exact this;have fF:Fr F w w1:=f1.mono (λi G _=>by simp at G;subst G;exact ai);apply eB<;>intro ha;have:=hk F w1 (by rw[gA,iN (by simp[V]),iP ha];exact h1) fF (λb hb=>hb);rw[gA,iN (by simp[V]),iP ha] at this;exact this;have ay:gA D=({ (iA D).1 with Q8:=D.Q9.foldl gB D.Q8,Q9:=[] },0):=(by rw[gA,iN (by simp[V]),iN (by simp[ha])]);rw[ay] at hk;obtain⟨ab,al⟩:=AR D;generalize (iA D).1=D1 at h1 ab al hk;obtain⟨sb,T,E,B,hF,hn,hc,an,I⟩:=h1;rw[ab] at an;rw[al] at I;have ae:sb≠db:=λe=>by rw[e] at hn;simp at hn
 have hB:∀b∈B,b∉[sb]:=λb hb he=>by simp at he;subst he;simp at hn;exact hn.2.1 hb
 have aM:=I.len;have az:=hD.Q9;have aA:=hD.Q8;refine fO (iv hc E rfl ?_);refine jv (λx w'=>∃i:Nat,x=i/\i<=D.Q9.length/\w'.heap[sb]?=some (.c (((D.Q9.take i).foldl gB D.Q8).flatMap jA).toArray T)/\Fr [sb] w1 w') (λx _=>((D.Q9.length:Int)-x).toNat)
  ⟨0,rfl,oJ,an,.refl _ _⟩ ?_
 rintro x w2 ⟨i,rfl,G,J,f2⟩ X hX;have af:w2.heap[db]?=some (.c (jU D1 sb E) DT):=(by rw[f2.block db (eO hc) (by simpa using λe=>ae e.symm)];exact hc);apply cD<;>intro R;have U:i<D.Q9.length:=oJ;have aB:eI mz 513 [] w2 E D.Q9:=(I.j1 f2 hB).jQ wj oL;have ao:=zA U;have aO:=hD.at_ D.Q9[i] (zW U);refine aB.iI wj i rfl ao<|ef.tf (oE [] w2) oK (wj _) (Fe _) λr w3 er ho=>?_;have aC:w3.heap[sb]?=some (.c (((D.Q9.take i).foldl gB D.Q8).flatMap jA).toArray T):=(by rw[ho.fr.block sb (eO J) oL];exact J);have ag:w3.heap[db]?=some (.c (jU D1 sb E) DT):=(by rw[ho.fr.block db (eO af) oL];exact af);refine fO (iv (w:=w3.drew) ag ⟨pW sb,D1.Q8.length,D1.Q8.length⟩ rfl ?_);have ap:=ho.at (i:=0) rfl;refine iv (w:=w3.drew) ap D.Q9[i].1 rfl<|rP (n:=512) (w:=w3.drew) ap (jA D.Q9[i].2) (tM _) (by rw[show (mz D.Q9[i]).toArray.toList.drop 1=jA D.Q9[i].2 from rfl,zS (by rw[tM];exact zM _)]) ?_;have u:=BN (D.Q9.take i) D.Q8;refine vg oJ (by rw[ab];omega)<|qu (tM _) ?_;have ac:0+Int.toNat D.Q9[i].1*512+(jA D.Q9[i].2).length<=(((D.Q9.take i).foldl gB D.Q8).flatMap jA).toArray.size:=by rw[size_toArray,qI tM,tM,u];omega
 refine qH (w:=w3.drew) aC (((((D.Q9.take i).foldl gB D.Q8).set D.Q9[i].1.toNat D.Q9[i].2).flatMap jA).toArray) (by rw[xT];exact qtq tM ((D.Q9.take i).foldl gB D.Q8) D.Q9[i].1.toNat D.Q9[i].2 (by rw[u];omega)) (qrx _) ac λw4 aD f4=>?_;rw[gG _ oJ];refine hX _ _ ⟨i+1,oL,oJ,?_,?_⟩ oJ;rw[yG U,foldl_append];exact aD;have aE:Fr [sb] w2 w3.drew:=ho.fr.drew.mono (λi G _=>by cases G);exact f2.trans (aE.trans f4);have U:i=D.Q9.length:=oJ;subst U;rw[vA] at J;refine fO ?_;have u:=BN D.Q9 D.Q8;refine qH af (jU { D1 with Q8:=D.Q9.foldl gB D.Q8,Q9:=[] } sb dT) (by simp[en,jU,u,ab]) rfl (zO rfl) λw3 ag f3=>?_;have aF:Fr F w w3:=(fF.trans (f2.mono (λi G _=>by simp at G;subst G;rw[hF];simp))).trans (f3.mono (λi G _=>by simp at G;subst G;exact ai));refine hk [db,sb] w3 ⟨sb,T,dT,[],rfl,by simpa using λe=>ae e.symm,ag,?_,.nil _ _ _⟩ aF (λb hb=>by rw[hF];simp at hb;rcases hb with rfl|rfl<;>simp);rw[f3.block sb (eO J) (oP ae)];exact J
def jc (n:Int):List (Int×mw)->Option mw
 | []=>none
 | x::r=>match jc n r with|some b=>some b|none=>if x.1=n then some x.2 else none
def qpY{n:Int}:∀(l:List (Int×mw)) (i:Nat) (h:i<l.length),jc n (l.drop (i+1))=none->l[i].1=n->jc n l=some l[i].2
 | x::l,0,h,u,E=>by simp only[xT,drop_succ_cons,xG] at u;simp only[getElem_cons_zero] at E⊢;simp[jc,u,E]
 | x::l,i+1,h,u,E=>by
  have:=qpY l i (oP h) (oP u) (oP E);simp only[jc,this,getElem_cons_succ]
def qvf:∀(l:List (Int×mw)) (i:Nat) (h:i<l.length),jc n (l.drop (i+1))=none->l[i].1≠n->jc n (l.drop i)=none:=by intro l i h E u;rw[zX h,jc,E];simp[u]
def eS (D:dV) (n:Int):List Int×Int:=
 if D.down then ([],7) else if n<0\/n>=D.Q8.length then ([],4) else
 match jc n D.Q9 with|some b=>(b.1,0)|none=>((D.Q8.getD n.toNat .zero).1,0)
def qsz{b o n:Nat}{h:Nat}{K:Sl->Prop}(u:0<n)(k:K ⟨some (dk b o),n,n⟩):jz (dk b o) n none none none h K:=by unfold jz;refine⟨oL,?_⟩;simp only[xX,zJ,Int.toNat_zero,Nat.sub_zero,Nat.zero_mul];rw[iN,FP];exact k
def qry{b o:Nat}{h:I1}{x:mw}(I:w.heap[b]?=some (.cells cs T h))(J:(cs.toList.drop o).take 512=jA x)(R:b∉S):eN S w ⟨some (dk b o),512,512⟩ x.1:=by
 refine⟨x.2.symm,zM _,.inr ⟨b,o,cs,T,h,rfl,I,R,λi v u=>?_⟩⟩;have E:=(zP.1 u).1;rw[x.2] at E;rw[xU];have G:(jA x)[i]?=some (.b v):=(by rw[jA,zQ,u];rfl);rw[<- J,xB,iP E,xA] at G;apply ext_getElem?;intro j;rw[xB,xA];match j with
 | 0=>simpa using G
 | j+1=>simp
def qsP{K:IL->WP}(u:∀rb w',(∀S w0 L,ef S w0 w L->ef S w0 w' ((rb,.c #[s.v] 261)::L))->K (.func (.func 228) #[] #[dS rb]) w'): cW 187 [s.v] dw w K:=by exact qkG<|Pt.DE (u _ _ λS w0 L h=>h.alloc _)
def qs5(l:List mw)(i:Nat)(x:mw)(h:l[i]?=some x):((l.flatMap jA++Z).drop (i*512)).take 512=jA x:=by have E:=(zP.1 h).1;have u:(l.flatMap jA).length=l.length*512:=qI tM l;rw[Ix (by rw[u];omega),Ir (by rw[yB,u];omega)];exact Gu tM l i x h
def qvS{db c:Nat}{K:I0->WP}(h:xe w db F D c Z)(hD:D.Ok)(hk:∀s' B w',gb w' s' (eS D n).1 B->Fr [] w w'->(∀b∈B,w.heap.size<=b)->K (s',(eS D n).2) w'): cW 156 [dS db,.i n] dq w K:=by
 refine qlm<|oB (oE [] w) λr1 w1 e1 f1 I=>oB I λr3 w2 e2 f2 I=>oB I λr5 w3 e3 f3 I=>?_;obtain⟨sb,T,ad,B,hF,hn,hc,aB,am⟩:=h;have aj:∀ {w':IK},Fr [] w w'->w'.heap[db]?=some (.c (tk D sb c ad) DT):=λf=>by rw[f.block db (eO hc) oL];exact hc
 have aC:∀ {w':IK},Fr [] w w'->w'.heap[sb]?=some (.c (D.Q8.flatMap jA++Z).toArray T):=λf=>by rw[f.block sb (eO aB) oL];exact aB
 have aD:∀ {e:Int} {w':IK} {L'},eS D n=([],e)->ef [] w w' L'->L'[1]?=some (r3,.c #[.slice none 0 0] 101)->L'[0]?=some (r5,.c #[.i e] 69)->ld Cell.slice (dk r3) w' λs=>ld .i (dk r5) w' λx=>K (s,x) w':=by
  intro e w' L' he I h1 h0;refine oA I 1 h1 dT rfl<|oA I 0 h0 e rfl ?_;have:=hk dT [] w' (by rw[he];exact .nil _ _ _) I.fr oL;rw[he] at this;exact this
 refine fO (iv (aj I.fr) D.down rfl ?_);apply eB<;>intro hd;exact oH I 1 rfl _ rfl rfl rfl λw4 I _=>oH I 0 rfl _ rfl rfl rfl λw5 I _=>aD (by rw[eS,iP hd]) I rfl rfl;refine iC (λb w'=>b=decide (n<0\/n>=D.Q8.length)/\w'=w3.drew) ?_ ?_;refine IQ I.drew 2 rfl n<|eB (λhc=>?_) λaU=>?_;exact⟨by rw[zZ (Or.inl (zC hc))],rfl⟩;refine IQ I.drew 2 rfl n<|fO (iv (aj I.drew.fr) ⟨pW sb,D.Q8.length,c⟩ rfl ⟨?_,rfl⟩)
 have:=zB aU;by_cases h2:n>=D.Q8.length<;>simp[this,h2];rintro b w4 ⟨rfl,rfl⟩;apply cD<;>intro hr;exact oH I.drew 1 rfl _ rfl rfl rfl λw4 I _=>oH I 0 rfl _ rfl rfl rfl λw5 I _=>aD (by rw[eS,iN (oP hd),iP (hr)]) I rfl rfl;have aW:=hr;have aX:0<=n:=oJ;have aY:n<D.Q8.length:=oJ;have aZ:=hD.Q9;have a0:=hD.Q8;have a1:=am.len;have aH:eS D n=match jc n D.Q9 with|some b=>(b.1,0)|none=>((D.Q8.getD n.toNat .zero).1,0):=by rw[eS,iN (oP hd),iN aW]
 refine fO (iv (aj I.drew.fr) ad rfl ?_);refine qsP λrb w5 a2=>?_;have a3:=a2 _ _ _ I.drew;refine ef.kz (lb:=[dS rb]) a3 rfl oK λDm l R Bz J E E0 w6 el eD bm aL hy=>qib<|IQ aL 2 rfl ad ?_;rw[gG _ oJ];have aM:∀ {bl:mw} {s7:Sl} {Bf:IS} {ae wz:IK} {ak:IW},eS D n=(bl.1,0)->ef [] w ae ak->gb ae s7 bl.1 Bf->(∀b∈Bf,w.heap.size<=b)->(∀b∈Bf,b∉ak.map (·.1))->Fr (ak.map (·.1)) ae wz->K (s7,0) wz:=by
  intro bl s7 Bf ae wz ak he a5 ag V aa fz;have:=hk s7 Bf wz (by rw[he];exact ag.j1 fz aa) (a5.back fz) V;rw[he] at this;exact this
 refine jv (λx w'=>∃i:Nat,x=(i:Int)-1/\i<=D.Q9.length/\jc n (D.Q9.drop i)=none/\ef [] w w' [(l,R),(Dm,.deferred (some [])),(rb,.c #[ad.v] 261),(r5,.c #[.i 0] 69),(r3,.c #[.slice none 0 0] 101),(r1,.c #[.i n] 3)]) (λx _=>(x+1).toNat)
  ⟨D.Q9.length,by rw[a1],zM _,by rw[drop_length];rfl,aL⟩ ?_
 rintro x w7 ⟨i,rfl,hi,al,af⟩ X hX;apply cD<;>intro aq;have bp:=aq;obtain⟨i,rfl⟩:∃k,i=k+1:=⟨i-1,oJ⟩;have ar:i<D.Q9.length:=oJ;refine IQ af 2 rfl ad ?_;have a6:eI mz 513 [] w7 ad D.Q9:=(am.q8 af.fr).jQ wj oL;refine a6.iI wj i oJ (zA ar)<|hy ((((i+1:Nat):Int)-1),mz D.Q9[i]) w7 _ (af.at (i:=0) rfl) ?_;dsimp only;refine ef.tf af oK (wj _) (Fe _) λr w8 er U=>⟨U.at (i:=1) rfl,?_⟩;have ab:=U.iz (o':=Bz) 1 rfl;refine oA ab 0 rfl D.Q9[i].1 rfl<|IQ ab 6 rfl n ?_;apply eB<;>intro hm;have av:D.Q9[i].1=n:=(oP hm);have aw:=qpY D.Q9 i ar al av;have ah:eS D n=(D.Q9[i].2.1,0):=(by rw[aH,aw]);refine qsz oM ?_;have ax:eN [] (Pt.iz w8 l Bz) ⟨some (dk r 1),512,512⟩ D.Q9[i].2.1:=
  qry (x:=D.Q9[i].2) (ab.at (i:=0) rfl) (by rw[show (mz D.Q9[i]).toArray.toList.drop 1=jA D.Q9[i].2 from rfl,zS (by rw[tM];exact zM _)]) oL
 refine Aa (s:=⟨some (dk r 1),512,512⟩) ax (by rw[D.Q9[i].2.2];decide) λs7 Bf ae ag ay ai _ _=>?_;have ac:=ab.q8 ay;have u:=ac.lX;have V:∀b∈Bf,w.heap.size<=b:=λb hb=>by have h1:(Pt.iz w8 l Bz).heap.size<=b:=ai b hb;have:=ab.fr.size;omega
 have aa:∀b∈Bf,b∉[r,l,Dm,rb,r5,r3,r1]:=λb hb hm=>by
  have h1:(Pt.iz w8 l Bz).heap.size<=b:=ai b hb;have h2:∀p∈[r,l,Dm,rb,r5,r3,r1],p<(Pt.iz w8 l Bz).heap.size:=λp hp=>by have G:=λ(k:Nat) (q:Nat×Obj) (hq:_[k]?=some q)=>eO (ab.at (i:=k) hq);simp only[zG,xY,or_false] at hp;rcases hp with rfl|rfl|rfl|rfl|rfl|rfl|rfl;exact G 0 _ rfl;exact G 1 _ rfl;exact G 2 _ rfl;exact G 3 _ rfl;exact G 4 _ rfl;exact G 5 _ rfl;exact G 6 _ rfl
  have:=h2 b hm;omega
 refine oH u 5 rfl _ rfl rfl rfl λa8 u _=>oH u 4 rfl _ rfl rfl rfl λa9 u _=>⟨u.at (i:=1) rfl,?_⟩;have u:=u.iz (o':=J 0) 1 rfl;refine Im rfl<|.inr ⟨0,_,rfl,u.at (i:=1) rfl,?_⟩;have u:=u.iz (o':=E 0) 1 rfl;exact ef.eC u 2 rfl λa' u=>IQ u 5 rfl s7<|IQ u 4 rfl 0<|aM ah ac ag V aa u.fr;have av:D.Q9[i].1≠n:=(oP hm);refine⟨ab.at (i:=1) rfl,?_⟩;have ba:=ab.iz (o':=R) 1 rfl;refine Io rfl ?_;rw[gG _ oJ];refine hX _ _ ⟨i,oJ,oJ,qvf D.Q9 i ar al av,ba.sub (IC _ _)⟩ oJ;have G:=aq;obtain rfl:i=0:=by omega
 rw[xG] at al;refine .inl ⟨af.at (i:=0) rfl,?_⟩;have U:=(af.iz (o':=E0) 0 rfl).drew;have ah:eS D n=((D.Q8.getD n.toNat .zero).1,0):=(by rw[aH,al]);have aO:n.toNat<D.Q8.length:=oJ;have bb:D.Q8[n.toNat]?=some (D.Q8.getD n.toNat .zero):=(by rw[yR,zA aO];rfl);refine fO (iv (aj U.fr) ⟨pW sb,D.Q8.length,c⟩ rfl ?_);refine IQ U 5 rfl n<|vg aX aY<|qsz oM ?_;have ax:eN [] (Pt.iz w7 l E0).drew ⟨some ⟨sb,0+n.toNat*512,none⟩,512,512⟩ (D.Q8.getD n.toNat .zero).1:=
  qry (aC U.fr) (by rw[xT];exact qs5 D.Q8 n.toNat _ bb) oL
 refine Aa (s:=⟨some ⟨sb,0+n.toNat*512,none⟩,512,512⟩) ax (by rw[(D.Q8.getD n.toNat .zero).2];decide) λs7 Bf ae ag ay ai _ _=>?_;have ac:=U.q8 ay;have u:=ac.lX;have V:∀b∈Bf,w.heap.size<=b:=λb hb=>by have h1:(Pt.iz w7 l E0).drew.heap.size<=b:=ai b hb;have:=U.fr.size;omega
 have aa:∀b∈Bf,b∉[l,Dm,rb,r5,r3,r1]:=λb hb hm=>by
  have h1:(Pt.iz w7 l E0).drew.heap.size<=b:=ai b hb;have h2:∀p∈[l,Dm,rb,r5,r3,r1],p<(Pt.iz w7 l E0).drew.heap.size:=λp hp=>by have G:=λ(k:Nat) (q:Nat×Obj) (hq:_[k]?=some q)=>eO (U.at (i:=k) hq);simp only[zG,xY,or_false] at hp;rcases hp with rfl|rfl|rfl|rfl|rfl|rfl;exact G 0 _ rfl;exact G 1 _ rfl;exact G 2 _ rfl;exact G 3 _ rfl;exact G 4 _ rfl;exact G 5 _ rfl
  have:=h2 b hm;omega
 exact oH u 4 rfl _ rfl rfl rfl λa8 u _=>oH u 3 rfl _ rfl rfl rfl λa9 u _=>ef.eC u 1 rfl λa' u=>IQ u 4 rfl s7<|IQ u 3 rfl 0<|aM ah ac ag V aa u.fr
def Eg{db:Nat}{K:I0->WP}(h:fl w db F D)(E:D.Ok)(G:∀u B w',gb w' u (eS D n).1 B->Fr [] w w'->(∀b∈B,w.heap.size<=b)->K (u,(eS D n).2) w'): cW 156 [dS db,.i n] dq w K:=qvS h.z E G
abbrev ia (n:Int):Prop:=0<=n/\n<4294967296
def Dc(h:ia n)(r:IT):fL (be n 4++r)=n:=by rw[Cr h.1];exact qxX h
def qpL:∀(c:IT) (i:Nat),(c.flatMap (be · 4)).drop (4*i)=(c.drop i).flatMap (be · 4)
 | [],i=>by simp
 | a::c,0=>by simp
 | a::c,i+1=>by rw[yH,drop_succ_cons,<- qpL c i,drop_append,kR,vF (by rw[kR];omega),xJ];congr 1
def qyb(c:IT):(c.flatMap (be · 4)).length=4*c.length:=by
 induction c with
 | nil=>rfl
 | cons a c ih=>rw[yH,zF,kR,ih,yI];omega
def qlS{i:Nat}(h:i<c.length)(u:∀x∈c,ia x):fL ((c.flatMap (be · 4)).drop (4*i))=c[i]:=by rw[qpL,zX h,yH];exact Dc (u _ (zW h)) _
def DX(next:Int)(c:IT):(jl next c).length=6+4*c.length:=by rw[jl,zF,zF,kR,qyb];rfl
def qrG(c:IT):eX (c.flatMap (be · 4)):=by
 induction c with
 | nil=>exact λx h=>by cases h
 | cons a c ih=>rw[yH];exact (tL _ _).append ih
def qz9(x:Int):0<=wrap .u8 x/\wrap .u8 x<256:=by rw[A7];omega
def qpt(next:Int)(c:IT):eX (jl next c):=by refine ((tL _ _).append λx h=>?_).append (qrG c);simp only[zG,xY,or_false] at h;rcases h with rfl|rfl<;>exact qz9 _
def qse{next:Int}(E:ia next)(J:next≠1)(R:∀x∈c,ia x)(U:i8 1 c=true)(hl:c.length<=123):iM (jl next c)=(next,c,0):=by
 have G:=DX next c;have e:jl next c=be next 4++([wrap .u8 (Int.fdiv c.length (2^8)),wrap .u8 c.length]++c.flatMap (be · 4)):=by rw[jl,zV]
 have I:fL (jl next c)=next:=by rw[e];exact Dc E _
 have h:lc (jl next c)=c.length:=(by have V:(jl next c).getD 4 0=wrap .u8 (Int.fdiv c.length (2^8)):=(by rw[e,Cr E.1];rfl);have h5:(jl next c).getD 5 0=wrap .u8 c.length:=(by rw[e,Cr E.1];rfl);have hd:Int.fdiv (c.length:Int) (2^8)=0:=(by rw[Int.fdiv_eq_ediv_of_nonneg _ oM];omega);rw[lc,V,h5,A7,A7,hd];omega);have u:kL (jl next c) c.length=c:=by
  apply ext_getElem;simp[kL];intro i J h2;have:(jl next c).drop (6+4*i)=(c.flatMap (be · 4)).drop (4*i):=by have h6:(jl next c).drop 6=c.flatMap (be · 4):=(by rw[e,Cr E.1];rfl);rw[<- h6,xE]
  simp only[kL,getElem_map,getElem_range,this];exact qlS h2 R
 rw[iM,iN,iN (by rw[I,h];omega),h,zJ,u,iP U,I]
def zv(x:Int)(h:0<=x/\x<18446744073709551616):wrap .u64 x=x:=by unfold wrap;have:(IntKind.u64.signed)=false:=rfl;simp only[this,Bool.false_and,Bool.false_eq_true,if_false];exact Int.emod_eq_of_lt h.1 h.2
def qp9{A B:Int}(k:Nat)(I:0<=A)(E:A%2^k=0)(J:0<=B)(h:B<2^k)(R:A+B<18446744073709551616):bits .or .u64 A B=A+B:=by
 obtain⟨a,rfl⟩:∃a:Nat,A=a:=⟨A.toNat,oJ⟩;obtain⟨b,rfl⟩:∃b:Nat,B=b:=⟨B.toNat,oJ⟩;have G:a%2^k=0:=by have:((a:Int)%((2^k:Nat):Int))=0:=(by rw[Int.natCast_pow];exact E);omega
 have u:b<2^k:=(by have:(b:Int)<((2^k:Nat):Int):=(by rw[Int.natCast_pow];exact h);omega);obtain⟨q,rfl⟩:∃q,a=2^k*q:=⟨a / 2^k,by have:=Nat.div_add_mod a (2^k);omega⟩;show wrap .u64 ((BitVec.ofInt 64 ((2^k*q:Nat):Int)||| BitVec.ofInt 64 (b:Int)).toNat:Nat)=_;rw[BitVec.toNat_or,BitVec.ofInt_natCast,BitVec.ofInt_natCast,BitVec.toNat_ofNat,BitVec.toNat_ofNat,Nat.mod_eq_of_lt (show 2^k*q<2^64 by omega),Nat.mod_eq_of_lt (show b<2^64 by omega),<- Nat.two_pow_add_eq_or_of_lt u];rw[zv _ oJ];omega
abbrev lQ (n:Int):Prop:=0<=n/\n<18446744073709551616
def C5:gQ q t=be (wrap .u32 (Int.fdiv q (2^32))) 4++(be (wrap .u32 q) 4++t.flatMap (be · 4)):=by rw[gQ,zV]
def qjr(J:lQ q):iX (gQ q t)=q:=by have h:Int.fdiv q (2^32)=q / 4294967296:=(by rw[Int.fdiv_eq_ediv_of_nonneg _ oM];rfl);have u:fL (gQ q t)=q / 4294967296:=(by rw[C5,h,pA _ oJ];exact Dc (by constructor<;>omega) _);have E:(gQ q t).drop 4=be (wrap .u32 q) 4++t.flatMap (be · 4):=(by rw[C5,drop_append,kR,vF (by rw[kR];exact zM _)];rfl);have G:wrap .u32 q=q%4294967296:=(by unfold wrap;have:(IntKind.u32.signed)=false:=rfl;simp only[this,Bool.false_and,Bool.false_eq_true,if_false];rfl);have I:fL ((gQ q t).drop 4)=q%4294967296:=(by rw[E,G];exact Dc (by constructor<;>omega) _);rw[iX,u,I,zv (q / 4294967296) oJ,zv (q%4294967296) oJ,zv (q / 4294967296*2^32) oJ];rw[qp9 32 oJ oJ oJ oJ oJ];omega
def qvO(q:Int)(t:IT):eX (gQ q t):=by rw[C5];exact (tL _ _).append ((tL _ _).append (qrG t))
def qqM(h:t.length=27)(u:∀x∈t,ia x):md (gQ q t)=t:=by
 apply ext_getElem;rw[tW,h];intro i I E;have G:(gQ q t).drop 8=t.flatMap (be · 4):=by rw[C5,<- zV,drop_append,zF,kR,kR,vF (by rw[zF,kR,kR];exact zM _)];rfl
 have:(gQ q t).drop (8+4*i)=(t.flatMap (be · 4)).drop (4*i):=(by rw[<- G,xE]);simp only[md,getElem_map,getElem_range,this];exact qlS E u
def qtm{place:Int}(h:lQ q)(u:t.length=27)(I:∀x∈t,ia x)(G:Int.tmod q 2=place):fC place (eU place 1 (gQ q t))=((q,t),0):=by have E:ia place:=(by rw[<- G,Int.tmod_eq_emod_of_nonneg h.1];constructor<;>omega);have J:=Hq (kind:=1) (body:=gQ q t) E (by rw[AO u];decide);rw[fC,J,iN oL,iN (by simp[AO u]),iN (by rw[qjr h,G];simp),qjr h,qqM u I]
end
section
open Go Go.Pt List
open Go.IntKind (wrap)
open Classical
variable {k v:Nat}
def qxY{a b:Int}(h:eX [a,b]):be (iI [a,b]) 2=[a,b]/\iI [a,b]=a*256+b:=by
 have u:=h a oL;have E:=h b oL;have e:iI [a,b]=a*256+b:=by rw[Dj h (zO rfl)];show ((0*256+a)*256+b)=_;omega
 refine⟨?_,e⟩;rw[e,be2 oJ];congr 1;omega;congr 1;omega
structure dY where
 Q6:Bool
 J8:List Key
 Q2:List Key
 Q1:IT
variable {n:dY}
def iV:dY:=⟨false,[],[],[]⟩
def eE (k v:Nat):I1:=if k<1\/k>24\/v>108 then (0,0) else (498 / (k+v),(498+k) / (4+k))
def fW (n:dY) (k v:Nat):Prop:=
 (∀a∈n.J8,a.length=k)/\(∀a∈n.Q2,a.length=v)/\fY n.J8/\
 if n.Q6 then n.Q1=[]/\1<=n.J8.length/\n.J8.length<=(eE k v).1/\n.Q2.length=n.J8.length
 else (∀x∈n.Q1,2<=x)/\n.Q2=[]/\2<=n.Q1.length/\n.Q1.length<=(eE k v).2/\n.J8.length+1=n.Q1.length
def kZ (J8 Q2:List Key):IT:=(J8.zip Q2).flatMap λx=>x.1++x.2
def gJ (n:dY):IT:=if n.Q6 then be n.J8.length 2++kZ n.J8 n.Q2 else be n.Q1.length 2++n.Q1.flatMap (λx=>be x 4)++n.J8.flatten
def i9 (n:dY):Int:=if n.Q6 then 3 else 4
noncomputable def fi (n:dY) (k v:Nat):Int×List Int×Int:=if fW n k v then (i9 n,gJ n,0) else (0,[],1)
def jn (k v:Nat):Nat->IT->List Key×List Key
 | 0,_=>([],[])
 | c+1,b=>(b.take k::(jn k v c (b.drop (k+v))).1,(b.drop k).take v::(jn k v c (b.drop (k+v))).2)
def cL:Nat->IT->IT
 | 0,_=>[]
 | c+1,b=>iI (b.take 4)::cL c (b.drop 4)
def lC (k:Nat):Nat->IT->List Key
 | 0,_=>[]
 | c+1,b=>b.take k::lC k c (b.drop k)
def fV (b:IT):Nat:=(b.getD 0 0*256+b.getD 1 0).toNat
def np (k v:Nat) (b:IT):dY:=⟨true,(jn k v (fV b) (b.drop 2)).1,(jn k v (fV b) (b.drop 2)).2,[]⟩
def lH (k:Nat) (b:IT):dY:=⟨false,lC k (fV b-1) ((b.drop 2).drop (fV b*4)),[],cL (fV b) (b.drop 2)⟩
noncomputable def i3 (kind:Int) (b:IT) (k v:Nat):dY×Int:=
 if (eE k v).1=0\/b.length<2\/b.length>500 then (iV,2)
 else if kind=3/\(b.drop 2).length=fV b*(k+v)/\fW (np k v b) k v then (np k v b,0)
 else if kind=4/\1<=fV b/\(b.drop 2).length=fV b*4+(fV b-1)*k/\fW (lH k b) k v then (lH k b,0)
 else (iV,2)
def qsp{kind:Int}{b:IT}(h:(i3 kind b k v).2=0):fW (i3 kind b k v).1 k v:=by unfold i3 at h⊢;split at h;cases h;rename_i G;rw[iN G];split at h;rename_i u;rw[iP u];exact u.2.2;rename_i u;rw[iN u];split at h;rename_i E;rw[iP E];exact E.2.2.2;cases h
def Fj{k v:Nat}:∀ {J8 Q2:List Key},(∀a∈J8,a.length=k)->(∀a∈Q2,a.length=v)->J8.length=Q2.length->(kZ J8 Q2).length=J8.length*(k+v)
 | [],[],_,_,_=>by simp[kZ]
 | a::r,b::s,E,G,I=>by
  have:=Fj (J8:=r) (Q2:=s) (λx u=>E x (zN _ u)) (λx u=>G x (zN _ u)) (oP I);unfold kZ at this⊢;rw[zip_cons_cons,yH,zF,zF,E a oL,G b oL,this,yI,xV];omega
 | [],_::_,_,_,h=>by simp at h
 | _::_,[],_,_,h=>by simp at h
def qt6{k v:Nat}:∀ {J8 Q2:List Key},(∀a∈J8,a.length=k)->(∀a∈Q2,a.length=v)->J8.length=Q2.length->jn k v J8.length (kZ J8 Q2)=(J8,Q2)
 | [],[],_,_,_=>rfl
 | a::r,b::s,E,G,U=>by have ih:=qt6 (k:=k) (v:=v) (J8:=r) (Q2:=s) (λx u=>E x (zN _ u)) (λx u=>G x (zN _ u)) (oP U);have I:=E a oL;have J:=G b oL;have e:kZ (a::r) (b::s)=a++(b++kZ r s):=(by unfold kZ;rw[zip_cons_cons,yH,zV]);rw[yI,jn,e];have e1:(a++(b++kZ r s)).take k=a:=(by rw[<- I,take_left'];rfl);have R:(a++(b++kZ r s)).drop k=b++kZ r s:=(by rw[<- I,drop_left'];rfl);have V:(a++(b++kZ r s)).drop (k+v)=kZ r s:=(by rw[<- xE,R,<- J,drop_left'];rfl);have e4:(b++kZ r s).take v=b:=(by rw[<- J,take_left'];rfl);rw[V,ih,e1,R,e4]
 | [],_::_,_,_,h=>by simp at h
 | _::_,[],_,_,h=>by simp at h
def qt2{r:IT}:∀ {l:IT},(∀x∈l,0<=x/\x<4294967296)->cL l.length (l.flatMap (λx=>be x 4)++r)=l
 | [],_=>rfl
 | a::l,h=>by have ih:=qt2 (r:=r) (l:=l) λx E=>h x (zN _ E);have u:=kR a 4;rw[yI,cL,yH,zV];generalize l.flatMap (λx=>be x 4)++r=R at ih⊢;have e1:(be a 4++R).take 4=be a 4:=take_left' u;have G:(be a 4++R).drop 4=R:=drop_left' u;rw[e1,G,ih,Ga (h a oL)]
def qt1{k:Nat}:∀ {l:List Key},(∀a∈l,a.length=k)->lC k l.length l.flatten=l
 | [],_=>rfl
 | a::l,h=>by have ih:=qt1 (k:=k) (l:=l) λx E=>h x (zN _ E);have u:=h a oL;rw[yI,lC,flatten_cons];have e1:(a++l.flatten).take k=a:=(by rw[<- u];exact take_left);have G:(a++l.flatten).drop k=l.flatten:=(by rw[<- u];exact drop_left);rw[e1,G,ih]
def Ge(l:IT):(l.flatMap λx=>be x 4).length=l.length*4:=by
 induction l with
 | nil=>rfl
 | cons a l ih=>rw[yH,zF,ih,kR,yI];omega
def FJ{k:Nat}:∀ {l:List Key},(∀a∈l,a.length=k)->l.flatten.length=l.length*k
 | [],_=>by simp
 | a::l,h=>by rw[flatten_cons,zF,FJ λx u=>h x (zN _ u),h a oL,yI,xV];omega
def qpv{n:Nat}(h:n<65536)(r:IT):fV (be (n:Int) 2++r)=n:=by
 have G:=kR (n:Int) 2;obtain⟨a,b,e⟩:∃a b,be (n:Int) 2=[a,b]:=by
  match be (n:Int) 2,G with
  | [a,b],_=>exact⟨a,b,rfl⟩
 have u:=tL (n:Int) 2;have E:=qrN (n:=(n:Int)) ⟨oJ,oJ⟩;rw[e] at u E;have:=(qxY u).2;rw[E] at this;unfold fV;rw[e];show (a*256+b).toNat=n;omega
def qtN{n:Int}{r:IT}:(be n 2++r).drop 2=r:=by
 have:=drop_left (l₁:=be n 2) (l₂:=r);rw[kR] at this;exact this
def qlO(a b:Nat):a / b*b<=a:=Nat.div_mul_le_self a b
def qv9{c:Nat}(h:c<=(eE k v).1):c*(k+v)<=498:=by unfold eE at h;split at h;rw[show c=0 from Nat.le_zero.1 h];omega;exact zL (IB _ h) (qlO _ _)
def quX{c:Nat}(h:c<=(eE k v).2):c*4+(c-1)*k<=498:=by
 unfold eE at h;split at h;rw[show c=0 from Nat.le_zero.1 h];omega;have u:c*(4+k)<=498+k:=zL (IB _ h) (qlO _ _);cases c with
 | zero=>omega
 | succ c=>
  rw[Nat.add_sub_cancel];rw[xV,Nat.mul_add] at u;rw[xV];omega
def Cu:(eE k v).1<=498/\(eE k v).2<=498:=by unfold eE;split;exact⟨oM,oM⟩;exact⟨Nat.div_le_self _ _,Nat.div_le_of_le_mul (by have:(498+k)<=(4+k)*498:=(by rw[xV];omega);exact this)⟩
def C3(h:fW n k v):2<=(gJ n).length/\(gJ n).length<=500:=by
 obtain⟨E,I,J,u⟩:=h;unfold gJ;cases G:n.Q6 with
 | true=>
  rw[G,iP rfl] at u;rw[iP rfl,zF,kR,Fj E I u.2.2.2.symm];have:=qv9 u.2.2.1;omega
 | false=>
  rw[G,iN oM] at u;rw[iN oM,zF,zF,kR,Ge,FJ E];have:=quX u.2.2.2.1;have e:n.J8.length=n.Q1.length-1:=oJ;rw[e];omega
def qr7:(⟨n.Q6,n.J8,n.Q2,n.Q1⟩:dY)=n:=rfl
def qvz(h:fW n k v)(hk:∀x∈n.Q1,x<4294967296):i3 (i9 n) (gJ n) k v=(n,0):=by
 have aa:=C3 h;have h0:=h;obtain⟨U,h2,h3,I⟩:=h;have ag:=(Cu (k:=k) (v:=v));unfold i3;cases G:n.Q6 with
 | true=>
  rw[G,iP rfl] at I;have u:fV (gJ n)=n.J8.length:=(by unfold gJ;rw[G,iP rfl];exact qpv oJ _);have E:(gJ n).drop 2=kZ n.J8 n.Q2:=(by unfold gJ;rw[G,iP rfl];exact qtN);have J:np k v (gJ n)=n:=by unfold np;rw[u,E,qt6 U h2 I.2.2.2.symm];rw[<- qr7 (n:=n),G,I.1]
  rw[iN,iP ⟨by unfold i9;rw[G];rfl,by rw[u,E,Fj U h2 I.2.2.2.symm],by rw[J];exact h0⟩,J]
 | false=>
  rw[G,iN oM] at I;have hb:gJ n=be n.Q1.length 2++(n.Q1.flatMap (λx=>be x 4)++n.J8.flatten):=(by unfold gJ;rw[G,iN oM,zV]);have u:fV (gJ n)=n.Q1.length:=(by rw[hb];exact qpv oJ _);have E:(gJ n).drop 2=n.Q1.flatMap (λx=>be x 4)++n.J8.flatten:=(by rw[hb];exact qtN);have R:n.J8.length=n.Q1.length-1:=oJ;have J:lH k (gJ n)=n:=by unfold lH;have e:(n.Q1.flatMap (λx=>be x 4)++n.J8.flatten).drop (n.Q1.length*4)=n.J8.flatten:=(by rw[<- Ge];exact drop_left);rw[u,E,qt2 λx hx=>⟨by have:=I.1 x hx;omega,hk x hx⟩,e,<- R,qt1 U];rw[<- qr7 (n:=n),G,I.2.1]
  have ah:1<=(eE k v).1:=(by have V:=I.2.2.2.1;have h6:=I.2.2.1;unfold eE at V⊢;by_cases hc:k<1\/k>24\/v>108;rw[iP hc] at V;have h8:n.Q1.length<=0:=V;omega;rw[iN hc];have h7:k+v<=498:=oJ;exact (Nat.le_div_iff_mul_le (show 0<k+v by omega)).2 (by rw[Nat.one_mul];exact h7));rw[iN,iN (λh=>by unfold i9 at h;rw[G] at h;exact absurd h.1 oM),iP ⟨by unfold i9;rw[G];rfl,by rw[u];omega,by rw[u,E,zF,Ge,FJ U,R],by rw[J];exact h0⟩,J]
def eX.flat{l:List Key}(h:∀a∈l,eX a):eX l.flatten:=λx u=>by obtain⟨a,E,u⟩:=mem_flatten.1 u;exact h a E x u
def qps(u:∀a∈n.J8,eX a)(G:∀a∈n.Q2,eX a):eX (gJ n):=by unfold gJ;split;refine (tL _ _).append λx h=>?_;obtain⟨y,I,h⟩:=yK.1 h;have E:=of_mem_zip (a:=y.1) (b:=y.2) I;rcases zD.1 h with h|h;exact u _ E.1 x h;exact G _ E.2 x h;refine ((tL _ _).append λx h=>?_).append (eX.flat u);obtain⟨y,_,h⟩:=yK.1 h;exact tL _ _ x h
def bw:Nat->Int->IT
 | 0,_=>[]
 | k+1,n=>bw k (n / 256)++[n%256]
def lI:∀(k:Nat) (n:Int),(bw k n).length=k
 | 0,_=>rfl
 | k+1,n=>by rw[bw,zF,lI k];rfl
def qi:∀(k:Nat) (n:Int),eX (bw k n)
 | 0,_=>λ_ h=>nomatch h
 | k+1,n=>λx u=>(zD.1 u).elim (qi k _ x) λh=>by rw[zE.1 h];omega
def qrm(l:IT)(x:Int):pj (l++[x])=pj l*256+x:=by unfold pj;rw[foldl_append];rfl
def vw:∀(k:Nat) {n:Int},0<=n->n<256^k->pj (bw k n)=n
 | 0,n,u,h=>by have:n<1:=h;show (0:Int)=n;omega
 | k+1,n,u,h=>by rw[Int.pow_succ] at h;rw[bw,qrm,vw k oJ oJ];omega
def Dn{a b:Int}(u:0<=a/\a<256^k)(E:0<=b/\b<256^k)(h:bw k a=bw k b):a=b:=by rw[<- vw k u.1 u.2,h,vw k E.1 E.2]
def qu5(l:IT):∀(r:Int),l.foldl (λr x=>r*256+x) r=r*256^l.length+pj l:=by
 unfold pj;induction l with
 | nil=>intro r;simp
 | cons x l ih=>
  intro r;rw[foldl_cons,foldl_cons,ih,ih (0*256+x),yI,Int.pow_succ];have:(r*256+x)*256^l.length=r*(256^l.length*256)+x*256^l.length:=(by rw[Int.add_mul,Int.mul_assoc,Int.mul_comm 256]);rw[this];simp;omega
def FB(x:Int)(l:IT):pj (x::l)=x*256^l.length+pj l:=by
 have:=qu5 l (0*256+x);rw[show (0*256+x)=x by omega] at this;unfold pj;rw[foldl_cons,show (0*256+x:Int)=x by omega,this];rfl
def Ej:∀ {l:IT},eX l->0<=pj l/\pj l<256^l.length
 | [],_=>⟨oM,oM⟩
 | x::l,h=>by have ih:=Ej λy u=>h y (zN x u);have E:=h x oL;rw[FB,yI,Int.pow_succ];generalize (256:Int)^l.length=c at ih;have G:x*c<=255*c:=Int.mul_le_mul_of_nonneg_right oJ oJ;have I:0<=x*c:=Int.mul_nonneg oJ oJ;omega
def qtL:∀ {a b:IT},eX a->eX b->a.length=b.length->(cmpL a b<0↔pj a<pj b)
 | [],[],_,_,_=>by show (0:Int)<0↔_;exact .rfl
 | [],_::_,_,_,h=>by simp at h
 | _::_,[],_,_,h=>by simp at h
 | x::a,y::b,G,I,h=>by have E:a.length=b.length:=(oP h);have ih:=qtL (λz u=>G z (zN _ u)) (λz u=>I z (zN _ u)) E;have pa:=Ej λz u=>G z (zN _ u);have pb:=Ej λz u=>I z (zN _ u);rw[FB,FB,E];rw[E] at pa;generalize (256:Int)^b.length=c at pa pb;unfold cmpL;by_cases h1:x<y;rw[iP h1];have:(x+1)*c<=y*c:=Int.mul_le_mul_of_nonneg_right oJ oJ;rw[Int.add_mul,Int.one_mul] at this;exact⟨λ_=>oJ,λ_=>oM⟩;rw[iN h1];by_cases h2:y<x;rw[iP h2];have:(y+1)*c<=x*c:=Int.mul_le_mul_of_nonneg_right oJ oJ;rw[Int.add_mul,Int.one_mul] at this;exact⟨λh=>absurd h oM,λh=>oJ⟩;rw[iN h2,ih];have:x=y:=oJ;subst this;omega
def qtK:∀ {a b c d:IT},a.length=b.length->cmpL (a++c) (b++d)=if a=b then cmpL c d else cmpL a b
 | [],[],_,_,_=>by rw[iP rfl];rfl
 | [],_::_,_,_,h=>by simp at h
 | _::_,[],_,_,h=>by simp at h
 | x::a,y::b,c,d,h=>by have ih:=qtK (a:=a) (b:=b) (c:=c) (d:=d) (oP h);rw[show cmpL (x::a++c) (y::b++d)=if x<y then -1 else if y<x then 1 else cmpL (a++c) (b++d) from rfl,show cmpL (x::a) (y::b)=if x<y then -1 else if y<x then 1 else cmpL a b from rfl];by_cases h1:x<y;rw[iP h1,iP h1,iN λe=>by have:=(vD e).1;omega];rw[iN h1,iN h1];by_cases h2:y<x;rw[iP h2,iP h2,iN λe=>by have:=(vD e).1;omega];have:x=y:=oJ;subst this;rw[iN h2,iN h2,ih];by_cases e:a=b;rw[iP e,iP (by rw[e])];rw[iN e,iN λh=>e (vD h).2]
abbrev jf:=IV
def uy (a:jf):Prop:=lQ a.1/\lQ a.2
def je (a:jf):IT:=bw 8 a.1++bw 8 a.2
def mV(a:jf):(je a).length=16:=by rw[je,zF,lI,lI]
def qg(a:jf):eX (je a):=λx h=>(zD.1 h).elim (qi _ _ x) (qi _ _ x)
def p8:(256:Int)^8=18446744073709551616:=by decide
def Gn{a b:jf}(u:uy a)(E:uy b)(h:je a=je b):a=b:=by obtain⟨G,I⟩:=append_inj h (by rw[lI,lI]);exact Prod.ext (Dn (by rw[p8];exact u.1) (by rw[p8];exact E.1) G) (Dn (by rw[p8];exact u.2) (by rw[p8];exact E.2) I)
def gu (a:jf) (n:Int):IT:=je a++bw 8 n
def lp (n m:Int):IT:=bw 8 n++bw 8 m
def wo(a:jf)(n:Int):(gu a n).length=24:=by rw[gu,zF,mV,lI]
def zm(n m:Int):(lp n m).length=16:=by rw[lp,zF,lI,lI]
def Bb(a:jf)(n:Int):eX (gu a n):=λx h=>(zD.1 h).elim (qg _ x) (qi _ _ x)
def GO(n m:Int):eX (lp n m):=qg (n,m)
def qw1{a b:jf}{n m:Int}(u:uy a)(E:uy b)(G:lQ n)(I:lQ m)(h:gu a n=gu b m):a=b/\n=m:=by obtain⟨J,R⟩:=append_inj h (by rw[mV,mV]);exact⟨Gn u E J,Dn (by rw[p8];exact G) (by rw[p8];exact I) R⟩
def qwa{n m:Int}(h:lQ n)(u:lQ m):cmpL (bw 8 n) (bw 8 m)<0↔n<m:=by rw[qtL (qi _ _) (qi _ _) (by rw[lI,lI]),vw 8 h.1 (by rw[p8];exact h.2),vw 8 u.1 (by rw[p8];exact u.2)]
end
section
open Go Go.Pt List
open Go.IntKind (wrap)
open Classical
end
section
open Go.ChangeShapes Go.WideShapes Go.ChangeAt Go.RowKit Go.Pt
def qAX:ownKnob prog.godebug=none:=by kernel_rfl
def qwO:laidOutB prog=true:=by kernel_rfl
abbrev rH:List (String×DataW Unit):=[("cashbook/crc.halves",Rows.laid_cashbook_crc_halves)]
def qtV:prog.globalNamed "cashbook/crc.halves"=some HG:=by kernel_rfl
def qzr:(prog.globals[HG]?).map (·.type)=some 373:=by kernel_rfl
def qzs:prog.underlying 373=some (.array 16 63):=by kernel_rfl
def qye:prog.underlying 63=some (.int .u32):=by kernel_rfl
set_option maxRecDepth 100000 in
def qx7(h:Os)(args:Array IL):laidMetH prog rH ((World.doorLaid prog 4000 h).forCall (λ_ _=>0) ⟨#[],args,[]⟩).memory:=
 laidMetH_of_parts3 (fuel:=8) (laidMet_of_run' 8 oK oK) oK oK
def qu9{W:IK}(h:laidMetH prog rH W):Hv W:=by
 rw[MakeChecks.laidMetH_plain _ _ _ oK] at h;obtain⟨ps,⟨g0,t0,cs0,f0,p0,q0,hg0,ht0,hv0,hd0,_,_⟩,_,_⟩:=h;obtain rfl:=yO (qtV.symm.trans hg0);obtain rfl:=yO (qzr.symm.trans ht0);obtain⟨xs,m1,rfl,hx1,hlen,hn3,hel⟩:=DataW.trod_array qzs hd0;simp only[Prod.mk.injEq] at hx1;have hx:=hx1.1;unfold Rows.laid_cashbook_crc_halves at hx;rw[DataW.agg.injEq] at hx;have c31:prog.cellsOf 63=1:=oK;have hcl:prog.cellsOf 373=16:=oK;have hb:∃T fr,W.heap[HG]?=some (.cells cs0 T fr):=by unfold World.var? at hv0;rw[qtV,Option.bind_some] at hv0;split at hv0;rename_i cs T fr hb;cases hv0;exact⟨T,fr,hb⟩;cases hv0
 obtain⟨T,fr,hb⟩:=hb;have key:∀(i:Nat) (n:Int),(xs.map (·.1))[i]?=some (DataW.lit (.int .u32 n))->cs0.toList[i]?=some (.int .u32 n):=by
  intro i n hi;rw[zQ] at hi;obtain⟨y,hy,hyn⟩:=yT.1 hi;have hil:i<xs.length:=(zP.1 hy).1;have h1:=hel i oJ;rw[c31] at h1;rw[hy] at h1;obtain⟨k,e1,e2,_⟩:=DataW.trod_int qye h1;rw[e2] at hyn;have hk:k=n:=(oP hyn);subst hk;have:=IH (·[0]?) e1;simpa using this
 refine⟨T,fr,?_⟩;rw[hb];refine IH (λc=>some (Obj.cells c T fr)) ?_;apply Array.ext';apply List.ext_getElem?;intro i;have hsz:cs0.toList.length=16:=hlen.trans hcl;have hx':xs.map (·.1)=lr.map (λn=>DataW.lit (.int .u32 n)):=hx.symm;by_cases hi:i<lr.length;have h1:=key i lr[i] (by rw[hx',zQ,zA hi];rfl);rw[h1];show _=(lr.map (Value.int .u32))[i]?;rw[zQ,zA hi];rfl;have h16:lr.length=16:=rfl;rw[yS oJ];exact (yS (by rw[zK];omega)).symm
def qyY{x:Int}(h:IntKind.u8.has x):0<=x/\x<256:=by have u:(0:Int)<=x/\x<=255:=h;omega
end
end Go.Proofs.YtpcmehldpoljfaaGreatDoor
