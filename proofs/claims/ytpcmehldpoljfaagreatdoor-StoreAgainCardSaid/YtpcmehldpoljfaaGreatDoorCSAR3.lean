/- Conditions: those that stand in each line. -/
import Derived.Test.YtpcmehldpoljfaaGreatDoorCSAR2
import Derived.Sort.LotC
import Derived.Sort.LotA
import Derived.Sort.LotD1
import Derived.Laws.Bits64b
import Derived.Laws.Closers25b
import Derived.KernelRfl
import Derived.Sort.LotD2
import Derived.Sort.LotB
import Derived.Sort.LotD3
import Derived.Test.YtpcmehldpoljfaaGreatDoorCSAR1
import Derived.Test.YtpcmehldpoljfaaGreatDoorProg
import Derived.Shelf.Bytes.SlCountOne
import Derived.Laws.CopyRow
import Derived.Laws.IdiomCopy
set_option linter.unusedVariables false
set_option linter.unusedSimpArgs false
set_option linter.defProp false
namespace Go.Proofs.YtpcmehldpoljfaaGreatDoor
open Go.Proofs.Tryz
section
open Go Go.Pt Go.Sort List
attribute [local irreducible] ld dL gZ mP i3 fc st new idx i4 jg fB jk iO lS gB nn call dZ inv run eW iC join loop held ext jU eH mv mp mA IntKind.wrap
variable {F R S:Ik} {K:Unit->WP} {T:If} {a b n pb:Nat} {d:Array Int} {l:Il} {mb:Ie} {p:Int->Bool} {t:Int->Ic->(Bool->WP)->Prop} {w:Ic} {x:Int}
def vF:∃i,prog.info? 63=some i/\i.zero=some (.u 0)/\i.size=1/\i.bytes=4:=sV oK
def qo0(v:Ie)(k:Nat)(h:v.cells = #[v]):Builtin.zeroCells v.cells k=Array.replicate k v:=by rw[h];apply Array.ext;simp[Builtin.zeroCells];intro i u C;simp[Builtin.zeroCells,Nat.mod_one]
def Ex(l:Il):gX l.toArray=(l.map (Value.int .u32)).toArray:=by simp[gX]
def xk{i:Nat}(h:d.toList.take n=l)(hi:i<n)(u:n<=d.size):l[i]?=some d[i]!:=by rw[<- h,xA,iP hi];simp[show i<d.size by omega]
def qs8{α:Type}(x:α):∀(l:List α) (n:Nat),n<l.length->(l.set n x).take (n+1)=l.take n++[x]
 | a::l,0,_=>by simp
 | a::l,n+1,h=>by simpa using qs8 x l n (oP h)
def qBp(h:lL w pb mb R d n)(hn:n<=1000000)(hk:∀R' d' w',lL w' pb mb R' d' (n+1)->d'.toList.take (n+1)=d.toList.take n++[x]->Fr (pb::R) w w'->(∀b∈R',b∈R\/w.heap.size<=b)->K () w'): inv prog (.iface 315 (dG pb)) "Push" [.iface 63 (.u x)] [] w K:=by
 obtain⟨af,U,hz,G,aa⟩:=vF;refine quB (f:=284) (by kernel_rfl) (e:=270) (by kernel_rfl) (by kernel_rfl)<|qno ?_;have ta:(Instr.typeAssert (.iface 63 (.u x)) 20 63 true).run prog w=.ok (.tuple #[.u x,.bool true]) w:=(by kernel_rfl);refine qu (ts:=dA) (x,true) ta<|HK rfl<|fu ?_;have zc:∀k,Builtin.zeroCells (Value.int .u32 0).cells k=Array.replicate k (.u 0):=λk=>qo0 _ k rfl;rcases h with ⟨h0,hd,hR,I⟩|⟨rb,T,hR,I,ah,ab,ax⟩;subst h0 hd hR;refine io I dH rfl ?_;have C:dR [pb] w w [(pb,.c #[.slice none 0 0,mb] PT)]:=⟨by simpa using I,by simp,.refl _ _,by simp⟩;refine dR.new C λtb w1 et ai C=>qzP (P:=prog) (e:=63) (by kernel_rfl) U hz [.u x] (by rw[G];rfl) (λj u E=>?_) (by omega) (by rw[aa];omega) (by omega) λq ac aj=>?_;match j,E with
 | 0,E=>
  have:=C.cell (off:=0) 0 rfl rfl;simp at E;subst E;exact this
 | j+1,E=>simp at E
 rw[zc];have C:=C.drew.alloc (.c (#[Value.int .u32 x]++Array.replicate (q-1) (.u 0)) 63);refine fu<|oH C 2 rfl _ rfl rfl rfl λw2 C _=>?_;have V:w1.drew.heap.size≠pb:=by
  have:=C.nodup;simp at this;exact λe=>this.1.2 e
 have ak:#[Value.int .u32 x]++Array.replicate (q-1) (.u 0)=gX (([x]++List.replicate (q-1) 0).toArray):=(by rw[Ex];apply Array.ext';simp);refine hk [w1.drew.heap.size] (([x]++List.replicate (q-1) 0).toArray) w2 (.inr ⟨w1.drew.heap.size,63,rfl,?_,?_,V,by simp⟩) (by simp) (C.fr.mono (λi U _=>by simpa using U)) (λb I=>?_);have:=C.at (i:=2) rfl;have e:(([x]++List.replicate (q-1) (0:Int)).toArray).size=q:=(by simp;omega);rw[e];exact this;have:=C.at (i:=0) rfl;rw[<- ak];exact this;simp at I;subst I;right;have:=C.own (w1.drew.heap.size,_) (by simp;exact .inl rfl);simp at this;omega;subst hR;refine io I ⟨pW rb,n,d.size⟩ rfl ?_;dsimp only;have C:dR [pb,rb] w w [(pb,rE rb n d.size mb),(rb,.c (gX d) T)]:=⟨by simpa using ⟨I,ah⟩,by simpa using λe=>ab e.symm,.refl _ _,by simp⟩;refine dR.new C λtb w1 et ai C=>?_;have J:∀(j:Nat) u,[Value.int .u32 x][j]?=some u->w1.cell? (((dg tb):Addr).add j)=some u:=λj u E=>by
  match j,E with
  | 0,E=>
   have:=C.cell (off:=0) 0 rfl rfl;simp at E;subst E;exact this
  | j+1,E=>simp at E
 by_cases hroom:n+1<=d.size;refine quf (P:=prog) (e:=63) (by kernel_rfl) U [.u x] (C.at (i:=2) rfl) (by rw[G];rfl) J (by simp[Value.oneCell']) hroom (by rw[G,zy];simp;omega) ?_;have al:dS (gX d) (0+n*af.size) [.u x]=gX (d.setIfInBounds n x):=by rw[G,xR,xS];exact qtl d n x
 rw[al];have C:=C.gS (o':=.c (gX (d.setIfInBounds n x)) T) 2 rfl;refine fu<|oH C 1 rfl _ rfl rfl rfl λw2 C _=>hk [rb] (d.setIfInBounds n x) w2 (.inr ⟨rb,T,rfl,?_,?_,ab,by simpa using hroom⟩) ?_ (C.fr.mono (λi U _=>by simpa using U)) (λb I=>.inl I)
 have:=C.at (i:=1) rfl;rw[Array.size_setIfInBounds];exact this;exact C.at (i:=2) rfl;rw[Array.toList_setIfInBounds];exact qs8 x _ _ (by simp;omega);have ad:n=d.size:=(by omega);refine qrX (P:=prog) (e:=63) (by kernel_rfl) U hz (d.toList.map (Value.int .u32)) [.u x] (by rw[G];simp;omega) (λj u E=>?_) (by rw[G];rfl) J (by omega) (by rw[aa];omega) (by omega) λq ac aj=>?_;rw[Addr.q9,jp (C.at (i:=2) rfl),xR];rw[zQ] at E;unfold gX;rw[Array.getElem?_map];simpa using E;rw[zc];have am:(d.toList.map (Value.int .u32)).toArray++[Value.int .u32 x].toArray++Array.replicate (q-(n+1)) (.u 0)=gX ((d.toList++[x]++List.replicate (q-(n+1)) (0:Int)).toArray):=by rw[Ex];apply Array.ext';simp
 rw[am];have e:((d.toList++[x]++List.replicate (q-(n+1)) (0:Int)).toArray).size=q:=(by simp;omega);have C:=C.drew.alloc (.c (gX ((d.toList++[x]++List.replicate (q-(n+1)) (0:Int)).toArray)) 63);refine fu<|oH C 2 rfl _ rfl rfl rfl λw2 C _=>?_;have V:w1.drew.heap.size≠pb:=by
  have:=C.nodup;simp at this;exact λe=>this.1.2.1 e
 refine hk [w1.drew.heap.size] _ w2 (.inr ⟨w1.drew.heap.size,63,rfl,?_,C.at (i:=0) rfl,V,by rw[e];exact ac⟩) ?_ (C.fr.mono (λi U _=>by simpa using U)) (λb I=>?_);have:=C.at (i:=2) rfl;rw[e];exact this;rw[ad];simp[take_append,zS];simp at I;subst I;right;show w.heap.size<=w1.heap.size;omega
def qBD{rb:Nat}{K:Ie->WP}(I:w.heap[pb]?=some (rE rb (n+1) d.size mb))(h:w.heap[rb]?=some (.c (gX d) T))(G:rb≠pb)(V:n+1<=d.size)(J:n<=1000000)(R:∀w',w'.heap[pb]?=some (rE rb n d.size mb)->w'.heap[rb]?=some (.c (gX d) T)->Fr [pb] w w'->K (.iface 63 (.u d[n]!)) w'): inv prog (.iface 315 (dG pb)) "Pop" [] dw w K:=by
 refine quB (f:=283) (by kernel_rfl) (e:=270) (by kernel_rfl) (by kernel_rfl)<|qoC ?_;have E:dR [pb] w w [(pb,rE rb (n+1) d.size mb)]:=⟨by simpa using I,by simp,.refl _ _,by simp⟩;have U:gI rb T w w d:=.start h;refine fu (Ii E.drew 0 rfl ⟨pW rb,n+1,d.size⟩ ?_);refine fu (Ii E.drew 0 rfl ⟨pW rb,n+1,d.size⟩ ?_);dsimp only;refine U.drew.rd n (by rw[wi _ (by omega)];omega) (by omega) (by omega)<|fu (Ii E.drew.drew 0 rfl ⟨pW rb,n+1,d.size⟩ ?_);refine fu (Ii E.drew.drew 0 rfl ⟨pW rb,n+1,d.size⟩ ?_);dsimp only;rw[wi _ (by omega)];refine zv ⟨by omega,by dsimp only;omega⟩<|fu<|oH E.drew.drew 0 rfl _ rfl rfl rfl λw2 C _=>R w2 ?_ ?_ C.fr
 have:=C.at (i:=0) rfl;rw[show (((n+1:Nat):Int)-1).toNat=n by omega] at this;exact this;rw[C.fr.block rb (eX h) (by simpa using G)];exact h
def BO{u:Array Int}(h:PermIn 0 n d u):(u.toList.take n).Perm (d.toList.take n):=by
 have:=h.2.2;simpa[Array.toList_extract] using this
def qx8(h:lL w pb mb R d n)(hn:n<=1000000)(hh:jW d n)(hk:∀R' d' w',lL w' pb mb R' d' (n+1)->jW d' (n+1)->(d'.toList.take (n+1)).Perm (d.toList.take n++[x])->Fr (pb::R) w w'->(∀b∈R',b∈R\/w.heap.size<=b)->K () w'): cW 184 [.iface 315 (dG pb),.iface 63 (.u x)] [] w K:=by
 have ac:n<=d.size:=by rcases h with ⟨V,_⟩|⟨_,_,_,_,_,_,E⟩;omega;exact E
 apply qsq;refine qBp h hn λR1 d1 w1 hr ht hf hR=>?_;rcases hr with ⟨V,_⟩|⟨rb,T,ad,hb,U,G,I⟩;omega;subst ad;refine qA1 hb G (.start U) ?_;rw[wi _ oJ,show ((n+1:Nat):Int)-1=(n:Nat) by omega];have C:∀i,i<n->d1[i]! = d[i]!:=λi J=>by have E:=xk ht (show i<n+1 by omega) I;rw[yY oO] at E;have h2:=xk (d:=d) rfl J ac;rw[h2] at E;exact (yN E).symm
 refine qBj hb G (.start U) (Nat.lt_succ_self n) ⟨I,oJ⟩ ⟨λi V J aq=>?_,λi V J ar _=>oJ⟩ λd2 w2 hp hH ha=>?_;rw[C i oJ,C _ oJ];exact hh i V oJ;refine hk [rb] d2 w2 (.inr ⟨rb,T,rfl,?_,ha.eJ,G,by rw[hp.1];exact I⟩) hH ((BO hp).trans (by rw[ht])) (hf.j8 ha.fr λi J=>?_) hR;rw[ha.fr.block pb (eX hb) (by simpa using λe=>G e.symm),hp.1];exact hb;simp at J;subst J;rcases hR i oL with E|E;exact .inl (zN _ E);exact .inr E
def jW.min(h:jW d n):∀i,i<n->d[0]!<=d[i]!:=by
 intro i;induction i using Nat.strongRecOn with
 | _ i ih=>
  intro u;by_cases h0:i=0;rw[h0];exact Int.le_refl _;exact Int.le_trans (ih ((i-1) / 2) oJ oJ) (h i oJ u)
def qzE{rb:Nat}{K:Ie->WP}(I:w.heap[pb]?=some (rE rb (n+1) d.size mb))(J:w.heap[rb]?=some (.c (gX d) T))(h:rb≠pb)(U:n+1<=d.size)(hn:n<=1000000)(hh:jW d (n+1))(hk:∀V w',lL w' pb mb [rb] V n->jW V n->(d[0]!::V.toList.take n).Perm (d.toList.take (n+1))->Fr [pb,rb] w w'->K (.iface 63 (.u d[0]!)) w'): cW 236 [.iface 315 (dG pb)] dw w K:=by
 apply qtI;refine qA1 I h (.start J) ?_;rw[wi _ oJ,show ((n+1:Nat):Int)-1=(n:Nat) by omega];refine Hq (i:=0) (k:=n) I h (.start J) oJ oJ ⟨U,oJ⟩ λw1 h1=>?_;have R:(swp d 0 n).size=d.size:=Sort.size_swp _ _ _;have C:=uD d (i:=0) (j:=n) oJ oJ;refine qzB (n:=n) I h h1 oJ ⟨oJ,oJ⟩ ⟨λi h0 E al=>?_,λi h0 E am hc=>oJ⟩ λb d2 w2 hp hH h2=>?_;rw[C,C,iN,iN,iN,iN];exact hh i h0 oJ;have ad:=hp.1;have ae:w2.heap[pb]?=some (rE rb (n+1) d2.size mb):=by rw[h2.fr.block pb (eX I) (by simpa using λe=>h e.symm),ad,R];exact I
 refine qBD ae h2.eJ h oJ hn λw3 g1 g2 g3=>?_;have G:d2[n]! = d[0]!:=by rw[hp.2.1 n (.inr (zM _)),C,iP rfl]
 rw[G];refine hk d2 w3 (.inr ⟨rb,T,rfl,g1,g2,h,oJ⟩) hH ?_ ((h2.fr.mono (T:=[pb,rb]) (λi E _=>by simp at E;simp[E])).trans (g3.mono (λi E _=>by simp at E;simp[E])));have p1:=BO hp;have p2:=BO (swp_permIn d 0 (n+1) 0 n oJ oJ oJ oJ oJ);have e1:(swp d 0 n).toList.take (n+1)=(swp d 0 n).toList.take n++[d[0]!]:=by have hv:(swp d 0 n)[n]! = d[0]!:=(by rw[C,iP rfl]);have hl:n<(swp d 0 n).toList.length:=(by simp[R];omega);rw[yF hl];congr 2;rw[<- hv];simp[show n<(swp d 0 n).size by omega]
 rw[e1] at p2;exact ((HO _ _).symm.trans (p1.append_right _)).trans p2
def ins (x:Int):Il->Il
 | []=>[x]
 | a::l=>if x<a then x::a::l else if x=a then a::l else a::ins x l
def wn{x:Int}:∀ {l:Il},x∉l->(ins x l).Perm (x::l)
 | [],_=>.refl _
 | a::l,h=>by simp only[zG,not_or] at h;simp only[ins];split;exact .refl _;rw[iN h.1];exact ((wn h.2).cons a).trans (.swap x a l)
def quA{x y:Int}:∀ {l:Il},y∈ins x l->y=x\/y∈l
 | [],h=>by simp[ins] at h;exact .inl h
 | a::l,h=>by simp only[ins] at h;split at h;simp only[zG] at h⊢;exact h;split at h;exact .inr h;simp only[zG] at h⊢;rcases h with h|h;exact .inr (.inl h);rcases quA h with h|h;exact .inl h;exact .inr (.inr h)
def A4{x:Int}:∀ {l:Il},l.Pairwise (· < ·)->(ins x l).Pairwise (· < ·)
 | [],_=>by simp[ins]
 | a::l,h=>by have C:=yI.1 h;simp only[ins];split;rename_i E;refine yI.2 ⟨λb u=>?_,h⟩;rcases zG.1 u with rfl|u;exact E;exact Int.lt_trans E (C.1 b u);split;exact h;rename_i G I;refine yI.2 ⟨λb u=>?_,A4 C.2⟩;rcases quA u with rfl|u;omega;exact C.1 b u
def qsu{x:Int}:∀ {l:Il},l.Pairwise (· < ·)->x∈l->ins x l=l
 | a::l,h,u=>by
  have C:=yI.1 h;simp only[ins];rcases zG.1 u with rfl|u;rw[iN (Int.lt_irrefl _),iP rfl];have:=C.1 x u;rw[iN,iN,qsu C.2 u]
def wS(h:b<w.heap.size)(o:Obj):Fr [b] w (gS w b o):=
 ⟨rfl,rfl,rfl,by rw[tI];exact zM _,λj C u=>by rw[oV _ _ _ _ h,iN (oP u)]⟩
def lL.q8{w':Ic}{m:Ie}(h:lL w pb m R d n)(k:Fr S w w')(u:pb∉S)(C:∀r∈R,r∉S):lL w' pb m R d n:=by rcases h with ⟨a,b,c,e⟩|⟨rb,T,a,b,c,e,f⟩;exact .inl ⟨a,b,c,by rw[k.block pb (eX e) u];exact e⟩;exact .inr ⟨rb,T,a,by rw[k.block pb (eX b) u];exact b,by rw[k.block rb (eX c) (C rb (by rw[a];simp))];exact c,e,f⟩
def GE{α:Type}[DecidableEq α]{kv:α->Ie}{w':Ic}{f:List (α×Ie)}(h:kN kv w b f)(k:Fr S w w')(C:b∉S):kN kv w' b f:=by obtain⟨E,c,u,G⟩:=h;exact⟨E,c,by rw[k.block b (eX u) C];exact u,G⟩
def lL.tD{mb:Nat}{m:Ie}{f:List (Int×Ie)}(h:lL w pb m R d n)(I:kN i8 w mb f):pb≠mb/\∀r∈R,r≠mb:=by obtain⟨J,c,u,_⟩:=I;rcases h with ⟨_,_,E,e⟩|⟨rb,T,a,b,E,e,_⟩;refine⟨λC=>?_,by simp[E]⟩;subst C;rw[e] at u;cases u;refine⟨λC=>?_,λr G C=>?_⟩;subst C;rw[b] at u;cases u;rw[a] at G;simp at G;subst G C;rw[E] at u;cases u
def fY.q8{w w':Ic}{pb:Nat}{F S:Ik}{l:Il}(h:fY w pb F l)(k:Fr S w w')(u:∀b∈F,b∉S):fY w' pb F l:=by obtain⟨⟨mb,R,d,f,rfl,C,E,G,I,J,U⟩,V⟩:=h;exact⟨⟨mb,R,d,f,rfl,C.q8 k (u _ oL) (λr C=>u r (by simp[C])),GE E k (u _ oL),G,I,J,U⟩,V⟩
def fY.lt(h:fY w pb F l):∀b∈F,b<w.heap.size:=by obtain⟨⟨mb,R,d,f,rfl,G,⟨I,c,E,_⟩,_⟩,_⟩:=h;intro b u;simp only[zG] at u;rcases G with ⟨_,_,C,e⟩|⟨rb,T,a,b',C,e,_⟩;rcases u with rfl|rfl|u;exact eX e;exact eX E;rw[C] at u;cases u;rcases u with rfl|rfl|u;exact eX b';exact eX E;rw[a] at u;simp at u;subst u;exact eX C
def Dh{n:Int}{K:Bool->WP}(h:fY w pb F l)(hl:l.length<=1000000)(hk:∀F' w',fY w' pb F' (ins n l)->Fr F w w'->(∀b∈F',b∈F\/w.heap.size<=b)->K (decide (n∉l)) w'): cW 152 [dG pb,.u n] dj w K:=by
 refine qnm<|Er h ?_;by_cases hx:n∈l;refine HK (oP hx) ?_;have:=hk F w (by rw[qsu h.nK hx];exact h) (.refl _ _) (λb U=>.inl U);simpa[hx] using this;refine HM (oP hx) ?_;obtain⟨s,C,E,_,_⟩:=h.cells;have ab:=h.nK;obtain⟨mb,R,d,f,rfl,hr,hm,J,hh,hf,h1⟩:=h.ex;have al:C=mb:=by rcases hr with ⟨_,_,_,e⟩|⟨rb,T,_,b,_⟩;have h3:=H9 (λo=>match o with|some (Obj.cells cs _ _)=>cs[1]? | _=>none) (E.symm.trans e);simpa using h3;have h3:=H9 (λo=>match o with|some (Obj.cells cs _ _)=>cs[1]? | _=>none) (E.symm.trans b);simpa[rE] using h3
 subst al;refine fu<|io E (some C) rfl ?_;have ae:posOf n f=none:=by rcases DA (x:=n) h1 with ⟨J,_⟩|⟨j,_,ao,_⟩;exact J;exact absurd (hf.mem_iff.1 ao) hx
 obtain⟨o,af,ap⟩:=qwb (P:=prog) (t:=271) (et:=3) (v:=.i 1) oK uH hm n ae;refine Dk _ af ?_;obtain⟨V,aa⟩:=hr.tD hm;have ag:C<w.heap.size:=(by obtain⟨es,c,U,_⟩:=hm;exact eX U);have ah:=wS ag o;have aq:=hr.q8 ah (oP V) (λr hr=>by simpa using aa r hr);refine fu<|qx8 aq hl hh λR' d' w2 ar au av ai aw=>?_;have G:=wn hx;have I:(ins n l).length=l.length+1:=(by have:=G.length_eq;simpa using this);have ax:kN i8 w2 C (f++[(n,.i 1)]):=GE ap ai (by simp only[zG,not_or];exact⟨λe=>V e.symm,λe=>aa _ e rfl⟩)
 have:=hk (pb::C::R') w2 ⟨⟨C,R',d',f++[(n,.i 1)],rfl,by rw[I];exact ar,ax,?_,by rw[I];exact au,?_,?_⟩,A4 ab⟩
  ((ah.mono (T:=pb::C::R) (λi hi _=>by simp at hi;simp[hi])).trans (ai.mono (λi hi _=>by simp at hi;rcases hi with rfl|hi<;>simp[*]))) (λb U=>?_)
 simpa[hx] using this;rw[I];exact av.trans (((J.append_right [n]).trans (HO _ _)).trans G.symm);rw[xM];exact ((hf.append_right _).trans (HO _ _)).trans G.symm;intro p J;rcases zD.1 J with J|J;exact h1 p J;simp at J;rw[J];simp only[zG] at U;rcases U with rfl|rfl|U;exact .inl oL;exact .inl oL;rcases aw b U with h'|h';exact .inl (by simp[h']);rw[tI] at h';exact .inr h'
def qgM{α:Type}:∀(l:List α) (i:Nat) (h:i<l.length),(l[i]::l.eraseIdx i).Perm l
 | a::l,0,_=>.refl _
 | a::l,i+1,h=>by simp only[getElem_cons_succ,eraseIdx_cons_succ];exact (List.Perm.swap _ _ _).trans ((qgM l i (oP h)).cons a)
def tF:Il->Iy×Il
 | []=>((0,false),[])
 | x::r=>((x,true),r)
def qzM{K:Iy->WP}(h:fY w pb F l)(hl:l.length<=1000000)(hk:∀F' w',fY w' pb F' (tF l).2->Fr F w w'->(∀b∈F',b∈F\/w.heap.size<=b)->K (tF l).1 w'): cW 195 [dG pb] dA w K:=by
 refine qlP ?_;have E:=h.nK;have C:=h;obtain⟨mb,R,d,f,rfl,hr,hm,U,hh,hf,h1⟩:=h.ex;rcases hr with ⟨h0,hd,hR,G⟩|⟨rb,T,hR,G,ae,af,I⟩;have aw:l=[]:=HW h0;subst aw;exact fu<|io G dH rfl<|HK rfl<|hk _ w C (.refl _ _) λb G=>.inl G;subst hR;refine fu<|io G ⟨pW rb,l.length,d.size⟩ rfl ?_;match l,hl,hk,E,C,G,U,hh,hf,I with
 | [],hl,hk,E,C,G,U,hh,hf,I=>
  exact HK rfl<|hk _ w C (.refl _ _) (λb G=>.inl G)
 | x::r,hl,hk,E,C,G,U,hh,hf,I=>
  simp only[yH] at G U hh I hl⊢;refine HM oO<|fu ?_;have J:=(show lL w pb (.map (some mb)) [rb] d (r.length+1) from .inr ⟨rb,T,rfl,G,ae,af,I⟩).tD hm;have ax:d[0]! = x:=by
   have ag:d[0]!∈x::r:=U.mem_iff.1 (by
    have:=xk (d:=d) rfl (show 0<r.length+1 by omega) I;exact yE this)
   have hx:x∈d.toList.take (r.length+1):=U.mem_iff.2 oL;obtain⟨i,V,ay⟩:=getElem_of_mem hx;have ah:i<r.length+1:=(by simp at V;omega);have h2:=xk (d:=d) rfl ah I;rw[zA V,ay] at h2;have ai:=hh.min i ah;rw[<- yN h2] at ai;rcases zG.1 ag with e|e;exact e;have:=(yI.1 E).1 _ e;omega
  refine qzE G ae af I oJ hh λd2 w2 aj az ak al=>?_;rw[ax] at ak⊢;have ta:(Instr.typeAssert (.iface 63 (.u x)) 20 63 true).run prog w2=.ok (.tuple #[.u x,.bool true]) w2:=oK;refine qu (ts:=dA) (x,true) ta ?_;have am:kN i8 w2 mb f:=GE hm al (by simp only[zG,xW,or_false,not_or];exact⟨λe=>J.1 e.symm,λe=>J.2 rb oL e.symm⟩);obtain⟨s2,aA⟩:∃s:Sl,w2.heap[pb]?=some (.c #[s.v,.map (some mb)] PT):=by rcases aj with ⟨_,_,_,aa⟩|⟨aB,T',_,aa,_⟩;exact⟨dH,aa⟩;exact⟨⟨pW aB,_,_⟩,aa⟩
  refine fu<|io aA (some mb) rfl ?_;obtain⟨o,an,ao⟩:=qwa (P:=prog) (t:=271) (et:=3) (kt:=63) (ty:=0) oK uH am x;refine GM (ts:=[]) () _ an ?_;rcases DA (x:=x) h1 with ⟨_,aC⟩|⟨j,ap,_,hj⟩;exact absurd (hf.mem_iff.2 oL) aC;rw[ap] at ao;have aq:mb<w2.heap.size:=(by obtain⟨es,c,G,_⟩:=am;exact eX G);have ar:=wS aq o;refine hk [pb,mb,rb] (gS w2 mb o) ⟨⟨mb,[rb],d2,f.eraseIdx j,rfl,aj.q8 ar (oP J.1) (λr hr=>by simpa using J.2 r hr),ao,(ak.trans U).cons_inv,az,?_,λp U=>h1 p (mem_of_mem_eraseIdx U)⟩,(yI.1 E).2⟩
   ((al.mono (T:=[pb,mb,rb]) (λi V _=>by simp at V;rcases V with rfl|rfl<;>simp)).trans (ar.mono (λi V _=>by simp at V;simp[V]))) (λb G=>.inl G)
  show ((f.eraseIdx j).map (·.1)).Perm r;rw[uV];obtain⟨aD,aE⟩:=zP.1 hj;have:=qgM _ _ aD;rw[aE] at this;exact (this.trans hf).cons_inv
section
section
variable {eJ:Nat} {T:ku} {w0 w:Ic} {d:Array Int} {len cap:Nat}
def qt8{lo hi first:Nat}(h:gI eJ T w0 w d)(hlo:lo<=hi)(hf:first+hi<=len)(hl:len<=d.size/\len<=1152921504606846976)(hk:∀w',gI eJ T w0 w' (siftDown ltInt hi first lo d)->(siftDown ltInt hi first lo d).size=d.size->K () w'): cW 242 [.slice (pW eJ) len cap,.i lo,.i hi,.i first] [] w K:=by
 refine qfT (data:=⟨pW eJ,len,cap⟩)<|iX (λx w'=>∃(r:Nat) (d':Array Int),x=r/\r<=hi/\gI eJ T w0 w' d'/\d'.size=d.size/\siftDown ltInt hi first r d'=siftDown ltInt hi first lo d) (λx _=>((hi:Int)-x).toNat)
  ⟨lo,d,rfl,hlo,h,rfl,rfl⟩ ?_
 rintro x w1 ⟨r,d1,rfl,hr,h,hs1,he1⟩ X hX;have e1:IntKind.i64.wrap (IntKind.i64.wrap (2*(r:Int))+1)=((2*r+1:Nat):Int):=(by rw[wi (2*(r:Int)) oJ,wi _ oJ];omega);have e2:IntKind.i64.wrap (((2*r+1:Nat):Int)+1)=((2*r+2:Nat):Int):=(by rw[wi _ oJ];omega);rw[e1,e2];have hd:=siftDown.eq_1 ltInt hi first r d1;apply dX<;>intro hc;have hc':2*r+1>=hi:=(by have:=zC hc;omega);rw[dif_pos hc'] at hd;rw[hd] at he1;refine hk _ ?_ ?_;rw[<- he1];exact h;rw[<- he1];exact hs1
 ·have hc':¬2*r+1>=hi:=(by have:=zB hc;omega);rw[dif_neg hc'] at hd;refine gP (λx w'=>x=((if 2*r+1+1<hi&&ltInt d1[first+(2*r+1)]! d1[first+(2*r+1)+1]! then 2*r+2 else 2*r+1:Nat):Int)/\gI eJ T w0 w' d1) ?_ ?_
  ·refine gP (λc w'=>c=(decide (2*r+1+1<hi)&&ltInt d1[first+(2*r+1)]! d1[first+(2*r+1)+1]!)/\gI eJ T w0 w' d1) ?_ ?_
   ·apply dX<;>intro hc
    ·have hc2:2*r+1+1<hi:=(by have:=zC hc;omega);exact h.drew.rd (first+(2*r+1)) (by rw[wi _ oJ];omega) oJ oJ<|h.drew.rd (first+(2*r+1)+1) (by rw[wi ((first:Int)+_) oJ,wi _ oJ];omega) oJ oJ<|sC<|⟨by simp[hc2],h.drew⟩
    have hc2:¬2*r+1+1<hi:=(by have:=zB hc;omega);exact⟨by simp[hc2],h.drew⟩
   rintro c w3 ⟨rfl,h⟩;apply dX<;>intro hc;exact⟨by rw[iP hc],h⟩;exact⟨by rw[iN (oP hc)],h⟩
  ·rintro x w3 ⟨rfl,h⟩;have fin:∀c:Nat,(c=2*r+1\/c=2*r+2)->c<hi->((if !ltInt d1[first+r]! d1[first+c]! then d1 else siftDown ltInt hi first c (swp d1 (first+r) (first+c)))=siftDown ltInt hi first lo d)->
     idx ⟨pW eJ,len,cap⟩ (IntKind.i64.wrap (first+r)) 1 λa_16=>ld .u a_16 w3.drew λx_17=>idx ⟨pW eJ,len,cap⟩ (IntKind.i64.wrap (first+c)) 1 λa_18=>ld .u a_18 w3.drew λx_19=>
      cW 218 [.u x_17,.u x_19] dj w3.drew λb_20 w_21=>
       bif !b_20 then K () w_21 else
        idx ⟨pW eJ,len,cap⟩ (IntKind.i64.wrap (first+c)) 1 λa_22=>ld .u a_22 w_21.drew λx_23=>idx ⟨pW eJ,len,cap⟩ (IntKind.i64.wrap (first+r)) 1 λa_24=>ld .u a_24 w_21.drew λx_25=>
         idx ⟨pW eJ,len,cap⟩ (IntKind.i64.wrap (first+r)) 1 λa_26=>st a_26 [.u x_23] w_21.drew λw_27=>idx ⟨pW eJ,len,cap⟩ (IntKind.i64.wrap (first+c)) 1 λa_28=>st a_28 [.u x_25] w_27 λw_29=>X c w_29:=by
    intro c hcc hch hceq;refine h.drew.rd (first+r) (by rw[wi _ oJ];omega) oJ oJ<|h.drew.rd (first+c) (by rw[wi _ oJ];omega) oJ oJ<|sC ?_;apply dX<;>intro hc;rw[iP hc] at hceq;refine hk _ ?_ ?_;rw[<- hceq];exact h.drew;rw[<- hceq];exact hs1
    ·rw[iN (by rw[hc];decide)] at hceq;exact h.drew.drew.swap (first+r) (first+c) (by rw[wi _ oJ];omega) (by rw[wi _ oJ];omega) oJ oJ oJ λw4 h=>hX _ _ ⟨c,_,rfl,oJ,h,by rw[AN];exact hs1,hceq⟩ oJ
   split;rename_i hcc;rw[iP hcc] at hd;have hlt:2*r+2<hi:=(by simp only[yA,decide_eq_true_eq] at hcc;omega);rw[dif_pos hlt] at hd;exact fin _ (.inr rfl) hlt (hd.symm.trans he1);rename_i hcc;rw[iN hcc] at hd;exact fin _ (.inl rfl) oJ (hd.symm.trans he1)
def qzF(h:gI eJ T w0 w d)(ac:a<=b)(hb:b<=len)(hl:len<=d.size/\len<=1152921504606846976)(hk:∀w',gI eJ T w0 w' (heapSort ltInt d a b)->K () w'): cW 213 [.slice (pW eJ) len cap,.i a,.i b] [] w K:=by
 refine qfS (data:=⟨pW eJ,len,cap⟩) ?_;dsimp only;have e0:IntKind.i64.wrap ((b:Int)-a)=((b-a:Nat):Int):=(by rw[wi _ oJ];omega);have e2:IntKind.i64.wrap (Int.tdiv (IntKind.i64.wrap (((b-a:Nat):Int)-1)) 2)=(((b-a-1) / 2+1:Nat):Int)-1:=by rw[wi (_-1) oJ];by_cases hn:b-a=0;rw[hn];decide +kernel;rw[HY oJ,wi _ oJ];omega
 rw[e0,e2];refine iX (λx w'=>∃(k:Nat) (C:Array Int),x=(k:Int)-1/\k<=(b-a-1) / 2+1/\gI eJ T w0 w' C/\C.size=d.size/\heapBuild ltInt (b-a) a k C=heapBuild ltInt (b-a) a ((b-a-1) / 2+1) d) (λx _=>(x+1).toNat)
  ⟨_,d,rfl,zM _,h,rfl,rfl⟩ ?_
 rintro x w1 ⟨k,U,rfl,V,h,G,I⟩ X hX;apply cD<;>intro E;have u:1<=k:=oJ;obtain⟨j,rfl⟩:∃j,k=j+1:=⟨k-1,oJ⟩;rw[show ((j+1:Nat):Int)-1=(j:Nat) by omega];refine qt8 h oJ oJ oJ λw2 h hs=>?_;rw[wi _ oJ];exact hX _ _ ⟨j,_,rfl,oJ,h,by rw[hs,G],I⟩ oJ;have u:k=0:=oJ;subst u;have J:U=heapBuild ltInt (b-a) a ((b-a-1) / 2+1) d:=I;rw[wi (_-1) oJ];refine iX (λx w'=>∃(k:Nat) (C:Array Int),x=(k:Int)-1/\k<=b-a/\gI eJ T w0 w' C/\C.size=d.size/\heapPop ltInt a k C=heapPop ltInt a (b-a) U) (λx _=>(x+1).toNat)
  ⟨_,U,rfl,zM _,h,G,rfl⟩ ?_
 rintro x w2 ⟨k,d2,rfl,V,h,ab,R⟩ Z hZ;apply cD<;>intro E;have u:1<=k:=oJ;obtain⟨j,rfl⟩:∃j,k=j+1:=⟨k-1,oJ⟩;rw[show ((j+1:Nat):Int)-1=(j:Nat) by omega];refine h.drew.swap a (a+j) rfl (by rw[wi _ oJ];omega) oJ oJ oJ λw3 h=>qt8 (lo:=0) h oJ oJ (by rw[AN];omega) λw4 h hs=>?_;rw[wi _ oJ];exact hZ _ _ ⟨j,_,rfl,oJ,h,by rw[hs,AN,ab],R⟩ oJ;have u:k=0:=oJ;subst u;refine hk _ ?_;unfold heapSort;rw[<- J,<- R];exact h
def qAI(h:gI eJ T w0 w d)(R:a<b)(hb:b<=len)(hl:len<=d.size/\len<=1152921504606846976)(U:∀w',gI eJ T w0 w' (reverseRange d a b)->K () w'): cW 216 [.slice (pW eJ) len cap,.i a,.i b] [] w K:=by
 refine qd8 (data:=⟨pW eJ,len,cap⟩) ?_;rw[wi _ oJ];refine iX (λx w'=>∃(i j:Nat) (G:Array Int),x=((i:Int),(j:Int))/\i<=j+1/\j<b/\gI eJ T w0 w' G/\G.size=d.size/\reverseLoop i j G=reverseLoop a (b-1) d) (λx _=>(x.2-x.1).toNat)
  ⟨a,b-1,d,th rfl oJ,oJ,oJ,h,rfl,rfl⟩ ?_
 rintro x w1 ⟨i,j,V,rfl,aa,ab,h,I,C⟩ X hX;have E:=reverseLoop.eq_1 i j V;dsimp only;apply cD<;>intro J;have u:i<j:=oJ;rw[iP u] at E;refine h.drew.swap i j rfl rfl oJ oJ oJ λw2 h=>?_;rw[wi (_+1) oJ,wi (_-1) oJ];exact hX _ _ ⟨i+1,j-1,_,th oJ oJ,oJ,oJ,h,by rw[AN,I],E.symm.trans C⟩ oN;have u:¬i<j:=oJ;rw[iN u] at E;refine U _ ?_;unfold reverseRange;rw[<- C,E];exact h
end
end
section
section
variable {eJ:Nat} {T:ku} {w0 w:Ic} {d:Array Int} {len cap:Nat}
def E7{J i0:Nat}{E:Int->WP}(h:gI eJ T w0 w d)(hJ:J<=1152921504606846976)(hi0:i0<=J+2)(hT:∀(x:Nat) w Y,i0<=x->gI eJ T w0 w d->(∀w',gI eJ T w0 w' d->Y (decide (x<=J)&&p d[x]!) w')->t x w Y)(hE:∀w',gI eJ T w0 w' d->E (scanUp p d J i0:Nat) w'): loop Int (λX x w=>join Bool (λY=>t x w Y) λb w'=>bif b then X (IntKind.i64.wrap (x+1)) w' else E x w') i0 w:=by refine iX (λx w'=>∃i:Nat,x=i/\i0<=i/\i<=J+2/\gI eJ T w0 w' d/\scanUp p d J i=scanUp p d J i0) (λx _=>((J:Int)+2-x).toNat) ⟨i0,rfl,zM _,hi0,h,rfl⟩ ?_;rintro x w1 ⟨i,rfl,hi,hiJ,h,he⟩ X hX;refine gP (λc w'=>c=(decide (i<=J)&&p d[i]!)/\gI eJ T w0 w' d) (hT i w1 _ hi h λw' h=>⟨rfl,h⟩) ?_;rintro c w2 ⟨rfl,h⟩;have hd:=scanUp.eq_1 p d J i;apply dX<;>intro hc;have hc1:=hc;simp only[yA,decide_eq_true_eq] at hc;rw[iP (oP hc1)] at hd;rw[wi _ oJ];exact hX _ _ ⟨i+1,oJ,oJ,oJ,h,hd.symm.trans he⟩ oJ;rw[iN (oP hc)] at hd;rw[show (i:Int)=(scanUp p d J i0:Nat) by rw[<- he,hd]];exact hE _ h
def DX{i j0:Nat}{E:Int->WP}(h:gI eJ T w0 w d)(hJ:j0<=1152921504606846976)(hi:1<=i)(hT:∀(x:Nat) w Y,x<=j0->gI eJ T w0 w d->(∀w',gI eJ T w0 w' d->Y (decide (i<=x)&&p d[x]!) w')->t x w Y)(hE:∀w',gI eJ T w0 w' d->E (scanDown p d i j0:Nat) w'): loop Int (λX x w=>join Bool (λY=>t x w Y) λb w'=>bif b then X (IntKind.i64.wrap (x-1)) w' else E x w') j0 w:=by
 refine iX (λx w'=>∃j:Nat,x=j/\j<=j0/\gI eJ T w0 w' d/\scanDown p d i j=scanDown p d i j0) (λx _=>x.toNat) ⟨j0,rfl,zM _,h,rfl⟩ ?_;rintro x w1 ⟨j,rfl,hj,h,he⟩ X hX;refine gP (λc w'=>c=(decide (i<=j)&&p d[j]!)/\gI eJ T w0 w' d) (hT j w1 _ hj h λw' h=>⟨rfl,h⟩) ?_;rintro c w2 ⟨rfl,h⟩;apply dX<;>intro hc;have hc1:=hc;simp only[yA,decide_eq_true_eq] at hc;obtain⟨k,rfl⟩:∃k,j=k+1:=⟨j-1,oJ⟩;rw[wi _ oJ];refine hX _ _ ⟨k,oJ,oJ,h,?_⟩ oJ;rw[<- he,scanDown,iP (oP hc1)];rw[show (j:Int)=(scanDown p d i j0:Nat) by
  rw[<- he];cases j with
  | zero=>rfl
  | succ k=>rw[scanDown,iN (oP hc)]]
 exact hE _ h
def qzI{pivot:Nat}{K:Iy->WP}(h:gI eJ T w0 w d)(hap:a<=pivot)(hpb:pivot<b)(hb:b<=len)(hl:len<=d.size/\len<=1152921504606846976)(hk:∀w',gI eJ T w0 w' (Sort.partition ltInt d a b pivot).2.2->K (((Sort.partition ltInt d a b pivot).1:Nat),(Sort.partition ltInt d a b pivot).2.1) w'): cW 220 [.slice (pW eJ) len cap,.i a,.i b,.i pivot] dx w K:=by
 refine qfk (data:=⟨pW eJ,len,cap⟩) ?_;revert hk;unfold Sort.partition;dsimp only;intro hk;refine h.drew.swap a pivot rfl rfl oJ oJ oJ λw1 h=>?_;have hsz:(swp d a pivot).size=d.size:=Sort.size_swp _ _ _;generalize swp d a pivot=d1 at h hk hsz;have eb:IntKind.i64.wrap ((b:Int)-1)=((b-1:Nat):Int):=(by rw[wi _ oJ];omega);rw[eb,wi ((a:Int)+1) oJ,show (a:Int)+1=((a+1:Nat):Int) by omega];refine E7 (p:=λx=>ltInt x d1[a]!) (J:=b-1) (i0:=a+1) h oJ oJ (λx w Y hx h hY=>?_) λw2 h=>?_;apply cD<;>intro hc;have hc':x<=b-1:=oJ;refine h.drew.rd x rfl oJ oJ<|h.drew.rd a rfl oJ oJ<|sC ?_;have:=hY _ h.drew;simpa[hc'] using this;have hc':¬x<=b-1:=by omega
 have:=hY _ h.drew;simpa[hc'] using this;have hu1:=scanUp_ge (λx=>ltInt x d1[a]!) d1 (b-1) (a+1);generalize scanUp (λx=>ltInt x d1[a]!) d1 (b-1) (a+1)=i at hk hu1⊢;refine DX (p:=λx=>!ltInt x d1[a]!) (i:=i) (j0:=b-1) h oJ oJ (λx w Y hx h hY=>?_) λw3 h=>?_;apply cD<;>intro hc;have hc':i<=x:=oJ;refine h.drew.rd x rfl oJ oJ<|h.drew.rd a rfl oJ oJ<|sC ?_;have:=hY _ h.drew;simpa[hc'] using this;have hc':¬i<=x:=by omega
 have:=hY _ h.drew;simpa[hc'] using this;have hv1:=scanDown_le (λx=>!ltInt x d1[a]!) d1 i (b-1);generalize scanDown (λx=>!ltInt x d1[a]!) d1 i (b-1)=j at hk hv1⊢;apply cD<;>intro hc;have hc':i>j:=oJ;simp only[iP hc'] at hk;exact h.drew.swap j a rfl rfl oJ oJ oJ λw4 h=>hk _ h;have hc':¬i>j:=oJ;simp only[iN hc'] at hk;refine h.drew.swap i j rfl rfl oJ oJ oJ λw4 h=>?_;have hsz2:(swp d1 i j).size=d1.size:=Sort.size_swp _ _ _;generalize swp d1 i j=d2 at h hk hsz2;rw[wi ((i:Int)+1) oJ,wi ((j:Int)-1) oJ];refine iX (λs w'=>∃(i' j':Nat) (d':Array Int),s=((i':Int),(j':Int))/\a+1<=i'/\i'<=b/\j'<=b-1/\i'<=j'+2/\gI eJ T w0 w' d'/\d'.size=d.size/\partLoop ltInt a i' j' d'=partLoop ltInt a (i+1) (j-1) d2) (λs _=>(s.2+2-s.1).toNat)
  ⟨i+1,j-1,d2,th oJ oJ,oJ,oJ,oJ,oJ,h,oJ,rfl⟩ ?_
 rintro s w5 ⟨i',j',d3,rfl,hi1,hi2,hj1,hij,h,hs3,he⟩ X hX;rw[partLoop_eq ltInt a i' j' d3] at he;dsimp only;refine E7 (p:=λx=>ltInt x d3[a]!) (J:=j') (i0:=i') h oJ oJ (λx w Y hx h hY=>?_) λw6 h=>?_;apply cD<;>intro hc;have hc':x<=j':=oJ;refine h.drew.rd x rfl oJ oJ<|h.drew.rd a rfl oJ oJ<|sC ?_;have:=hY _ h.drew;simpa[hc'] using this;have hc':¬x<=j':=by omega
 have:=hY _ h.drew;simpa[hc'] using this;have hu1:=scanUp_ge (λx=>ltInt x d3[a]!) d3 j' i';generalize scanUp (λx=>ltInt x d3[a]!) d3 j' i'=i2 at he hu1⊢;refine DX (p:=λx=>!ltInt x d3[a]!) (i:=i2) (j0:=j') h oJ oJ (λx w Y hx h hY=>?_) λw7 h=>?_;apply cD<;>intro hc;have hc':i2<=x:=oJ;refine h.drew.rd x rfl oJ oJ<|h.drew.rd a rfl oJ oJ<|sC ?_;have:=hY _ h.drew;simpa[hc'] using this;have hc':¬i2<=x:=by omega
 have:=hY _ h.drew;simpa[hc'] using this;have hv1:=scanDown_le (λx=>!ltInt x d3[a]!) d3 i2 j';generalize scanDown (λx=>!ltInt x d3[a]!) d3 i2 j'=j2 at he hv1⊢;apply cD<;>intro hc;have hc':i2>j2:=oJ;rw[iP hc'] at he;rw[<- he] at hk;exact h.drew.swap j2 a rfl rfl oJ oJ oJ λw4 h=>hk _ h;have hc':¬i2>j2:=oJ;rw[iN hc'] at he;refine h.drew.swap i2 j2 rfl rfl oJ oJ oJ λw4 h=>?_;rw[wi ((i2:Int)+1) oJ,wi ((j2:Int)-1) oJ];exact hX _ _ ⟨i2+1,j2-1,_,th oJ oJ,oJ,oJ,oJ,oJ,h,by rw[Sort.size_swp];exact hs3,he⟩ oN
def qwv{pivot:Nat}{K:Int->WP}(h:gI eJ T w0 w d)(hap:a<=pivot)(hpb:pivot<b)(hb:b<=len)(hl:len<=d.size/\len<=1152921504606846976)(hk:∀w',gI eJ T w0 w' (Sort.partitionEqual ltInt d a b pivot).2->K ((Sort.partitionEqual ltInt d a b pivot).1:Nat) w'): cW 219 [.slice (pW eJ) len cap,.i a,.i b,.i pivot] di w K:=by
 refine qdH (data:=⟨pW eJ,len,cap⟩) ?_;revert hk;unfold Sort.partitionEqual;intro hk;refine h.drew.swap a pivot rfl rfl oJ oJ oJ λw1 h=>?_;have hsz:(swp d a pivot).size=d.size:=Sort.size_swp _ _ _;generalize swp d a pivot=d2 at h hk hsz;rw[wi ((a:Int)+1) oJ,wi ((b:Int)-1) oJ];refine iX (λs w'=>∃(i' j':Nat) (d':Array Int),s=((i':Int),(j':Int))/\a+1<=i'/\i'<=b/\j'<=b-1/\i'<=j'+2/\gI eJ T w0 w' d'/\d'.size=d.size/\partEqLoop ltInt a i' j' d'=partEqLoop ltInt a (a+1) (b-1) d2) (λs _=>(s.2+2-s.1).toNat)
  ⟨a+1,b-1,d2,th oJ oJ,oJ,oJ,oJ,oJ,h,oJ,rfl⟩ ?_
 rintro s w5 ⟨i',j',d3,rfl,hi1,hi2,hj1,hij,h,hs3,he⟩ X hX;rw[partEqLoop_eq ltInt a i' j' d3] at he;dsimp only;refine E7 (p:=λx=>!ltInt d3[a]! x) (J:=j') (i0:=i') h oJ oJ (λx w Y hx h hY=>?_) λw6 h=>?_;apply cD<;>intro hc;have hc':x<=j':=oJ;refine h.drew.rd a rfl oJ oJ<|h.drew.rd x rfl oJ oJ<|sC ?_;have:=hY _ h.drew;simpa[hc'] using this;have hc':¬x<=j':=by omega
 have:=hY _ h.drew;simpa[hc'] using this;have hu1:=scanUp_ge (λx=>!ltInt d3[a]! x) d3 j' i';generalize scanUp (λx=>!ltInt d3[a]! x) d3 j' i'=i2 at he hu1⊢;refine DX (p:=λx=>ltInt d3[a]! x) (i:=i2) (j0:=j') h oJ oJ (λx w Y hx h hY=>?_) λw7 h=>?_;apply cD<;>intro hc;have hc':i2<=x:=oJ;refine h.drew.rd a rfl oJ oJ<|h.drew.rd x rfl oJ oJ<|sC ?_;have:=hY _ h.drew;simpa[hc'] using this;have hc':¬i2<=x:=by omega
 have:=hY _ h.drew;simpa[hc'] using this;have hv1:=scanDown_le (λx=>ltInt d3[a]! x) d3 i2 j';generalize scanDown (λx=>ltInt d3[a]! x) d3 i2 j'=j2 at he hv1⊢;apply cD<;>intro hc;have hc':i2>j2:=oJ;rw[iP hc'] at he;rw[<- he] at hk;exact hk _ h;have hc':¬i2>j2:=oJ;rw[iN hc'] at he;refine h.drew.swap i2 j2 rfl rfl oJ oJ oJ λw4 h=>?_;rw[wi ((i2:Int)+1) oJ,wi ((j2:Int)-1) oJ];exact hX _ _ ⟨i2+1,j2-1,_,th oJ oJ,oJ,oJ,oJ,oJ,h,by rw[Sort.size_swp];exact hs3,he⟩ oN
end
end
section
section
variable {eJ:Nat} {T:ku} {w0 w:Ic} {d:Array Int} {len cap:Nat}
def qyn{K:Bool->WP}(h:gI eJ T w0 w d)(aA:a<b)(hb:b<=len)(hl:len<=d.size/\len<=1152921504606846976)(hk:∀w',gI eJ T w0 w' (Sort.partialInsertionSort ltInt d a b).1->K (Sort.partialInsertionSort ltInt d a b).2 w'): cW 217 [.slice (pW eJ) len cap,.i a,.i b] dj w K:=by
 refine qcE (data:=⟨pW eJ,len,cap⟩) ?_;revert hk;unfold Sort.partialInsertionSort;intro hk;rw[wi ((a:Int)+1) oJ];refine iX (λx w'=>∃(i s:Nat) (E:Array Int),x=((i:Int),5-(s:Int))/\s<=5/\a+1<=i/\i<=b/\gI eJ T w0 w' E/\E.size=d.size/\partialIns ltInt a b s i E=partialIns ltInt a b 5 (a+1) d) (λx _=>(5-x.2).toNat)
  ⟨a+1,5,d,th oJ oJ,oJ,oJ,oJ,h,rfl,rfl⟩ ?_
 rintro x w1 ⟨i,s,R,rfl,aB,ao,ap,h,aC,C⟩ X hX;dsimp only;apply dX<;>intro u;obtain⟨s,rfl⟩:∃k,s=k+1:=⟨s-1,by have:=zC u;omega⟩;rw[partialIns_succ] at C;refine gP (λx w'=>∃(i:Nat) (E:Array Int),x=i/\a+1<=i/\i<=b/\gI eJ T w0 w' E/\E.size=d.size/\partialIns ltInt a b s i E=partialIns ltInt a b 5 (a+1) d) ?_ ?_;refine iX (λx w'=>∃k:Nat,x=k/\a+1<=k/\k<=b/\gI eJ T w0 w' R/\scanSorted ltInt R b k=scanSorted ltInt R b i) (λx _=>((b:Int)-x).toNat) ⟨i,rfl,ao,ap,h,rfl⟩ ?_;rintro x w2 ⟨k,rfl,U,V,h,ak⟩ Z hZ;have hd:=scanSorted.eq_1 ltInt R b k;refine gP (λc w'=>c=(decide (k<b)&&!ltInt R[k]! R[k-1]!)/\gI eJ T w0 w' R) ?_ ?_;apply dX<;>intro u;have ac:k<b:=(by have:=zC u;omega);exact h.drew.rd k rfl oJ oJ<|h.drew.rd (k-1) (by rw[wi _ oJ];omega) oJ oJ<|sC<|⟨by simp[ac],h.drew⟩;have ac:¬k<b:=(by have:=zB u;omega);exact⟨by simp[ac],h.drew⟩;rintro c w3 ⟨rfl,h⟩;apply dX<;>intro u;have aq:=u;simp only[yA,decide_eq_true_eq] at u;rw[iP (oP aq)] at hd;rw[wi _ oJ];exact hZ _ _ ⟨k+1,oJ,oJ,oJ,h,hd.symm.trans ak⟩ oJ;rw[iN (oP u)] at hd;rw[show scanSorted ltInt R b i=k by rw[<- ak,hd]] at C;unfold fixUp fixDown at C;apply dX<;>intro u;have ad:k=b:=(by have:=yO.1 u;omega);rw[iP ad] at C;rw[<- C] at hk;exact hk _ h;have ad:¬k=b:=λe=>by rw[e] at u;simp at u
 rw[iN ad] at C;rw[wi ((b:Int)-a) oJ];apply dX<;>intro u;have ae:b-a<50:=(by have:=zC u;omega);rw[iP ae] at C;rw[<- C] at hk;exact hk _ h;have ae:¬b-a<50:=(by have:=zB u;omega);rw[iN ae] at C;refine h.drew.swap k (k-1) rfl (by rw[wi _ oJ];omega) oJ oJ oJ λw4 h=>?_;have al:(swp R k (k-1)).size=R.size:=Sort.size_swp _ _ _;generalize swp R k (k-1)=J at h C al;refine gP (λ_ w'=>gI eJ T w0 w' (if k-a>=2 then shiftDown ltInt (k-1) J else J)/\(if k-a>=2 then shiftDown ltInt (k-1) J else J).size=J.size) ?_ ?_;rw[wi ((k:Int)-a) oJ];apply dX<;>intro u;have af:k-a>=2:=(by have:=zC u;omega);simp only[iP af];rw[wi ((k:Int)-1) oJ];refine iX (λx w'=>∃(j:Nat) (E:Array Int),x=j/\j<=k-1/\gI eJ T w0 w' E/\E.size=J.size/\shiftDown ltInt j E=shiftDown ltInt (k-1) J) (λx _=>x.toNat) ⟨k-1,J,oJ,oJ,h,rfl,rfl⟩ ?_;rintro x w5 ⟨j,d3,rfl,hj,h,aa,I⟩ Q hQ;apply dX<;>intro u;obtain⟨j,rfl⟩:∃m,j=m+1:=⟨j-1,by have:=zC u;omega⟩;rw[shiftDown] at I;refine h.drew.rd (j+1) rfl oJ oJ<|h.drew.rd j (by rw[wi _ oJ];omega) oJ oJ<|sC ?_;apply dX<;>intro u;rw[iP u] at I;rw[<- I];exact⟨h.drew,aa⟩;rw[iN (by rw[u];decide)] at I;refine h.drew.drew.swap (j+1) j rfl (by rw[wi _ oJ];omega) oJ oJ oJ λw6 h=>?_;rw[wi _ oJ];exact hQ _ _ ⟨j,_,oJ,oJ,h,by rw[Sort.size_swp];exact aa,I⟩ oJ;have au:j=0:=(by have:=zB u;omega);subst au;rw[<- I];exact⟨h,aa⟩;have af:¬k-a>=2:=(by have:=zB u;omega);simp only[iN af];exact⟨h,trivial⟩;rintro _ w5 ⟨h,aa⟩;generalize (if k-a>=2 then shiftDown ltInt (k-1) J else J)=d3 at h C aa;rw[wi ((b:Int)-k) oJ];apply dX<;>intro u;have ag:b-k>=2:=(by have:=zC u;omega);rw[iP ag] at C;rw[wi ((k:Int)+1) oJ];refine iX (λx w'=>∃(j:Nat) (E:Array Int),x=j/\k+1<=j/\j<=b/\gI eJ T w0 w' E/\E.size=d.size/\shiftUp ltInt b j E=shiftUp ltInt b (k+1) d3) (λx _=>((b:Int)-x).toNat) ⟨k+1,d3,oJ,oJ,oJ,h,oJ,rfl⟩ ?_;rintro x w6 ⟨j,d4,rfl,aG,aH,h,ah,ai⟩ Q hQ;have G:=shiftUp.eq_1 ltInt b j d4;apply dX<;>intro u;have aj:j<b:=(by have:=zC u;omega);rw[iP aj] at G;refine h.drew.rd j rfl oJ oJ<|h.drew.rd (j-1) (by rw[wi _ oJ];omega) oJ oJ<|sC ?_;apply dX<;>intro u;rw[iP u] at G;rw[<- ai,G] at C;exact⟨k,d4,rfl,U,V,h.drew,ah,C⟩;rw[iN (by rw[u];decide)] at G;refine h.drew.drew.swap j (j-1) rfl (by rw[wi _ oJ];omega) oJ oJ oJ λw6 h=>?_;rw[wi _ oJ];exact hQ _ _ ⟨j+1,_,oJ,oJ,oJ,h,by rw[Sort.size_swp];exact ah,G.symm.trans ai⟩ oJ;have aj:¬j<b:=(by have:=zB u;omega);rw[iN aj] at G;rw[<- ai,G] at C;exact⟨k,d4,rfl,U,V,h,ah,C⟩;have ag:¬b-k>=2:=(by have:=zB u;omega);rw[iN ag] at C;exact⟨k,d3,rfl,U,V,h,oJ,C⟩;rintro x w2 ⟨k,J,rfl,U,V,h,aw,ax⟩;rw[wi _ oJ];exact hX _ _ ⟨k,s,J,th rfl oJ,oJ,U,V,h,aw,ax⟩ oN;have ay:s=0:=(by have:=zB u;omega);subst ay;rw[<- C] at hk;exact hk _ h
end
end
def qz0{s:ByteArray}{i:Int}{K:Int->Prop}(b:UInt8)(u:0<=i)(h:s[i.toNat]?=some b)(k:K (b.toNat:Int)):i4 s i K:=by unfold i4;exact⟨b,⟨u,h⟩,k⟩
def E1{k:Nat}(h:2^k<=n):bitsLen n=bitsLen (n / 2^k)+k:=by
 have G:bitsLen n<=bitsLen (n / 2^k)+k:=by
  rw[bitsLen_le_iff,Nat.pow_add];have:=lt_two_pow_bitsLen (n / 2^k);exact (Nat.div_lt_iff_lt_mul (Nat.two_pow_pos k)).1 this
 have I:bitsLen (n / 2^k)+k<=bitsLen n:=by
  have C:=lt_two_pow_bitsLen n;have E:k<=bitsLen n:=by
   rcases Nat.lt_or_ge (bitsLen n) k with u|u;have:=Nat.pow_le_pow_right (show 0<2 by decide) (Nat.le_of_lt u);omega;exact u
  have:bitsLen (n / 2^k)<=bitsLen n-k:=(by rw[bitsLen_le_iff,Nat.div_lt_iff_lt_mul (Nat.two_pow_pos k),<- Nat.pow_add,Nat.sub_add_cancel E];exact C);omega
 omega
def qvo{k:Nat}(h:n<2^k):bitsLen n<=k:=(bitsLen_le_iff n k).2 h
def GX(n k:Nat):Int.fdiv (n:Int) ((k:Nat):Int)=((n / k:Nat):Int):=by rw[Int.fdiv_eq_ediv_of_nonneg _ oJ];rfl
def qya{K:Int->WP}(hn:n<18446744073709551616)(hk:K (bitsLen n:Nat) w):cW 222 [.w n] di w K:=by apply qre;refine gP (λt w'=>∃m c:Nat,t=((m:Int),(c:Int))/\w=w'/\m<4294967296/\c<=32/\bitsLen n=bitsLen m+c) ?_ ?_;apply cD<;>intro hc;have h:=hc;refine⟨n / 2^32,32,th (GX n (2^32)) rfl,rfl,oJ,oJ,E1 oJ⟩;have h:=hc;exact⟨n,0,rfl,rfl,oJ,oJ,rfl⟩;rintro t w' ⟨m,c,rfl,rfl,hm,hc1,he⟩;dsimp only;refine gP (λt w'=>∃m c:Nat,t=((m:Int),(c:Int))/\w=w'/\m<65536/\c<=48/\bitsLen n=bitsLen m+c) ?_ ?_;apply cD<;>intro hc;have h:=hc;refine⟨m / 2^16,c+16,th (GX m (2^16)) (by rw[wi _ oJ];omega),rfl,oJ,oJ,by rw[he,E1 (n:=m) (k:=16) oJ];omega⟩;have h:=hc;exact⟨m,c,rfl,rfl,oJ,oJ,he⟩;rintro t w' ⟨m,c,rfl,rfl,hm,hc1,he⟩;dsimp only;refine gP (λt w'=>∃m c:Nat,t=((m:Int),(c:Int))/\w=w'/\m<256/\c<=56/\bitsLen n=bitsLen m+c) ?_ ?_;apply cD<;>intro hc;have h:=hc;refine⟨m / 2^8,c+8,th (GX m (2^8)) (by rw[wi _ oJ];omega),rfl,oJ,oJ,by rw[he,E1 (n:=m) (k:=8) oJ];omega⟩;have h:=hc;exact⟨m,c,rfl,rfl,oJ,oJ,he⟩;rintro t w' ⟨m,c,rfl,rfl,hm,hc1,he⟩;dsimp only;have hb:=qvo (n:=m) (k:=8) oJ;rw[IntWalk.u8_in (m:Int) oJ];refine qz0 (UInt8.ofNat (bitsLen m)) oJ ?_ ?_;rw[zJ];clear he hb;revert m;decide +kernel;have e:(UInt8.ofNat (bitsLen m)).toNat=bitsLen m:=oO;rw[e,wi (bitsLen m:Nat) oJ,wi _ oJ];rw[he] at hk;rw[show (c:Int)+(bitsLen m:Nat)=((bitsLen m+c:Nat):Int) by omega];exact hk
def EI{K:Int->WP}(hn:n<18446744073709551616)(hk:K (bitsLen n:Nat) w):cW 178 [.w n] di w K:=by apply qtu;exact qya hn hk
section
structure jI (eJ:Nat) (T:ku) (w0 w:Ic) (d:Array Int) (sb:Nat) (k:IntKind) (v:Int):Prop where
 arr:gI eJ T w0 w d
 cell:∃ T2,w.heap[sb]?=some (.c #[.int k v] T2)
 ne:sb≠eJ
 new:w0.heap.size<=sb
section
variable {eJ:Nat} {T:ku} {w0 w:Ic} {d:Array Int} {len cap sb:Nat} {k:IntKind} {v:Int}
def jI.drew(h:jI eJ T w0 w d sb k v):jI eJ T w0 w.drew d sb k v:=⟨h.arr.drew,h.cell,h.ne,h.new⟩
def jI.get(h:jI eJ T w0 w d sb k v){K:Int->Prop}(u:K v):ld (.int k) (dg sb) w K:=by obtain⟨E,C⟩:=h.cell;exact io C v rfl u
def jI.put(h:jI eJ T w0 w d sb k v)(u:Int){K:WP}(E:∀w',jI eJ T w0 w' d sb k u->K w'):st (dg sb) [.int k u] w K:=by
 obtain⟨G,C⟩:=h.cell;unfold st;refine Ag (w:=w) [.int k u] 0 0 _ w K C rfl oL (E _ ⟨⟨?_,?_⟩,⟨G,?_⟩,h.ne,h.new⟩);refine h.arr.fr.j8 (T:=[sb]) ⟨rfl,rfl,rfl,by rw[tI];exact zM _,λj R I=>?_⟩ λi J=>.inr ?_;rw[oV _ _ _ _ (eX C),iN (oP I)];have:=h.new;simp at J;omega;rw[oV _ _ _ _ (eX C),iN λe=>h.ne e.symm];exact h.arr.eJ;rw[oV _ _ _ _ (eX C),iP rfl];rfl
def jI.mk'(h:gI eJ T w0 w d)(C:If)(u:Int){K:Nat->WP}(E:∀b w',jI eJ T w0 w' d b k u->K b w'):Pt.new (.c #[.int k u] C) w K:=by
 unfold Pt.new;refine E _ _ ⟨⟨h.fr.alloc _,?_⟩,⟨C,?_⟩,?_,h.fr.size⟩;have:=eX h.eJ;rw[vL,iN];exact h.eJ;rw[vL,iP rfl];have:=eX h.eJ;omega
def E3{K:Io->WP}(h:jI eJ T w0 w d sb .i64 v)(G:a<len)(I:b<len)(C:len<=d.size/\len<=1152921504606846976)(E:∀(p q:Nat) u w',(p=a/\q=b\/p=b/\q=a)->jI eJ T w0 w' d sb .i64 u->K ((p:Int),(q:Int)) w'): cW 260 [.slice (pW eJ) len cap,.i a,.i b,dG sb] dp w K:=by refine qgE (data:=⟨pW eJ,len,cap⟩)<|h.arr.drew.rd b rfl I C<|h.arr.drew.rd a rfl G C<|sC ?_;apply dX<;>intro J;exact fu<|h.drew.get<|fu<|h.drew.put _ λw' h=>E b a _ _ (.inr ⟨rfl,rfl⟩) h;exact E a b _ _ (.inl ⟨rfl,rfl⟩) h.drew
def qpW{c:Nat}{K:Int->WP}(h:jI eJ T w0 w d sb .i64 v)(G:a<len)(I:b<len)(J:c<len)(C:len<=d.size/\len<=1152921504606846976)(R:∀(p:Nat) u w',(p=a\/p=b\/p=c)->jI eJ T w0 w' d sb .i64 u->K (p:Int) w'): cW 246 [.slice (pW eJ) len cap,.i a,.i b,.i c,dG sb] di w K:=by refine qgD (data:=⟨pW eJ,len,cap⟩) ?_;dsimp only;refine E3 h G I C λp q u w1 hp h=>?_;dsimp only;refine E3 h oJ J C λp' q' u w1 U h=>?_;dsimp only;exact E3 h oJ oJ C λV aa u w1 E h=>R _ _ _ oJ h
def Fk{K:Int->WP}(h:jI eJ T w0 w d sb .i64 v)(G:1<=a)(I:a+1<len)(C:len<=d.size/\len<=1152921504606846976)(E:∀(p:Nat) u w',(a<=p+1/\p<=a+1)->jI eJ T w0 w' d sb .i64 u->K (p:Int) w'): cW 245 [.slice (pW eJ) len cap,.i a,dG sb] di w K:=by refine qdG (data:=⟨pW eJ,len,cap⟩) ?_;dsimp only;rw[wi ((a:Int)-1) oJ,wi ((a:Int)+1) oJ,show (a:Int)-1=((a-1:Nat):Int) by omega,show (a:Int)+1=((a+1:Nat):Int) by omega];exact qpW h oJ oJ oJ C λp u w' J h=>E p u w' oJ h
def qyk{K:Io->WP}(h:gI eJ T w0 w d)(ab:a<b)(hb:b<=len)(I:len<=d.size/\len<=1152921504606846976)(J:∀(p:Nat) (x:Int) w',a<=p/\p<b->gI eJ T w0 w' d->K ((p:Int),x) w'): cW 215 [.slice (pW eJ) len cap,.i a,.i b] dp w K:=by
 refine qeC (data:=⟨pW eJ,len,cap⟩) ?_;dsimp only;have e0:IntKind.i64.wrap ((b:Int)-a)=((b-a:Nat):Int):=(by rw[wi _ oJ];omega);have e4:Int.tdiv ((b-a:Nat):Int) 4=(((b-a) / 4:Nat):Int):=(by rw[HY oJ];omega);have e1:∀m:Nat,m<=3->IntKind.i64.wrap ((a:Int)+IntKind.i64.wrap (IntKind.i64.wrap (((b-a) / 4:Nat):Int)*(m:Int)))=((a+(b-a) / 4*m:Nat):Int):=by intro m R;have hq:(b-a) / 4*m<=(b-a) / 4*3:=Nat.mul_le_mul_left _ R;have hz:(((b-a) / 4:Nat):Int)*(m:Int)=(((b-a) / 4*m:Nat):Int):=(by push_cast;rfl);rw[wi (((b-a) / 4:Nat):Int) oJ,hz,wi (((b-a) / 4*m:Nat):Int) oJ,wi _ oJ];omega
 have U:=e1 1 oJ;have V:=e1 2 oJ;have f3:=e1 3 oJ;simp only[Int.cast_ofNat_Int] at U V f3;rw[e0,e4,U,V,f3];refine jI.mk' h _ _ λsb w1 h=>gP (λx w'=>∃(p:Nat) (u:Int),x=p/\a<=p/\p<b/\jI eJ T w0 w' d sb .i64 u) ?_ ?_;apply cD<;>intro C;have h8:b-a>=8:=oJ;refine gP (λx w'=>∃(p q r:Nat) (u:Int),x=((p:Int),(q:Int),(r:Int))/\a<=p/\p<b/\a<=q/\q<b/\a<=r/\r<b/\jI eJ T w0 w' d sb .i64 u) ?_ ?_;apply cD<;>intro C;have af:b-a>=50:=oJ;exact Fk h oJ oJ I λp u w2 hp h=>Fk h oJ oJ I λq u w2 hq h=>Fk h oJ oJ I λr u w2 hr h=>⟨p,q,r,u,rfl,oJ,oJ,oJ,oJ,oJ,oJ,h⟩;exact⟨_,_,_,_,rfl,oJ,oJ,oJ,oJ,oJ,oJ,h⟩;rintro x w2 ⟨p,q,r,u,rfl,E,G,ag,ah,ai,aj,h⟩;dsimp only;exact qpW h oJ oJ oJ I λm u w3 R h=>⟨m,u,rfl,oJ,oJ,h⟩;exact⟨_,_,rfl,oJ,oJ,h⟩;rintro x w2 ⟨p,u,rfl,E,G,h⟩;refine h.get ?_;apply cD<;>intro C;exact J _ _ _ ⟨E,G⟩ h.arr;apply cD<;>intro C;exact J _ _ _ ⟨E,G⟩ h.arr;exact J _ _ _ ⟨E,G⟩ h.arr
end
end
section
section
variable {eJ:Nat} {T:ku} {w0 w:Ic} {d:Array Int} {len cap sb:Nat} {k:IntKind} {v:Int}
def gI.E9(h:gI eJ T w0 w d):gI eJ T w w d:=⟨.refl _ _,h.eJ⟩
def jI.step(h:jI eJ T w0 w d sb k v){w':Ic}{u:Array Int}(g:gI eJ T w w' u):jI eJ T w0 w' u sb k v:=by obtain⟨E,C⟩:=h.cell;refine⟨⟨h.arr.fr.trans g.fr,g.eJ⟩,⟨E,?_⟩,h.ne,h.new⟩;rw[g.fr.block sb (eX C) (oP h.ne)];exact C
def qzG{K:Int->WP}(h:jI eJ T w0 w d sb .u64 v)(u:∀(x:Int) w',0<=x/\x<=18446744073709551615->jI eJ T w0 w' d sb .u64 x->K x w'): cW 244 [dG sb] dk w K:=by refine qgF<|fu (h.drew.get (fu (h.drew.get (fu (h.drew.put _ λw1 h=>?_)))));refine fu (h.drew.get (fu (h.drew.get (fu (h.drew.put _ λw1 h=>?_)))));refine fu (h.drew.get (fu (h.drew.get (fu (h.drew.put _ λw1 h=>?_)))));refine fu (h.get ?_);exact u _ _ (bits_within .xor .u64 _ _) h
def qAH{w:Ic}{K:Int->WP}(C:1<=n/\n<=1152921504606846976)(h:K ((2^bitsLen n:Nat):Int) w):cW 243 [.i n] dk w K:=by apply qgm;rw[IntWalk.u64_in (n:Int) oJ];refine EI oJ<|m8 oJ ?_;have E:=two_pow_bitsLen_le (n:=n) oJ;have G:bitsLen n<=61:=(bitsLen_le_iff n 61).2 oJ;rw[zJ,xQ oJ];have e:(1:Int)*2^bitsLen n=((2^bitsLen n:Nat):Int):=(by rw[Int.one_mul];push_cast;rfl);have u:(0:Int)<=((2^bitsLen n:Nat):Int):=Int.natCast_nonneg _;rw[e,IntWalk.u64_in _ oJ];exact h
def qx5(h:gI eJ T w0 w d)(U:a<=b)(hb:b<=len)(hl:len<=d.size/\len<=1152921504606846976)(J:∀E w',PermIn a b d E->gI eJ T w0 w' E->K () w'): cW 214 [.slice (pW eJ) len cap,.i a,.i b] [] w K:=by
 refine qd2 (data:=⟨pW eJ,len,cap⟩) ?_;have e0:IntKind.i64.wrap ((b:Int)-a)=((b-a:Nat):Int):=(by rw[wi _ oJ];omega);rw[e0];apply cD<;>intro C;have h8:b-a>=8:=oJ;have V:Int.tdiv ((b-a:Nat):Int) 4=(((b-a) / 4:Nat):Int):=(by rw[HY oJ];omega);have e1:IntKind.i64.wrap ((a:Int)+IntKind.i64.wrap (IntKind.i64.wrap (((b-a) / 4:Nat):Int)*2))=((a+(b-a) / 4*2:Nat):Int):=by rw[wi (((b-a) / 4:Nat):Int) oJ,wi ((((b-a) / 4:Nat):Int)*2) oJ,wi _ oJ];omega
 rw[V,e1,IntWalk.u64_in ((b-a:Nat):Int) oJ];refine jI.mk' h _ _ λsb w1 h=>h.put _ λw2 h=>qAH oJ ?_;have aa:=two_pow_bitsLen_le (n:=b-a) oJ;have G:=Nat.two_pow_pos (bitsLen (b-a));rw[wi (_-1) oJ,wi (_+1) oJ];refine iX (λx w'=>∃(i:Nat) (E:Array Int) (u:Int),x=i/\a<=i/\i<=a+(b-a) / 4*2+2/\PermIn a b d E/\jI eJ T w0 w' E sb .u64 u) (λx _=>(((a+(b-a) / 4*2+2:Nat):Int)-x).toNat)
  ⟨a+(b-a) / 4*2-1,d,_,oJ,oJ,oJ,permIn_refl _ _ _,h⟩ ?_
 rintro x w3 ⟨i,R,u,rfl,ab,ac,I,h⟩ X hX;have ae:=I.1;apply cD<;>intro C;have af:i<=a+(b-a) / 4*2+1:=oJ;refine qzG h λy w4 hy h=>?_;obtain⟨z,rfl⟩:∃z:Nat,y=z:=⟨y.toNat,oJ⟩;have ez:bits .and .u64 (z:Int) (IntKind.u64.wrap (((2^bitsLen (b-a):Nat):Int)-1))=((z%2^bitsLen (b-a):Nat):Int):=by rw[IntWalk.u64_in _ oJ,show ((2^bitsLen (b-a):Nat):Int)-1=((2^bitsLen (b-a)-1:Nat):Int) by omega,bits_and_u64_nat z _ oJ oJ,Nat.and_two_pow_sub_one_eq_mod]
 rw[ez];have hz:=Nat.mod_lt z G;rw[wi ((z%2^bitsLen (b-a):Nat):Int) oJ];refine gP (λx w'=>∃o:Nat,x=o/\o<b-a/\jI eJ T w0 w' R sb .u64 z) ?_ ?_;apply cD<;>intro C;have:=C;exact⟨z%2^bitsLen (b-a)-(b-a),by rw[wi _ oJ];omega,oJ,h⟩;have:=C;exact⟨z%2^bitsLen (b-a),rfl,oJ,h⟩;rintro x w5 ⟨o,rfl,ho,h⟩;refine h.drew.arr.E9.swap i (a+o) rfl (by rw[wi _ oJ];omega) oJ oJ oJ λw6 h6=>?_;rw[wi _ oJ];exact hX _ _ ⟨i+1,_,_,oJ,oJ,oJ,permIn_trans _ _ _ _ _ I (swp_permIn _ _ _ _ _ oJ oJ oJ oJ oJ),h.drew.step h6⟩ oJ;exact J R _ I h.arr;exact J d _ (permIn_refl _ _ _) h
end
end
section
section
variable {eJ:Nat} {T:ku} {len cap:Nat}
def qAG:∀(n:Nat) {w0 w:Ic} {d:Array Int} {a b:Nat} {limit:Int} {K:Unit->WP},b-a<=n->gI eJ T w0 w d->a<=b->b<=len->(len<=d.size/\len<=1152921504606846976)->Sort.Below ltInt a b d-> (∀d' w',PermIn a b d d'->SortedIn ltInt a b d'->gI eJ T w0 w' d'->K () w')-> cW 177 [.slice (pW eJ) len cap,.i a,.i b,.i limit] [] w K:=by
 intro n;induction n using Nat.strongRecOn with
 | _ n ih=>
 intro w0 w d a0 b0 limit0 K hn h hab hb hl hB hk;refine qcK (data:=⟨pW eJ,len,cap⟩) ?_;dsimp only;refine iX (λx w'=>∃(a b:Nat) (l:Int) (wb wp:Bool) (d':Array Int),x=((a:Int),(b:Int),l,wb,wp)/\b-a<=n/\a<=b/\b<=len/\d'.size=d.size/\Sort.Below ltInt a b d'/\gI eJ T w0 w' d'/\
   ∀R,PermIn a b d' R->SortedIn ltInt a b R->PermIn a0 b0 d R/\SortedIn ltInt a0 b0 R) (λx _=>(x.2.1-x.1).toNat)
  ⟨a0,b0,limit0,true,true,d,rfl,hn,hab,hb,rfl,hB,h,λR h1 h2=>⟨h1,h2⟩⟩ ?_
 rintro x w1 ⟨a,b,l,wb,wp,d1,rfl,hn1,hab,hb,hs1,hB,h,hR⟩ X hX;dsimp only;have e0:IntKind.i64.wrap ((b:Int)-a)=((b-a:Nat):Int):=(by rw[wi _ oJ];omega);rw[e0];apply dX<;>intro hc;refine qAE h hab hb oJ λw2 h=>?_;obtain⟨h1,h2⟩:=insertionSort_holds BN d1 a b hab oJ;obtain⟨h3,h4⟩:=hR _ h1 h2;exact hk _ _ h3 h4 h;have h12:12<b-a:=(by have:=zB hc;omega);apply dX<;>intro hc;refine qzF h hab hb oJ λw2 h=>?_;obtain⟨h1,h2⟩:=heapSort_holds BN d1 a b hab oJ;obtain⟨h3,h4⟩:=hR _ h1 h2;exact hk _ _ h3 h4 h;refine gP (λ_ w'=>∃d2,PermIn a b d1 d2/\gI eJ T w0 w' d2) ?_ ?_;apply dX<;>intro hc;exact qx5 h hab hb oJ λd2 w2 hp h=>⟨d2,hp,h⟩;exact⟨d1,permIn_refl _ _ _,h⟩;rintro lim w2 ⟨d2,hp2,h⟩;have hs2:=hp2.1;refine qyk h oJ hb oJ λp hint w3 hpp h=>?_;dsimp only;refine gP (λx w'=>∃(p:Nat) (hint:Int) (d3:Array Int),x=((p:Int),hint)/\a<=p/\p<b/\PermIn a b d1 d3/\gI eJ T w0 w' d3) ?_ ?_;apply dX<;>intro hc;refine qAI h oJ hb oJ λw4 h=>⟨(b-1)-(p-a),1,_,th ?_ rfl,oJ,oJ,permIn_trans _ _ _ _ _ hp2 (reverseRange_holds _ _ _ hab oJ),h⟩;rw[wi ((b:Int)-1) oJ,wi ((p:Int)-a) oJ,wi _ oJ];omega;exact⟨p,hint,d2,rfl,hpp.1,hpp.2,hp2,h⟩;rintro x w4 ⟨p,hint,d3,rfl,hp1,hp2,hp3,h⟩;have hs3:=hp3.1;dsimp only;refine gP (λ_ w'=>∃d4,PermIn a b d1 d4/\gI eJ T w0 w' d4) ?_ ?_;refine gP (λ_ w'=>gI eJ T w0 w' d3) ?_ ?_;apply dX<;>intro hc;apply dX<;>intro hc;exact h;exact h;exact h;rintro c w5 h;apply dX<;>intro hc;refine qyn h oJ hb oJ λw6 h=>?_;obtain⟨h1,h2⟩:=partialInsertionSort_holds BN d3 a b oJ oJ (hB.perm oJ hp3);apply dX<;>intro hc;obtain⟨h3,h4⟩:=hR _ (permIn_trans _ _ _ _ _ hp3 h1) (h2 hc);exact hk _ _ h3 h4 h;exact⟨_,permIn_trans _ _ _ _ _ hp3 h1,h⟩;exact⟨d3,hp3,h⟩;rintro _ w5 ⟨d4,hp4,h⟩;have hs4:=hp4.1;have hB4:=hB.perm oJ hp4;refine gP (λc w'=>c=(decide (0<a)&&!ltInt d4[a-1]! d4[p]!)/\gI eJ T w0 w' d4) ?_ ?_;apply dX<;>intro hc;have ha:0<a:=(by have:=zC hc;omega);exact h.drew.rd (a-1) (by rw[wi _ oJ];omega) oJ oJ<|h.drew.rd p rfl oJ oJ<|sC<|⟨by simp[ha],h.drew⟩;have ha:¬0<a:=(by have:=zB hc;omega);exact⟨by simp[ha],h.drew⟩;rintro c w6 ⟨rfl,h⟩;apply dX<;>intro hc;simp only[yA,decide_eq_true_eq,zT] at hc;have hr:=round_eq BN (partitionEqual_holds ltInt) hc.1 hp1 hp2 oJ hB4 hc.2 (mid:=(Sort.partitionEqual ltInt d4 a b p).1) (d4:=(Sort.partitionEqual ltInt d4 a b p).2) rfl;refine qwv h hp1 hp2 hb oJ λw7 h=>?_;obtain⟨h1,h2,h3,h4,h5⟩:=hr;refine hX _ _ ⟨_,b,lim,wb,wp,_,rfl,oJ,h2,hb,oJ,h4,h,λR r1 r2=>?_⟩ oN;obtain⟨q1,q2⟩:=h5 R r1 r2;exact hR R (permIn_trans _ _ _ _ _ hp4 q1) q2;have hr:=round_part BN (partition_holds ltInt) hp1 hp2 oJ hB4 (mid:=(Sort.partition ltInt d4 a b p).1) (ap:=(Sort.partition ltInt d4 a b p).2.1) (d4:=(Sort.partition ltInt d4 a b p).2.2) rfl;refine qzI h hp1 hp2 hb oJ λw7 h=>?_;obtain⟨h1,h2,h3,h4,h5,h6,h7⟩:=hr;dsimp only;generalize (Sort.partition ltInt d4 a b p).1=mid at *;generalize (Sort.partition ltInt d4 a b p).2.2=d5 at *;rw[wi ((mid:Int)-a) oJ,wi ((b:Int)-mid) oJ,wi ((mid:Int)+1) oJ,show (mid:Int)+1=((mid+1:Nat):Int) by omega];apply cD<;>intro hc;have hlt:mid-a<b-mid:=oJ;refine ih (mid-a) oJ (zM _) h h1 oJ oJ h4 λd6 w8 r1 r2 h=>?_;obtain⟨q1,q2⟩:=h6 d6 r1 r2;refine hX _ _ ⟨mid+1,b,lim,_,_,d6,rfl,oJ,oJ,hb,by have:=r1.1;omega,q1,h,λR s1 s2=>?_⟩ oN;obtain⟨t1,t2⟩:=q2 R s1 s2;exact hR R (permIn_trans _ _ _ _ _ hp4 t1) t2;refine ih (b-(mid+1)) oJ (zM _) h oJ hb oJ h5 λd6 w8 r1 r2 h=>?_;obtain⟨q1,q2⟩:=h7 d6 r1 r2;refine hX _ _ ⟨a,mid,lim,_,_,d6,rfl,oJ,oJ,oJ,by have:=r1.1;omega,q1,h,λR s1 s2=>?_⟩ oN;obtain⟨t1,t2⟩:=q2 R s1 s2;exact hR R (permIn_trans _ _ _ _ _ hp4 t1) t2
def qt9{w0:Ic}(h:gI eJ T w0 w d)(C:len<=d.size/\len<=1152921504606846976)(E:∀u w',PermIn 0 len d u->SortedIn ltInt 0 len u->gI eJ T w0 w' u->K () w'): cW 148 [.slice (pW eJ) len cap] [] w K:=by refine qio (x:=⟨pW eJ,len,cap⟩) ?_;dsimp only;rw[IntWalk.u64_in (len:Int) oJ];exact EI oJ<|qAG len (a:=0) oJ h oJ (zM _) C (.inl rfl) E
def qrU(h:K () w):cW 148 [.slice none 0 0] [] w K:=by refine qio (x:=dH) ?_;dsimp only;rw[IntWalk.u64_in ((0:Nat):Int) oJ];exact EI (n:=0) oJ<|qcK (data:=dH)<|Ae λX u=>HK (by decide +kernel)<|qbM (data:=dH)<|Ae λX u=>HM (by decide +kernel) h
end
end
def qx6{rb cap:Nat}{K:Sl->WP}(I:w.heap[rb]?=some (.c (gX d) T))(ag:n<=d.size)(hn:n<=1000000)(hk:∀b U h T' w',w'.heap[b]?=some (.c (gX U) T')->n<=U.size->n<=h/\h<=U.size->U.toList.take n=d.toList.take n->w.heap.size<=b->Fr [] w w'->K ⟨pW b,n,h⟩ w'): cW 176 [.slice (pW rb) n cap] dh w K:=by
 obtain⟨V,hi,hz,aa,ab⟩:=vF;refine qhb (s:=⟨pW rb,n,cap⟩)<|HM rfl ?_;have C:=oE [] w;refine dR.new C λtb w1 et aj C=>?_;have ac:w1.heap[rb]?=some (.c (gX d) T):=(by rw[C.fr.block rb (eX I) oL];exact I);have G:∀(j:Nat) u,((d.toList.take n).map (Value.int .u32))[j]?=some u->w1.cell? (((dg rb):Addr).add j)=some u:=λj u E=>by rw[Addr.q9,jp ac,xR];rw[zQ,xA] at E;by_cases hjn:j<n;rw[iP hjn] at E;unfold gX;rw[Array.getElem?_map];simpa using E;rw[iN hjn] at E;cases E
 have J:((d.toList.take n).map (Value.int .u32)).length=n:=oO;dsimp only;by_cases h0:n=0;subst h0;refine quf (P:=prog) (e:=63) oK hi [] (C.at (i:=0) rfl) oL (λj u E=>by simp at E) oL oJ oL ?_;have R:=C.gS (o':=.c (dS #[] (0+0*V.size) []) 63) 0 rfl;have:=R.at (i:=0) rfl;have e:gX #[] = #[]:=(by simp[gX]);exact hk tb #[] 0 63 _ (by rw[e];exact this) oL ⟨zM _,zM _⟩ oL oJ R.fr;refine qrX (P:=prog) (e:=63) oK hi hz [] ((d.toList.take n).map (Value.int .u32)) oL (λj u E=>by simp at E) (by rw[J,aa];omega) G oJ (by rw[ab];omega) oJ λq ak al=>?_;rw[qo0 _ _ rfl];have ad:([]:List Ie).toArray++((d.toList.take n).map (Value.int .u32)).toArray++Array.replicate (q-(0+n)) (.u 0)=gX ((d.toList.take n++List.replicate (q-(0+n)) (0:Int)).toArray):=(by rw[Ex];apply Array.ext';simp);rw[ad];have C:=C.drew.alloc (.c (gX ((d.toList.take n++List.replicate (q-(0+n)) (0:Int)).toArray)) 63);have hl:(d.toList.take n).length=n:=oO;rw[xR];refine hk _ _ q _ _ (by have:=C.at (i:=0) rfl;rw[xR] at this;exact this) oO ⟨oJ,by simp;omega⟩ ?_ (by show w.heap.size<=w1.heap.size;omega) (by rw[xR] at C;exact C.fr);show ((d.toList.take n++List.replicate (q-n) (0:Int))).take n=_;rw[HP oJ,take_take,Nat.min_self]
def DM:∀ {u C:Il},u.Perm C->u.Pairwise (·<=·)->C.Pairwise (·<=·)->u=C
 | [],C,h,_,_=>h.nil_eq
 | a::u,[],h,_,_=>absurd h.symm.nil_eq oL
 | a::u,b::C,h,R,U=>by
  have E:=yI.1 R;have G:=yI.1 U;have I:a=b:=by
   have V:a∈b::C:=h.mem_iff.1 oL;have m2:b∈a::u:=h.mem_iff.2 oL;rcases zG.1 V with e|e;exact e;rcases zG.1 m2 with J|J;exact J.symm;have:=G.1 a e;have:=E.1 b J;omega
  subst I;rw[DM h.cons_inv E.2 G.2]
def Told (w w':Ic) (s:Sl) (l:Il):Prop:=
 (l=[]/\s=dH)\/∃b d T cap,s=⟨pW b,l.length,cap⟩/\w'.heap[b]?=some (.c (gX d) T)/\l.length<=d.size/\l.length<=cap/\d.toList.take l.length=l/\w.heap.size<=b/\cap<=d.size
def qt6{K:Sl->WP}(h:fY w pb F l)(hl:l.length<=1000000)(hk:∀s w',Told w w' s l->Fr [] w w'->K s w'):cW 147 [dG pb] dh w K:=by
 refine qlO ?_;have u:=h.nK;obtain⟨mb,R,d,f,rfl,hr,hm,hp,hh,hf,h1⟩:=h.ex;rcases hr with ⟨h0,hd,hR,I⟩|⟨rb,T,hR,I,J,aq,U⟩;have V:l=[]:=HW h0;subst V;exact fu<|io I dH rfl<|qhb<|HK rfl<|qrU<|hk _ _ (.inl ⟨rfl,rfl⟩) (.refl _ _);refine fu<|io I ⟨pW rb,l.length,d.size⟩ rfl ?_;dsimp only;refine qx6 J U hl λb d' C T' w' c1 c2 aa c3 c4 c5=>?_;dsimp only;refine qt9 (.start c1) ⟨c2,oJ⟩ λd2 w2 s1 s2 s3=>?_;have ay:=s1.1;refine hk _ _ (.inr ⟨b,d2,T',C,rfl,s3.eJ,oJ,aa.1,?_,c4,oJ⟩) (c5.j8 s3.fr λi E=>by simp at E;subst E;exact .inr c4);refine DM ((BO s1).trans (by rw[c3];exact hp)) ?_ (u.imp Int.le_of_lt);rw[pairwise_iff_getElem];intro i j E hj ac;have ad:i<l.length:=(by simp at E;omega);have G:j<l.length:=(by simp at hj;omega);have g1:=xk (d:=d2) rfl ad oJ;have g2:=xk (d:=d2) rfl G oJ;rw[zA E] at g1;rw[zA hj] at g2;rw[yN g1,yN g2];have:=s2 i j oJ ac G;simp[ltInt] at this;exact this
abbrev iw:Int->List Ie:=λn=>[Value.int .u32 n]
abbrev Rd (S:Ik) (w:Ic) (s:Sl) (l:Il):Prop:=ee iw 1 S w s l
abbrev ln (w:Ic) (s:Sl) (l:Il) (B:Ik):Prop:=eU iw 1 w s l B
def qZ:∀x,(iw x).length=1:=λ_=>rfl
def Rd.at{s:Sl}(h:Rd S w s l)(n:Nat){i:Int}{K:Int->Prop}(hi:i=n)(C:l[n]?=some x)(k:K x):idx s i 1 λa=>ld .u a w K:=
 ee.get (y:=x) h n hi C rfl k
def Ei{s:Sl}{B:Ik}{K:Sl->WP}(h:ln w s l B)(U:l.length<=1000000)(I:∀G B' w',ln w' G (l++[x]) B'->Fr B w w'->(∀b∈B',b∈B\/w.heap.size<=b)->K G w'): Pt.new (.cells #[.u x] T) w λr w1=>Pt.run dh ((Builtin.append_ #[172,172] 172 #[s.v,.slice (pW r) 1 1]).run prog w1) K:=by obtain⟨i,J,R,C,E⟩:=vF;exact eU.push (e:=63) h qZ (by simp[Value.oneCell']) oK J R C rfl rfl (by rw[E];omega) oJ I
def qq6(h:l.Pairwise (· < ·)):l.Pairwise (·<=·):=h.imp Int.le_of_lt
def As{w0:Ic}{F':Ik}(u:∀b∈F,w0.heap.size<=b)(E:w0.heap.size<=w.heap.size)(h:∀b∈F',b∈F\/w.heap.size<=b):∀b∈F',w0.heap.size<=b:=by intro b C;rcases h b C with h|h;exact u b h;omega
def qt3{K:Option Addr->WP}(h:fY w pb F l)(hl:l.length<=1000000)(hk:∀ad F' w',fY w' ad F' l->Fr [] w w'->(∀b∈F',w.heap.size<=b)->K (pW ad) w'): cW 127 [dG pb] dt w K:=by
 refine qlN<|wF λnb F0 w1 h1 f1 U=>?_;have ap:fY w1 pb F l:=h.q8 f1 (λ_ _ h=>by cases h);have G:=h.nK;refine fu ?_;obtain⟨mb,R,d,f,rfl,hr,hm,hp,hh,hf,hv⟩:=ap.ex;rcases hr with ⟨h0,hd,hR,hb⟩|⟨rb,T,hR,hb,ar,aK,V⟩;have au:l=[]:=HW h0;subst au;exact io hb dH rfl<|Ae λX hX=>HM rfl<|hk nb F0 w1 h1 f1 U;refine io hb ⟨pW rb,l.length,d.size⟩ rfl ?_;dsimp only;have aG:rb<w.heap.size:=h.lt rb (by rw[hR];simp);have J:Rd F0 w1 ⟨pW rb,l.length,d.size⟩ (d.toList.take l.length):=by
  refine⟨by rw[yK,Ib];exact (xQ V).symm,V,.inr ⟨rb,0,_,T,_,rfl,ar,λhm=>by have:=U rb hm;omega,λi x hx=>?_⟩⟩;have hi:=(zP.1 hx).1;rw[yK,Ib] at hi;have I:i<l.length:=yC hi (Nat.min_le_left _ _);have aw:i<d.size:=yC hi (Nat.min_le_right _ _);have ax:=xk (d:=d) rfl I V;rw[ax] at hx;rw[xR,xS];have hc:(gX d)[i]?=some (.u x):=by unfold gX;rw[Array.getElem?_map];rw[<- yN hx];simp[aw]
  apply ext_getElem?;intro j;rw[xA,yZ];match j with
  | 0=>simpa using hc
  | j+1=>simp
 have ag:(d.toList.take l.length).length=l.length:=oO;have E:(d.toList.take l.length).Nodup:=hp.symm.nodup (G.imp λh=>Int.ne_of_lt h);generalize hL:d.toList.take l.length=L at J ag E hp;refine iX (λx w'=>∃(i:Nat) (l':Il) (F':Ik),x=i/\i<=l.length/\fY w' nb F' l'/\l'.Perm (L.take i)/\Fr [] w w'/\Rd F' w' ⟨pW rb,l.length,d.size⟩ L/\∀b∈F',w.heap.size<=b) (λx _=>((l.length:Int)-x).toNat)
  ⟨0,[],F0,rfl,oJ,h1,oL,f1,J,U⟩ ?_
 rintro x w2 ⟨i,l',F',rfl,hi,h2,C,f2,ah,ab⟩ X hX;have aA:l'.length=i:=(by rw[C.length_eq,yK];omega);apply cD<;>intro hc;have I:i<l.length:=oJ;have ac:i<L.length:=oJ;refine Rd.at ah i rfl (zA ac)<|Dh h2 oJ λF3 w3 h3 f3 ai=>?_;rw[wi _ oJ];have aj:L[i]∉l':=by
  intro hm;have aB:=C.mem_iff.1 hm;have e:L.take (i+1)=L.take i++[L[i]]:=yF ac;have ak:(L.take (i+1)).Nodup:=(take_sublist _ _).nodup E;rw[e] at ak;have:=(yL.1 ak).2.2 _ aB L[i] oL;exact this rfl
 refine hX _ _ ⟨i+1,ins L[i] l',F3,oJ,oJ,h3,?_,f2.j8 f3 λb hb=>.inr (ab b hb),ah.q8 f3 ai,As ab f2.size ai⟩ oJ;rw[yF ac];exact ((wn aj).trans (C.cons _)).trans (HO _ _).symm;have I:i=l.length:=oJ;subst I;rw[zS oJ] at C;have:l'=l:=DM (C.trans hp) (qq6 h2.nK) (qq6 G);subst this;exact hk nb F' w2 h2 f2 ab
end
section
set_option maxRecDepth 100000
open Go Go.Pt
end
section
set_option maxRecDepth 100000
open Go Go.Pt
variable {K:Int->WP} {read:Ie} {s:Option Addr} {w:Ic}
@[reducible] def pR:List Cell:=iJ
@[reducible] def qzs:List Cell:=ls
@[reducible] def vG:List Cell:=iI
@[reducible] def Au:List Cell:=mt
@[reducible] def qBl:List Cell:=rX
@[reducible] def AS:List Cell:=um

def qtc{p:Option Addr}{K:(Option Addr)->WP}(hF:HF #[.pointer p] 100 w λa b=>K (pW a) b):cW 63 [.p p] dt w K:=HN [] func63 hF

def qoR{t:Int}{k:Sl}{K:((HL pR)×Bool)->WP}(hF:HF cv 74 w λb c=>nn s λd=>ld .ptr d c λe=>cW 47 [.p e,.i t,k.v] dm c λ(f:It) g=>cond (!f.2==0) (HF cv 74 g λh i=>dL (pR) (dg h) i λj=>st (dg b) (HL.mk pR j) i λl=>dL (pR) (dg b) l λm=>K (m,false) l) (dZ prog read [k.v,f.1.v] [.agg pR,.one .bool] g λ(n:Is×Bool) o=>st (dg b) (HL.mk pR n.1) o λp=>dL (pR) (dg b) p λq=>K (q,n.2) p)):cW 54 [.p s,.i t,k.v,read] [.agg pR,.one .bool] w K:=HN [] func54 hF

def qoS{t:Int}{k:Sl}{K:((List Ie)×Bool)->WP}(hF:fc prog 79 w λb c=>nn s λd=>ld .ptr d c λe=>cW 47 [.p e,.i t,k.v] dm c λ(f:It) g=>cond (!f.2==0) (fc prog 79 g λh i=>gZ 18 (dg h) i λj=>gB (List.length j=18)<|st (dg b) j i λl=>gZ 18 (dg b) l λm=>K (m,false) l) (dZ prog read [k.v,f.1.v] dC g λ(n:List Ie×Bool) o=>gB (List.length n.1=18)<|st (dg b) n.1 o λp=>gZ 18 (dg b) p λq=>K (q,n.2) p)):cW 57 [.p s,.i t,k.v,read] dC w K:=HN [] func57 hF

def qhF{id0 id1:Int}{K:((HL pR)×Bool)->WP}(hF:HF #[.w id0,.w id1] 39 w λb c=>HF cv 74 c λd e=>dL df (dg b) e λf=>cW 55 [de f.1 f.2] dh e λg h=>cW 54 [.pointer s,.i 0,g.v,Value.func (Fn.func 56) #[] #[]] [.agg pR,.one .bool] h λ(i:Is×Bool) j=>st (dg d) (HL.mk pR i.1) j λk=>dL (pR) (dg d) k λl=>K (l,i.2) k):cW 22 [.p s,de id0 id1] [.agg pR,.one .bool] w K:=HN [] func22 hF

def qfU{a:HL pR}(hF:HF (List.toArray (HL.mk pR a)) 74 w λb c=>dL (pR) (dg b) c λd=>cW 52 [fN pR d] dr c λ(e:Sl×Sl) f=>nn s λg=>ld .ptr g f λh=>cW 50 [.p h,.i 0,e.1.v,e.2.v] di f λ(i:Int) j=>K i j):cW 20 [.p s,fN pR a] di w K:=HN [] func20 hF

def qgG{id0 id1:Int}{K:((List Ie)×Bool)->WP}(hF:HF #[.w id0,.w id1] 39 w λb c=>fc prog 79 c λd e=>dL df (dg b) e λf=>cW 55 [de f.1 f.2] dh e λg h=>cW 57 [.pointer s,.i 1,g.v,Value.func (Fn.func 58) #[] #[]] dC h λ(i:List Ie×Bool) j=>gB (List.length i.1=18)<|st (dg d) i.1 j λk=>gZ 18 (dg d) k λl=>K (l,i.2) k):cW 23 [.p s,de id0 id1] dC w K:=HN [] func23 hF

def qfl{x:List Ie}(hF:HF (List.toArray x) 79 w λb c=>dL (qzs) (dg b) c λd=>HF cw 77 c λe f=>st (dg e) (HL.mk qzs d) f λg=>gZ 18 (dg b) g λh=>cW 59 [.agg (List.toArray h)] dr g λ(i:Sl×Sl) j=>nn s λk=>ld .ptr k j λl=>cW 50 [.p l,.i 1,i.1.v,i.2.v] di j λ(m:Int) n=>cond (!m==0) (K m n) (nn s λo=>ld .ptr o n.drew λp=>dL df (dg e 2) n.drew λq=>ld (.w) (dg e 15) n.drew λ(r:Int)=>dL df (dg e) n.drew λt=>cW 38 [de q.1 q.2,.w r] dh n.drew λu v=>held [jA (dg e) 0 ([.w t.1,.w t.2]),dT o (.pointer p)] v<|cW 55 [de t.1 t.2] dh v λA B=>held [dT o (.pointer p)] B<|cW 50 [.p p,.i 4,u.v,A.v] di B λ(D:Int) E=>cond (!D==0) (K D E) (nn s λF=>ld .ptr F E.drew λG=>dL df (dg e 4) E.drew λH=>ld (.w) (dg e 15) E.drew λ(I:Int)=>dL df (dg e) E.drew λJ=>cW 38 [de H.1 H.2,.w I] dh E.drew λL M=>held [jA (dg e) 0 ([.w J.1,.w J.2]),dT F (.pointer G)] M<|cW 55 [de J.1 J.2] dh M λP Q=>held [dT F (.pointer G)] Q<|cW 50 [.p G,.i 5,L.v,P.v] di Q λ(S:Int) T=>K S T))):cW 24 [.p s,.agg x.toArray] di w K:=HN (aS [(9,.o [[0,1,2,3,4,5,6,7,9,10,8,11,12,13]]),(3,.o [[0,1,2,3,4,5,6,7,9,10,8,11,12,13]])]) func24 hF

def qgp{id0 id1 state:Int}(hF:HF #[.w id0,.w id1] 39 w λb c=>(nn s λd=>ld .ptr d c.drew λe=>dL df (dg b) c.drew λf=>cW 55 [de f.1 f.2] dh c.drew λg h=>held [dT d (.pointer e)] h<|HF #[.b state] 5 h λj k=>held [jA (dg b) 0 ([.w f.1,.w f.2]),dT d (.pointer e)] k<|cW 50 [.p e,.i 2,g.v,.slice (pW j) 1 1] di k λ(n:Int) o=>K n o)/\(nn s λp=>ld .ptr p c.drew λq=>dL df (dg b) c.drew λr=>HF #[.b state] 5 c.drew λt u=>held [jA (dg b) 0 ([.w r.1,.w r.2]),dT p (.pointer q)] u<|cW 55 [de r.1 r.2] dh u λy z=>held [dT p (.pointer q)] z<|cW 50 [.p q,.i 2,y.v,.slice (pW t) 1 1] di z λ(B:Int) C=>K B C)):cW 67 [.p s,de id0 id1,.b state] di w K:=HN ([.n,.n,.o [[0,1,2,3,4,6,5,7,8,9],[0,1,2,3,4,6,7,5,8,9]]]) func67 hF

def qis{d0 d1 d2 d3:Int}(hF:HF #[.w d0,.w d1,.w d2,.w d3] 41 w λb c=>dL (vG) (dg b) c λd=>cW 60 [fN vG d] dr c λ(e:Sl×Sl) f=>nn s λg=>ld .ptr g f λh=>cW 50 [.p h,.i 3,e.1.v,e.2.v] di f λ(i:Int) j=>K i j):cW 26 [.pointer s,.agg #[.w d0,.w d1,.w d2,.w d3]] di w K:=HN [] func26 hF

def qdA{d0 d1 d2 d3:Int}(hF:HF #[.w d0,.w d1,.w d2,.w d3] 41 w λb c=>dL (vG) (dg b) c λd=>cW 60 [fN vG d] dr c λ(e:Sl×Sl) f=>nn s λg=>ld .ptr g f λh=>cW 61 [.p h,.i 3,e.1.v] di f λ(i:Int) j=>K i j):cW 25 [.pointer s,.agg #[.w d0,.w d1,.w d2,.w d3]] di w K:=HN [] func25 hF

def qk9{J0 most:Int}{K:Sl->WP}(hF:nn s λb=>ld .ptr b w.drew λc=>cW 35 [.w J0,.w 18446744073709551615] dh w.drew λd e=>held [dT b (.pointer c)] e<|cW 34 [.p c,.i 3,.slice none 0 0,d.v,.bool false,.i most] dh e λg h=>loop (It) (λi (j:It) k=>HH (j.2<(↑g.len:Int)) (join (Sl) (λl=>idx g j.2 2 λm=>dL [.slice,.slice] m k λn=>HF dc 104 k λo p=>st (dg o) [n.1.v,n.2.v] p λq=>ld .s (dg o) q λr=>ld .s (dg o 1) q λt=>cW 36 [r.v,t.v] [.agg vG,.one .bool] q λ(u:IB×Bool) v=>HF c6 41 v λx y=>st (dg x) (HL.mk vG u.1) y λz=>cond u.2 (dL (vG) (dg x) z λA=>HF (List.toArray (HL.mk vG A)) 41 z λB C=>iY (#[29,29]) 29 #[j.1.v,.slice (pW B) 1 1] C λD E=>l D E) (l j.1 z)) λF G=>i (F,IntKind.wrap .i64 (j.2+1)) G) (K j.1 k)) (dH,0) h):cW 10 [.p s,.w J0,.i most] dh w K:=HN (aS [(4,.o [[0,1,2,3,4,6,9,5,7,8]]),(0,.l [(7,.one .slice),(21,.one .i)]),(2,.j [(7,.one .slice)])]) func10 hF

def qit{account0 account1:Int}{r:HL Au}(hF:HF #[.w account0,.w account1] 39 w λb c=>HF (List.toArray (HL.mk Au r)) 62 c λd e=>dL df (dg b) e λf=>dL (Au) (dg d) e λg=>cW 111 [de f.1 f.2,fN Au g] dr e λ(h:Sl×Sl) i=>nn s λj=>ld .ptr j i λk=>cW 50 [.p k,.i 6,h.1.v,h.2.v] di i λ(l:Int) m=>K l m):cW 71 [.p s,de account0 account1,fN Au r] di w K:=HN [] func71 hF

def qir{K:(HL AS)->WP}(hF:HF dd 64 w λa b=>HF dd 64 b λc d=>loop (Int) (λe (f:Int) g=>HH (f<8) (nn s λh=>ld .ptr h g λi=>cW 46 [.p i,.i f] [.agg qBl] g λ(j:Iw) k=>gB (0<=f/\f<(↑8:Int))<|st (Addr.add (dg c) (Int.toNat f*1)) [.u j.2.1] k λl=>e (IntKind.wrap .i64 (f+1)) l) (dL (AS) (dg c) g λm=>st (dg a) (HL.mk AS m) g λn=>dL (AS) (dg a) n λo=>K o n)) 0 d):cW 16 [.p s] [.agg AS] w K:=HN (aS [(4,.l [(5,.one .i)])]) func16 hF
end
section
set_option maxRecDepth 100000
open Go Go.Pt
end
section
set_option maxRecDepth 100000
open Go Go.Pt

variable {K:((Option Addr)×(Option Addr))->WP}
def qhM{blocks:Int}{w:Ic}(hF:cW 62 [.i blocks] dz w λ(a:IC) b=>cond (Option.isNone a.2) (K (none,none) b) (cW 63 [.p a.2] dt b λc d=>K (c,a.2) d)):cW 32 [.i blocks] dz w K:=HN [] func32 hF
end
section
set_option maxRecDepth 100000
open Go Go.Pt
end
section
open Go Go.Pt List
open Go.IntKind (wrap)
attribute [local irreducible] ld dL gZ mP i3 fc st new idx i4 jg fB jk iO lS gB nn call dZ inv run eW iC join loop held ext jU eH mv mp mA IntKind.wrap
variable {K:Sl->Prop} {L:Ip} {S:Ik} {T:If} {body l:Il} {number:Int} {s:Sl} {w:Ic}
abbrev encB:Int->List Ie:=λn=>[Value.int .u8 n]
abbrev en (S:Ik) (w:Ic) (s:Sl) (l:Il):Prop:=ee encB 1 S w s l
abbrev fR (w:Ic) (s:Sl) (l:Il) (B:Ik):Prop:=eU encB 1 w s l B
def lc:∀x,(encB x).length=1:=λ_=>rfl
def fS (l:Il):Array Ie:=(l.map (Value.int .u8)).toArray
def yp(l:Il):(fS l).size=l.length:=by simp[fS]
def rm(l:Il):l.flatMap encB=l.map (Value.int .u8):=by
 induction l with
 | nil=>rfl
 | cons a l ih=>rw[yG,ih];rfl
def uE:∃i,prog.info? 5=some i/\i.zero=some (.b 0)/\i.size=1/\i.bytes=1:=sV oK
def en.at(h:en S w s l)(n:Nat){i x:Int}{K:Int->Prop}(hi:i=n)(u:l[n]?=some x)(k:K x):idx s i 1 λa=>ld .b a w K:=
 ee.get (y:=x) h n hi u rfl k
def vR{b o n cap:Nat}{L:Il}{u:Iu}(C:w.heap[b]?=some (.cells (fS L) T u))(J:o+n<=L.length)(E:n<=cap)(G:b∉S):en S w ⟨some (dg b o),n,cap⟩ ((L.drop o).take n):=by
 refine⟨by rw[yK,yB];dsimp only;omega,E,.inr ⟨b,o,_,T,_,rfl,C,G,λi x h=>?_⟩⟩;have I:=(zP.1 h).1;rw[yK,yB] at I;rw[xA,iP,yZ] at h;rw[xS];apply ext_getElem?;intro j;rw[xA,yZ];match j with
 | 0=>simp[fS,h]
 | j+1=>simp
def CD{b o len cap:Nat}{lo hi:Int}{h:Nat}(u:0<=lo)(C:lo<=hi)(E:hi<=cap)(G:lo<cap)(k:K ⟨some ⟨b,o+lo.toNat*h,none⟩,hi.toNat-lo.toNat,cap-lo.toNat⟩):fB ⟨some (dg b o),len,cap⟩ (some lo) (some hi) none h K:=by unfold fB;refine⟨by simpa using ⟨u,C,E⟩,?_⟩;simp only[xV,xU,zJ];rw[iN];simp only[Option.map_some,Addr.q9];exact k
def Cv{b o len cap:Nat}{lo:Int}{h:Nat}(u:0<=lo)(C:lo<=len)(E:len<=cap)(G:lo<cap)(k:K ⟨some ⟨b,o+lo.toNat*h,none⟩,len-lo.toNat,cap-lo.toNat⟩):fB ⟨some (dg b o),len,cap⟩ (some lo) none none h K:=by unfold fB;refine⟨by simp;omega,?_⟩;simp only[xV,xU,zJ];rw[iN];simp only[Option.map_some,Addr.q9];exact k
def ee.part{α:Type}{enc:α->List Ie}{k:Nat}{l:List α}(h:ee enc k S w s l){lo hi:Option Int}(a b:Nat)(u:lo.getD 0=a)(C:hi.getD s.len=b)(aa:a<=b)(U:b<=l.length)(kk:∀E,E.len=b-a->ee enc k S w E ((l.take b).drop a)->(s.a.isNone=true->E.a.isNone=true)->K E):fB s lo hi none k K:=by
 obtain⟨h1,h2,I⟩:=h;unfold fB;refine⟨by rw[u,C];simp;omega,kk _ ?_ ⟨?_,?_,?_⟩ ?_⟩;rw[u,C];simp;rw[u,C];simp;omega;rw[u,C];simp;omega;by_cases he:(l.take b).drop a=[];exact .inl he;right;have ac:a<b:=by rcases Nat.lt_or_ge a b with h|h;exact h;exact absurd (by rw[vD];simp;omega) he
 rcases I with I|⟨bl,o,cs,T,fr,ha,J,R,hc⟩;rw[I] at U;simp at U;omega;refine⟨bl,o+a*k,cs,T,fr,?_,J,R,λi x G=>?_⟩;rw[u];simp only[xV,zJ];rw[iN,ha];simp[Addr.q9];rw[yZ,xA] at G;split at G;have:=hc (a+i) x G;rw[<- this,xT,Nat.add_assoc];cases G;intro V;rw[Option.isNone_iff_eq_none] at V;rw[V];simp
def gw (n:Int) (j:Nat):Int:=wrap .u8 (Int.fdiv n (2^min (8*j) 32))
def be (n:Int) (k:Nat):Il:=(List.range k).map λi=>gw n (k-1-i)
def ko(n:Int)(k:Nat):(be n k).length=k:=by simp[be]
def gi(n:Int)(h:-1000000000000000<=n/\n<=1000000000000000):wrap .i64 n=n:=by rw[IntWalk.i64_in];omega
def Fi{w0:Ic}{b o k cap:Nat}{A X Z:Il}{n:Int}{K:Unit->WP}(h:dR S w0 w L)(i:Nat)(hi:L[i]?=some (b,.c (fS (A++X++Z)) T))(ho:A.length=o)(hX:X.length=k)(aa:k<=4)(hk:∀w',dR S w0 w' (L.set i (b,.c (fS (A++be n k++Z)) T))->K () w'): cW 181 [.slice (some (dg b o)) k cap,.u n] [] w K:=by
 refine qtT (b:=⟨some (dg b o),k,cap⟩)<|iX (λx w'=>∃j:Nat,x=j/\j<=k/\dR S w0 w' (L.set i (b,.c (fS (A++((be n k).take j++X.drop j)++Z)) T))) (λx _=>((k:Int)-x).toNat) ⟨0,rfl,oJ,?_⟩ ?_;have:L.set i (b,.c (fS (A++((be n k).take 0++X.drop 0)++Z)) T)=L:=by
  apply ext_getElem?;intro j;rw[List.getElem?_set];by_cases hij:i=j;subst hij;rw[iP rfl,hi];have:=(zP.1 hi).1;simp[this];rw[iN hij]
 rw[this];exact h;rintro x w1 ⟨j,rfl,hj,E⟩ Y hY;have R:=(zP.1 hi).1;dsimp only;apply cD<;>intro U;have G:j<k:=oJ;have e1:wrap .i64 (8*wrap .i64 (wrap .i64 ((k:Int)-1)-j))=((8*(k-1-j):Nat):Int):=by rw[gi ((k:Int)-1) oJ,gi ((k:Int)-1-j) oJ,gi (8*((k:Int)-1-j)) oJ];omega
 rw[e1,gi _ oJ];refine m8 oJ<|ur oJ oJ ?_;rw[zJ,xS,zJ];have I:X.drop j=X[j]::X.drop (j+1):=zX oJ;have V:(be n k).take (j+1)=(be n k).take j++[gw n (k-1-j)]:=by rw[yF (by rw[ko];exact G)];simp[be]
 have C:((be n k).take j).length=j:=(by rw[yK,ko];omega);refine oH E i (by rw[List.getElem?_set,iP rfl,iP R]) (fS (A++((be n k).take (j+1)++X.drop (j+1))++Z)) ?_ rfl ?_ λw2 J _=>?_;rw[dS,dS];apply Array.ext';rw[Array.toList_setIfInBounds];show (fS _).toList.set _ _=(fS _).toList;unfold fS;simp only[toList_toArray];rw[<- map_set,I,V,zV A,set_append_right _ _ oJ];rw[show o+j-A.length=j by omega,zV ((be n k).take j),set_append_right _ _ oJ,C,Nat.sub_self,xI,set_cons_zero];simp only[zV,xI,xH,gw];refine Nat.ble_eq_true_of_le ?_;rw[yp,I];simp only[zF,yH,xJ,C];omega;refine hY _ _ ⟨j+1,oJ,oJ,?_⟩ oJ;rw[set_set] at J;exact J;have G:j=k:=oJ;subst G;rw[zS (by rw[ko];exact zM _),HU oJ,xG] at E;exact hk _ E
def gW (l:Il):Int:=l.foldl (λr x=>bits .or .u32 (wrap .u32 (r*2^8)) (wrap .u32 x)) 0
def Et{K:Int->WP}(h:en S w s l)(V:l.length<=100000)(R:K (gW l) w):cW 188 [s.v] dv w K:=by refine qtS ?_;have I:=h.1;refine iX (λx w'=>w'=w/\∃i:Nat,x.2=i/\i<=l.length/\x.1=gW (l.take i)) (λx _=>((l.length:Int)-x.2).toNat) ⟨rfl,0,rfl,oJ,rfl⟩ ?_;rintro⟨r,ii⟩ w' ⟨rfl,i,E,hi,J⟩ X U;simp only at E J;subst E J;apply cD<;>intro G;have C:i<l.length:=oJ;refine en.at h i rfl (zA C) ?_;rw[gi _ oJ];refine U _ _ ⟨rfl,i+1,oL,oJ,?_⟩ oN;rw[yF C,gW,gW,foldl_append];rfl;have C:i=l.length:=oJ;subst C;rw[xY];exact R
def qma{K:Sl->Ic->Prop}(h:en S w s l)(hl:l.length<=1000000)(hk:∀s' B w',fR w' s' l B->Fr [] w w'->(∀b∈B,w.heap.size<=b)->(s.a.isNone=true->s'=dH)->(s.a.isNone=false->s'.a.isNone=false)->K s' w'): cond (Option.isNone s.a) (K dH w) (new (.cells #[] 5) w λr w1=>Pt.run dh ((Builtin.append_ #[101,101] 101 #[.slice (some (dg r)) 0 0,.slice s.a s.len s.cap]).run prog w1) λs' w'=>K s' w'):=by
 obtain⟨i5,hi,hz,hsz,hby⟩:=uE;apply dX<;>intro hc;have hl0:l=[]:=by rcases h.2.2 with h3|⟨b,o,cs,T,fr,ha,_⟩;exact h3;rw[ha] at hc;cases hc
 subst hl0;exact hk _ [] w (.nil _ _ _) (.refl _ _) oL (λ_=>rfl) (λh=>by rw[hc] at h;cases h);obtain⟨a,ha⟩:∃a,s.a=some a:=by cases hs:s.a with|none=>rw[hs] at hc;cases hc|some a=>exact⟨a,rfl⟩
 have ho:=oE [] w;refine dR.new ho λr w1 e1 s1 ho=>?_;have h1:en S w1 s l:=h.q7 ho.fr;have hb:fR w1 ⟨some (dg r),0,0⟩ [] [r]:=eU.fresh lc (ho.at (i:=0) rfl) rfl (zM _) oL oL;have hlen:=h.1;rw[ha];refine eU.j1 (s:=⟨some (dg r),0,0⟩) (ys:=l) (e:=5) hb lc oK hi hz hsz rfl (.ofSlice _ (e':=5) oK a s.len s.cap _ ?_ (h1.cells lc ha) ?_) hlen (by rw[hby,hlen];simp;omega) (by rw[hlen];simp;omega) λs' B w' g1 g2 g3 g4=>?_;rw[rm];simp[hlen];intro u hu;rw[rm] at hu;obtain⟨x,_,rfl⟩:=List.mem_map.1 hu;rfl;have hBn:∀b∈B,w.heap.size<=b:=λb hb=>by rcases g3 b hb with h|h;simp at h;omega;omega
 refine hk s' B w' (oP g1) (ho.fr.j8 g2 (λb hb=>by simp at hb;subst hb;exact .inr oJ)) hBn (λh=>by rw[hc] at h;cases h) λ_=>?_;rcases g4 with hn|hn;exact hn;simp at hn
def An{K:Sl->WP}(h:en S w s l)(C:l.length<=1000000)(E:∀u B w',fR w' u l B->Fr [] w w'->(∀b∈B,w.heap.size<=b)->(s.a.isNone=true->u=dH)->(s.a.isNone=false->u.a.isNone=false)->K u w'): cW 154 [s.v] dh w K:=by exact qnv<|qma h C E
def xw{K:Sl->WP}(h:en S w s l)(C:l.length<=1000000)(E:∀u B w',fR w' u l B->Fr [] w w'->(∀b∈B,w.heap.size<=b)->(s.a.isNone=true->u=dH)->(s.a.isNone=false->u.a.isNone=false)->K u w'): cW 75 [s.v] dh w K:=by exact qo7<|qma h C E
def kS:Il:=[0,274646895,549293790,820201905,1098587580,1361435347,1640403810,1905808397,2197175160,2460548119,2722870694,2987750089,3280807620,3553878443,3811616794,4084100981]
abbrev HG:Nat:=1
def Hv (w:Ic):Prop:=∃T h,w.heap[HG]?=some (.cells (kS.map (Value.int .u32)).toArray T h)
def Hv.q8{w':Ic}(h:Hv w)(f:Fr S w w')(C:HG∉S):Hv w':=by obtain⟨T,E,u⟩:=h;exact⟨T,E,by rw[f.block HG (eX u) C];exact u⟩
def Hv.q7{w':Ic}(h:Hv w)(f:Fr [] w w'):Hv w':=h.q8 f oL
def Hv.lt(h:Hv w):HG<w.heap.size:=by obtain⟨T,C,u⟩:=h;exact eX u
def GJ(x:Int):0<=bits .and .u32 x 15/\bits .and .u32 x 15<16:=by have h:(BitVec.ofInt 32 x&&& BitVec.ofInt 32 15).toNat<16:=(by rw[BitVec.toNat_and];exact Nat.lt_of_le_of_lt Nat.and_le_right oM);have u:bits .and .u32 x 15=((BitVec.ofInt 32 x&&& BitVec.ofInt 32 15).toNat:Int):=(by show wrap .u32 _=_;unfold wrap;have:(IntKind.u32.signed)=false:=rfl;simp only[this,Bool.false_and,Bool.false_eq_true,if_false];have e:((2:Int)^IntKind.u32.bits)=4294967296:=rfl;rw[e];exact Int.emod_eq_of_lt oJ (by have:(BitVec.ofInt IntKind.u32.bits x&&& BitVec.ofInt IntKind.u32.bits 15).toNat<16:=h;omega));rw[u];omega
def half (x:Int):Int:=kS.getD x.toNat 0
def vT (r:Int):Int:=bits .xor .u32 (Int.fdiv r (2^4)) (half (bits .and .u32 r 15))
def sA (r x:Int):Int:=vT (vT (bits .xor .u32 r (wrap .u32 x)))
def tV (h:Int) (l:Il):Int:=bits .xor .u32 (l.foldl sA (bits .xor .u32 h 4294967295)) 4294967295
def nX (l:Il):Int:=tV 0 l
def quv{x:Int}{K:Int->Prop}(h:Hv w)(k:K (half (bits .and .u32 x 15))):ld .u (Addr.add (dg HG) (Int.toNat (bits .and .u32 x 15)*1)) w K:=by obtain⟨T,J,E⟩:=h;obtain⟨G,I⟩:=GJ x;rw[Addr.q9];refine io E _ ?_ k;generalize bits .and .u32 x 15=y at G I;have C:y.toNat<kS.length:=(by show y.toNat<16;omega);rw[xR,xS];simp only[List.getElem?_toArray,zQ,zA C,Option.map_some,half,yQ,xU];rfl
def qAg{E:Int}{K:Int->WP}(h:en S w s l)(J:Hv w)(hl:l.length<=100000)(V:K (tV E l) w): cW 225 [.u E,s.v] dv w K:=by refine qtz ?_;have R:=h.1;refine iX (λx w'=>w'=w/\∃i:Nat,x.2=i/\i<=l.length/\x.1=(l.take i).foldl sA (bits .xor .u32 E 4294967295)) (λx _=>((l.length:Int)-x.2).toNat) ⟨rfl,0,rfl,oJ,rfl⟩ ?_;rintro⟨r,ii⟩ w' ⟨rfl,i,G,hi,U⟩ X hX;simp only at G U;subst G U;apply cD<;>intro I;have C:i<l.length:=oJ;refine en.at h i rfl (zA C)<|m8 (GJ _)<|quv J<|m8 (GJ _)<|quv J ?_;rw[gi _ oJ];refine hX _ _ ⟨rfl,i+1,oL,oJ,?_⟩ oN;rw[yF C,foldl_append];rfl;have C:i=l.length:=oJ;subst C;rw[xY];exact V
def qxY{K:Int->WP}(h:en S w s l)(C:Hv w)(E:l.length<=100000)(G:K (nX l) w): cW 182 [s.v] dv w K:=by exact qvv<|qAg h C E G
def FY{α:Type}(A X Y Z:List α)(h:X.length=Y.length):(A++X++Z).take A.length++Y++(A++X++Z).drop (A.length+Y.length)=A++Y++Z:=by have u:(A++X++Z).take A.length=A:=(by rw[zV,HP (zM _),zS (zM _)]);have C:(A++X++Z).drop (A.length+Y.length)=Z:=(by rw[<- h,<- zF,HV (zM _),HU (zM _),xH]);rw[u,C]
def qk8{A X Y Z:Il}(h:X.length=Y.length):dS (fS (A++X++Z)) A.length (Y.map (Value.int .u8))=fS (A++Y++Z):=by
 apply Array.ext';rw[pX _ _ _ (by rw[yp];simp only[zF,zK];omega)];have:=FY (A.map (Value.int .u8)) (X.map (Value.int .u8)) (Y.map (Value.int .u8)) (Z.map (Value.int .u8)) (oP h);simpa only[fS,xM,toList_toArray,zK] using this
def zs (n:Nat):Il:=List.replicate n 0
def ot(n:Nat):(zs n).length=n:=length_replicate
def zq(a b:Nat):zs (a+b)=zs a++zs b:=replicate_append_replicate.symm
def qBi:zs 1=[0]:=rfl
def qtp(n:Nat):(List.replicate n (Value.int .u8 0)).toArray=fS (zs n):=by unfold fS zs;rw[map_replicate]
def dR.bytes{w0:Ic}{b:Nat}{l':Il}(h:dR S w0 w ((b,.c (fS l) T)::L))(e:l=l'):dR S w0 w ((b,.c (fS l') T)::L):=by rw[<- e];exact h
def kT (number kind:Int) (body:Il):Il:=be number 4++[kind]++be (wrap .u32 body.length) 2++[0]++body++zs (500-body.length)
def eG (number kind:Int) (body:Il):Il:=be (nX (kT number kind body)) 4++kT number kind body
def Cz{kind:Int}(h:body.length<=500):(kT number kind body).length=508:=by simp only[kT,ko,ot,zF,yH,xJ];omega
def wM{kind:Int}(h:body.length<=500):(eG number kind body).length=512:=by rw[eG,zF,ko,Cz h]
def Em{kind:Int}{K:It->WP}(h:en S w s l)(R:Hv w)(hl:l.length<=100000)(I:500<l.length->K (dH,3) w)(hk:l.length<=500->∀b T w',w'.heap[b]?=some (.c (fS (eG number kind l)) T)->Fr [] w w'->w.heap.size<=b->K (⟨pW b,512,512⟩,0) w'): cW 150 [.u number,.b kind,s.v] dm w K:=by
 refine qsO ?_;have G:=h.1;refine dX (λU=>I (by have:=zC U;omega)) λU=>?_;have E:l.length<=500:=(by have:=zB U;omega);refine dR.Gr (oE [] w) oM oM oM oM λb w1 eb C=>?_;rw[qtp] at C;replace C:=dR.bytes (l':=zs 4++zs 4++zs 504) C (by rw[<- zq,<- zq];rfl);refine CD oM oM oM oM<|Fi (k:=4) C 0 rfl (ot 4) (ot 4) oM λw2 C=>?_;replace C:=dR.bytes (l':=(zs 4++be number 4)++zs 1++zs 503) C (by rw[show (504:Nat)=1+503 from rfl,zq,zV,zV,zV]);refine ur oJ oL<|oH C 0 rfl _ (qk8 (A:=zs 4++be number 4) (X:=zs 1) (Y:=[kind]) rfl) rfl (by rw[yp];simp only[zF,ot,ko];rfl) λw3 C _=>?_;replace C:=dR.bytes (l':=(zs 4++be number 4++[kind])++zs 2++zs 501) C (by rw[show (503:Nat)=2+501 from rfl,zq,zV,zV,zV,zV,zV]);refine CD oJ oJ oL oL<|Fi (k:=2) C 0 rfl (by simp only[zF,ot,ko];rfl) (ot 2) oM λw4 C=>?_;replace C:=dR.bytes (l':=(zs 4++be number 4++[kind]++be (wrap .u32 s.len) 2++[0])++zs l.length++zs (500-l.length)) C (by rw[show (501:Nat)=1+(l.length+(500-l.length)) by omega,zq,zq,qBi];simp only[zV]);refine Cv oJ oL oL oL ?_;have h4:en S w4 s l:=h.q7 C.fr;have e6:(zs 4++be number 4++[kind]++be (wrap .u32 s.len) 2++[0]).length=12:=(by simp only[zF,ot,ko];rfl);refine dR.vj (el:=5) (vs:=l.map (Value.int .u8)) C 0 rfl oK oK (by rw[zK,G];exact (xQ (by show l.length<=500;omega)).symm) (λJ=>?_) (λv R=>by obtain⟨x,_,rfl⟩:=mem_map.1 R;rfl) (by rw[yp,zF,zF,e6,ot,ot,zK];omega) λw5 C=>?_;rcases h4.2.2 with h3|⟨bb,o,cs,T,fr,ha,_⟩;rw[h3] at J;exact absurd rfl J;refine⟨_,ha,?_⟩
 have:=h4.cells lc ha;rw[rm] at this;exact this;have e5:=qk8 (A:=zs 4++be number 4++[kind]++be (wrap .u32 s.len) 2++[0]) (X:=zs l.length) (Y:=l) (Z:=zs (500-l.length)) (ot _);rw[e6] at e5;have e7:(0:Nat)+Int.toNat 12*1=12:=rfl;rw[e7,e5] at C;replace C:=dR.bytes (l':=[]++zs 4++kT number kind l) C (by simp only[kT,G,zV,xH]);refine zv ⟨oJ,oL⟩<|Cv oJ oL oL oL ?_;have V:=C.drew;have hr:en [] w5.drew ⟨some ⟨b,0+Int.toNat 4*1,none⟩,(512:Int).toNat-Int.toNat 4,(512:Int).toNat-Int.toNat 4⟩ (kT number kind l):=by
  have:=vR (S:=[]) (o:=4) (n:=508) (cap:=508) (V.at (i:=0) rfl) (by rw[zF,zF,ot,Cz E];simp) (zM _) oL;rw[xH,HV (by rw[ot];exact zM _),HU (by rw[ot];exact zM _),xH,zS (by rw[Cz E];exact zM _)] at this;exact this
 have aa:Hv w5.drew:=R.q7 V.fr;refine qxY hr aa (by rw[Cz E];decide)<|Fi (k:=4) V 0 rfl rfl (ot 4) oM λw6 C=>hk E b _ w6 (C.at (i:=0) rfl) C.fr oJ
def eI (l:Il):Prop:=∀x∈l,0<=x/\x<256
def eI.take{l:Il}(h:eI l)(n:Nat):eI (l.take n):=λx u=>h x (yU u)
def eI.drop{l:Il}(h:eI l)(n:Nat):eI (l.drop n):=λx u=>h x (yT u)
def qwK(h:eI l):((Lib.countByte (Lib.bytesOf l) (0:Int).toNat.toUInt8:Nat):Int)=l.length↔∀x∈l,x=0:=by
 have key:∀l:Il,eI l->((Lib.bytesOf l).count (0:UInt8)<=l.length/\((Lib.bytesOf l).count (0:UInt8)=l.length↔∀x∈l,x=0)):=by
  intro l;induction l with
  | nil=>intro _;simp[Lib.bytesOf]
  | cons a l ih=>
   intro u;obtain⟨J,C⟩:=ih λx E=>u x (zN _ E);have R:=u a oL;have e:Lib.bytesOf (a::l)=UInt8.ofNat a.toNat::Lib.bytesOf l:=rfl;rw[e,count_cons];have G:(UInt8.ofNat a.toNat==0)=decide (a=0):=by
    by_cases h0:a=0;subst h0;rfl;rw[zU h0,zR];intro I;have:=H9 UInt8.toNat I;simp at this;omega
   rw[G];by_cases h0:a=0;subst h0;simp only[decide_true,if_true,yH,zG,forall_eq_or_imp,true_and];exact⟨oJ,by rw[<- C];omega⟩;simp only[h0,decide_false,Bool.false_eq_true,if_false,yH,zG,forall_eq_or_imp,false_and,iff_false];omega
 have:=(key l h).2
 show (((Lib.bytesOf l).count _:Nat):Int)=_↔_;rw[<- this];exact Int.ofNat_inj
def qo9{b2 cap2:Nat}{K:Int->Ic->Prop}(h:en S w s l)(hB:eI l)(hc2:w.cell? (dg b2)=some (.int .u8 0))(hk:∀c:Int,(c=l.length↔∀x∈l,x=0)->K c w): call prog 189 [.slice s.a s.len s.cap,.slice (some (dg b2)) 1 cap2] [.one (.int .i64)] w K:=by
 refine qo8 (s:=s) (sep:=⟨some (dg b2),1,cap2⟩) ?_;have hlen:=h.1;refine HM (by rfl)<|HK (by rfl)<|ur oJ oL<|pB (c:=.int .u8) 0 hc2 ?_;have hcount:(Extern.BytealgCount.count #[.slice s.a s.len s.cap,.int .u8 0]).run prog w=.ok (.int .i64 (Lib.countByte (Lib.bytesOf l) (0:Int).toNat.toUInt8)) w:=by
  cases ha:s.a with
  | none=>
   have hl0:l=[]:=by rcases h.2.2 with h3|⟨b,o,cs,T,fr,ha',_⟩;exact h3;rw[ha] at ha';cases ha'
   subst hl0;exact Lib.run_countNil w _ _ _
  | some a=>
   refine Lib.run_countAt w a s.len s.cap l hlen.symm (λi hi=>?_) 0;have:=h.cells lc ha i (.int .u8 (l.getD i 0)) ?_;exact this;rw[rm,zQ,yQ,zA oJ];rfl
 exact A6 (e:=Extern.BytealgCount.count) func230 oK oK oK oK (((Lib.countByte (Lib.bytesOf l) (0:Int).toNat.toUInt8:Nat):Int)) w hcount<|hk _ (qwK hB)
def eV (number:Int) (b:Il):Int×List Int×Int:=
 if b.length≠512 then (0,[],1)
 else if gW (b.take 4)≠nX (b.drop 4) then (0,[],8)
 else if gW ((b.take 8).drop 4)≠number then (0,[],4)
 else if gW ((b.take 11).drop 9)>500\/b.getD 11 0≠0 then (0,[],2)
 else if ∃x∈b.drop (12+(gW ((b.take 11).drop 9)).toNat),x≠0 then (0,[],2)
 else (b.getD 8 0,(b.take (12+(gW ((b.take 11).drop 9)).toNat)).drop 12,0)
def nD(x:Int)(h:0<=x/\x<4294967296):wrap .u32 x=x:=by unfold wrap;have:(IntKind.u32.signed)=false:=rfl;simp only[this,Bool.false_and,Bool.false_eq_true,if_false];exact Int.emod_eq_of_lt h.1 h.2
def vE(x:Int):0<=wrap .u32 x/\wrap .u32 x<4294967296:=by unfold wrap;have:(IntKind.u32.signed)=false:=rfl;simp only[this,Bool.false_and,Bool.false_eq_true,if_false];exact⟨Int.emod_nonneg _ oM,Int.emod_lt_of_pos _ oM⟩
def CX(h:BinOp)(x y:Int):0<=bits h .u32 x y/\bits h .u32 x y<4294967296:=vE _
def qvB(l:Il):0<=gW l/\gW l<4294967296:=by
 unfold gW;have:∀(l:Il) (a:Int),0<=a/\a<4294967296->0<=l.foldl (λr x=>bits .or .u32 (wrap .u32 (r*2^8)) (wrap .u32 x)) a/\l.foldl (λr x=>bits .or .u32 (wrap .u32 (r*2^8)) (wrap .u32 x)) a<4294967296:=by
  intro l;induction l with
  | nil=>intro a h;exact h
  | cons x l ih=>intro a _;exact ih _ (CX _ _ _)
 exact this l 0 oM
def Fe{K:Ix->WP}(h:en S w s l)(hv:Hv w)(hB:eI l)(hl:l.length<=100000)(hk:∀s' B w',fR w' s' (eV number l).2.1 B->Fr [] w w'->(∀b∈B,w.heap.size<=b)->K ((eV number l).1,s',(eV number l).2.2) w'): cW 157 [.u number,s.v] dq w K:=by
 refine qsN ?_;have J:=h.1;have E:∀ {e:Int} {w':Ic},eV number l=(0,[],e)->Fr [] w w'->K (0,dH,e) w':=by
  intro e w' he hf;have:=hk dH [] w' (by rw[he];exact .nil _ _ _) hf oL;rw[he] at this;exact this
 apply dX<;>intro C;refine E ?_ (.refl _ _);have:l.length≠512:=(by simp at C;omega);simp[eV,this];have R:l.length=512:=(by simp at C;omega);refine ee.part h 0 4 rfl rfl oJ oJ λs1 l1 r1 _=>ee.part h 4 512 rfl (by rw[J,R];rfl) oJ oJ λs2 l2 r2 _=>?_;rw[zS oJ] at r2;rw[xE] at r1;have fd:Fr [] w w.drew:=(Fr.refl _ _).drew;have ak:Hv w.drew:=hv.q7 fd;refine Et (w:=w.drew) r1 (by rw[yK];omega)<|qxY (w:=w.drew) r2 ak (by rw[yB];omega) ?_;have h0:¬l.length≠512:=oJ;apply dX<;>intro C;refine E ?_ fd;have:gW (l.take 4)≠nX (l.drop 4):=(oP C);rw[eV,iN h0,iP this];have h1:¬gW (l.take 4)≠nX (l.drop 4):=(oP C);have hd:en S w.drew s l:=h;refine ee.part hd 4 8 rfl rfl oJ oJ λs3 l3 r3 _=>Et r3 (by rw[yB,yK];omega) ?_;apply dX<;>intro C;refine E ?_ fd;have:gW ((l.take 8).drop 4)≠number:=(oP C);rw[eV,iN h0,iN h1,iP this];have h2:¬gW ((l.take 8).drop 4)≠number:=(oP C);refine ee.part hd 9 11 rfl rfl oJ oJ λs4 l4 r4 _=>Et r4 (by rw[yB,yK];omega) ?_;have hn:=qvB ((l.take 11).drop 9);have am:l[11]?=some (l.getD 11 0):=(by rw[yQ,zA oJ];rfl);have g8:l[8]?=some (l.getD 8 0):=(by rw[yQ,zA oJ];rfl);refine gP (λb w'=>b=decide (gW ((l.take 11).drop 9)>500\/l.getD 11 0≠0)/\w'=w.drew) ?_ ?_;apply dX<;>intro C;exact⟨by rw[zZ (Or.inl (zC C))],rfl⟩;refine en.at hd 11 rfl am ⟨?_,rfl⟩;have:=zB C;generalize l.getD 11 0=z;by_cases hz:z=0<;>simp[this,hz];rintro b w1 ⟨rfl,rfl⟩;apply dX<;>intro C;refine E ?_ fd;rw[eV,iN h0,iN h1,iN h2,iP (zC C)];have h3:=zB C;have U:gW ((l.take 11).drop 9)<=500:=by rcases Int.lt_or_le 500 (gW ((l.take 11).drop 9)) with h|h;exact absurd (Or.inl h) h3;exact h
 have ov:eV number l=if ∃x∈l.drop (12+(gW ((l.take 11).drop 9)).toNat),x≠0 then (0,[],2) else (l.getD 8 0,(l.take (12+(gW ((l.take 11).drop 9)).toNat)).drop 12,0):=by rw[eV,iN h0,iN h1,iN h2,iN h3]
 generalize gW ((l.take 11).drop 9)=n at hn U ov;obtain⟨m,rfl⟩:∃m:Nat,n=m:=⟨n.toNat,oJ⟩;rw[nD _ oJ];rw[zJ] at ov;refine ee.part hd (12+m) 512 oL (by rw[J,R];rfl) oJ oJ λs5 l5 r5 _=>?_;rw[zS oJ] at r5;have ho:=oE [] w.drew;refine dR.new ho λzb w2 ez sz ho=>?_;have ao:en S w2 s5 (l.drop (12+m)):=r5.q7 ho.fr;refine qo9 ao (hB.drop _) (ho.cell (off:=0) 0 rfl rfl) λc ae=>?_;have I:Fr [] w w2:=fd.trans ho.fr;have af:=r5.1;apply dX<;>intro C;refine E ?_ I;have ap:¬ ∀x∈l.drop (12+m),x=0:=by rw[<- ae];intro e;rw[e,af] at C;simp at C
 rw[ov,if_pos];exact Classical.byContradiction λaq=>ap λx hx=>Classical.byContradiction λau=>aq ⟨x,hx,au⟩;have ag:∀x∈l.drop (12+m),x=0:=by rw[<- ae];rw[af] at C;simpa using C
 rw[iN (by rintro⟨x,hx,h0⟩;exact h0 (ag x hx))] at ov;have ah:en S w2.drew s l:=(h.q7 I).drew;obtain⟨_,b8,o8,aw,_,ai,T8,ax,V,ay⟩:=ee.at ah 8 g8;have aa:ai[o8+8]?=some (.b (l.getD 8 0)):=by
  have:=H9 (·[0]?) ay;simpa using this
 refine qs aw ⟨oJ,oJ⟩ ?_;have G:∀ {w':Ic},w'.heap[b8]?=some (.cells ai T8 ax)->w'.cell? ⟨b8,o8+Int.toNat 8*1,none⟩=some (.b (l.getD 8 0)):=λhb=>by rw[jp hb];exact aa
 refine pB (l.getD 8 0) (G V)<|ee.part ah 12 (12+m) rfl oL oJ oJ λs6 l6 r6 _=>?_;have lm:((l.take (12+m)).drop 12).length=m:=(by rw[yB,yK];omega);refine xw r6 (by rw[lm];omega) λs7 B w3 aA f7 n7 _ _=>ik (G (by show _=_;rw[f7.block b8 (eX V) oL];exact V)) ?_;have e1:(w2.drew).heap.size=w2.heap.size:=rfl
 have:=hk s7 B w3 (by rw[ov];exact aA) (I.drew.trans f7) (λb hb=>by have:=n7 b hb;have:=I.size;omega);rw[ov] at this;exact this
end
section
open Go Go.Pt List
open Go.IntKind (wrap)
variable {K:Io->WP} {a b body:Il} {n number:Int}
def Aq(x:Int):wrap .u8 x=x%256:=by unfold wrap;have:(IntKind.u8.signed)=false:=rfl;simp only[this,Bool.false_and,Bool.false_eq_true,if_false];rfl
def qA5{r x:Int}(h:0<=r/\r<16777216)(u:0<=x/\x<256):bits .or .u32 (wrap .u32 (r*2^8)) (wrap .u32 x)=r*256+x:=by rw[nD x oJ,nD (r*2^8) oJ];obtain⟨a,rfl⟩:∃a:Nat,r=a:=⟨r.toNat,oJ⟩;obtain⟨b,rfl⟩:∃b:Nat,x=b:=⟨x.toNat,oJ⟩;have e1:((a:Int)*2^8)=((2^8*a:Nat):Int):=oJ;rw[e1];show wrap .u32 ((BitVec.ofInt 32 ((2^8*a:Nat):Int)||| BitVec.ofInt 32 (b:Int)).toNat:Nat)=_;rw[BitVec.toNat_or,BitVec.ofInt_natCast,BitVec.ofInt_natCast,BitVec.toNat_ofNat,BitVec.toNat_ofNat,Nat.mod_eq_of_lt (show 2^8*a<2^32 by omega),Nat.mod_eq_of_lt (show b<2^32 by omega),<- Nat.two_pow_add_eq_or_of_lt (show b<2^8 by omega)];rw[nD _ oJ];omega
def og (l:Il):Int:=l.foldl (λr x=>r*256+x) 0
def CS:∀ {l:Il},eI l->l.length<=4->gW l=og l:=by
 have key:∀(l:Il) (r:Int) (k:Nat),eI l->l.length<=k->k<=4->0<=r->r<256^(4-k)->
   l.foldl (λr x=>bits .or .u32 (wrap .u32 (r*2^8)) (wrap .u32 x)) r=l.foldl (λr x=>r*256+x) r:=by
  intro l;induction l with
  | nil=>intros;rfl
  | cons x l ih=>
   intro r k u h C G E;have I:=u x oL;simp only[yH] at h;have J:r<16777216:=by
    have:(256:Int)^(4-k)<=256^3:=by
     have:(4-k)<=3:=oJ;match k,C,h with
     | 1,_,_=>decide
     | 2,_,_=>decide
     | 3,_,_=>decide
     | 4,_,_=>decide
    have e:(256:Int)^3=16777216:=oM;omega
   rw[foldl_cons,foldl_cons,qA5 ⟨G,J⟩ I];match k,C,h,E with
   | k+1,C,h,E=>
    refine ih _ k (λy R=>u y (zN _ R)) oJ oJ oJ ?_;have e:4-k=(4-(k+1))+1:=oJ;rw[e,Int.pow_succ];omega
 intro l u h;exact key l 0 4 u h oM oM oM
def yb(h:0<=n)(j:Nat)(u:j<=3):gw n j=n / 256^j%256:=by
 unfold gw;rw[Aq,Int.fdiv_eq_ediv_of_nonneg _ (by exact Int.pow_nonneg oM)];match j,u with
 | 0,_=>rfl
 | 1,_=>rfl
 | 2,_=>rfl
 | 3,_=>rfl
def BI(h:0<=n):be n 4=[n / 16777216%256,n / 65536%256,n / 256%256,n%256]:=by have e:be n 4=[gw n 3,gw n 2,gw n 1,gw n 0]:=rfl;rw[e,yb h 3 oM,yb h 2 oM,yb h 1 oM,yb h 0 oM];simp
def be2(h:0<=n):be n 2=[n / 256%256,n%256]:=by have e:be n 2=[gw n 1,gw n 0]:=rfl;rw[e,yb h 1 oM,yb h 0 oM];simp
def sR(n:Int)(k:Nat):eI (be n k):=by intro x h;obtain⟨i,_,rfl⟩:=mem_map.1 h;unfold gw;rw[Aq];omega
def Ew(h:0<=n/\n<4294967296):gW (be n 4)=n:=by rw[CS (sR _ _) (by rw[ko];exact zM _),BI h.1];show (((0*256+_)*256+_)*256+_)*256+_=n;omega
def qso(h:0<=n/\n<65536):gW (be n 2)=n:=by rw[CS (sR _ _) (by rw[ko];decide),be2 h.1];show (0*256+_)*256+_=n;omega
def qwg(l:Il):0<=nX l/\nX l<4294967296:=by unfold nX tV;exact CX _ _ _
def eI.append(h:eI a)(k:eI b):eI (a++b):=λx C=>by rcases zD.1 C with u|u;exact h x u;exact k x u
def eI.zs(n:Nat):eI (zs n):=λx h=>by
 have:=eq_of_mem_replicate h;omega
def eI.one{x:Int}(h:0<=x/\x<256):eI [x]:=λy u=>by simp at u;subst u;exact h
def qxP{kind:Int}(h:0<=kind/\kind<256)(u:eI body):eI (kT number kind body):=
 (((((sR _ _).append (.one h)).append (sR _ _)).append (.one oM)).append u).append (.zs _)
def Do{kind:Int}(h:0<=kind/\kind<256)(u:eI body):eI (eG number kind body):=(sR _ _).append (qxP h u)
def Fm{kind:Int}(I:0<=number/\number<4294967296)(J:body.length<=500):eV number (eG number kind body)=(kind,body,0):=by
 have u:wrap .u32 (body.length:Int)=(body.length:Int):=nD _ oJ;have e0:eG number kind body=be (nX (kT number kind body)) 4++(be number 4++([kind]++(be body.length 2++([0]++(body++zs (500-body.length)))))):=by
  rw[eG];conv=>lhs;rhs;rw[kT]
  rw[u];simp only[zV]
 have l4:=ko (nX (kT number kind body)) 4;have e1:(eG number kind body).take 4=be (nX (kT number kind body)) 4:=(by rw[eG,HP (by rw[ko];exact zM _),zS (by rw[ko];exact zM _)]);have R:(eG number kind body).drop 4=kT number kind body:=(by rw[eG,HV (by rw[ko];exact zM _),HU (by rw[ko];exact zM _),xH]);have G:∀n,∃a b c d,be n 4=[a,b,c,d]:=λn=>⟨_,_,_,_,rfl⟩;have U:∀n,∃a b,be n 2=[a,b]:=λn=>⟨_,_,rfl⟩;obtain⟨V,a1,a2,a3,ha⟩:=G (nX (kT number kind body));obtain⟨n0,n1,n2,n3,C⟩:=G number;obtain⟨l0,l1,E⟩:=U body.length;have h:eG number kind body=V::a1::a2::a3::n0::n1::n2::n3::kind::l0::l1::0::(body++zs (500-body.length)):=by rw[e0,ha,C,E];rfl
 have g1:gW ((eG number kind body).take 4)=nX ((eG number kind body).drop 4):=(by rw[e1,R,Ew (qwg _)]);have g2:gW (((eG number kind body).take 8).drop 4)=number:=(by have:((eG number kind body).take 8).drop 4=be number 4:=(by rw[h,C];rfl);rw[this,Ew I]);have g3:gW (((eG number kind body).take 11).drop 9)=body.length:=(by have:((eG number kind body).take 11).drop 9=be body.length 2:=(by rw[h,E];rfl);rw[this,qso oJ]);have g4:(eG number kind body).getD 11 0=0:=(by rw[h];rfl);have g5:(eG number kind body).getD 8 0=kind:=(by rw[h];rfl);have g6:(eG number kind body).drop (12+body.length)=zs (500-body.length):=(by rw[h,Nat.add_comm];show (body++zs (500-body.length)).drop body.length=_;rw[HV (zM _),drop_length,xH]);have g7:((eG number kind body).take (12+body.length)).drop 12=body:=(by rw[h,Nat.add_comm];show (body++zs (500-body.length)).take body.length=_;rw[HP (zM _),xY]);rw[eV,iN (by rw[wM J];simp),iN (by rw[g1];simp),iN (by rw[g2];simp),g3,g4,iN oO,zJ,g6,if_neg,g5,g7];rintro⟨x,hx,h0⟩;exact h0 (eq_of_mem_replicate hx)
def cmpL:Il->Il->Int
 | [],[]=>0
 | [],_::_=>-1
 | _::_,[]=>1
 | a::r,b::s=>if a<b then -1 else if b<a then 1 else cmpL r s
abbrev fK (a b:Il):Prop:=cmpL a b<0
def FM:∀a b:Il,cmpL a b=-1\/cmpL a b=0\/cmpL a b=1
 | [],[]=>.inr (.inl rfl)
 | [],_::_=>.inl rfl
 | _::_,[]=>.inr (.inr rfl)
 | a::r,b::s=>by rw[cmpL];split;exact .inl rfl;split;exact .inr (.inr rfl);exact FM r s
def G5:∀a:Il,cmpL a a=0
 | []=>rfl
 | a::r=>by rw[cmpL,iN,iN];exact G5 r
def Fh:∀ {a b:Il},cmpL a b=0->a=b
 | [],[],_=>rfl
 | [],_::_,h=>by simp[cmpL] at h
 | _::_,[],h=>by simp[cmpL] at h
 | a::r,b::s,h=>by rw[cmpL] at h;split at h;cases h;split at h;cases h;rw[Fh h,show a=b by omega]
def uu:∀a b:Il,cmpL b a =-cmpL a b
 | [],[]=>rfl
 | [],_::_=>rfl
 | _::_,[]=>rfl
 | a::r,b::s=>by rw[cmpL,cmpL];by_cases h1:a<b;rw[iN (show ¬b<a by omega),iP h1,iP h1];rfl;by_cases h2:b<a;rw[iP h2,iN h1,iP h2];rw[iN h2,iN h1,iN h1,iN h2];exact uu r s
def qS:¬fK a a:=by unfold fK;rw[G5];decide
def pw:∀ {a b c:Il},fK a b->fK b c->fK a c
 | [],[],_,h,_=>by simp[fK,cmpL] at h
 | [],_::_,[],_,h=>by simp[fK,cmpL] at h
 | [],_::_,_::_,_,_=>by simp[fK,cmpL]
 | _::_,[],_,h,_=>by simp[fK,cmpL] at h
 | _::_,_::_,[],_,h=>by simp[fK,cmpL] at h
 | a::r,b::s,c::t,h,g=>by unfold fK at h g⊢;rw[cmpL] at h g⊢;by_cases h1:a<b;by_cases g1:b<c;rw[iP];decide;rw[iN g1] at g;by_cases g2:c<b;rw[iP g2] at g;omega;rw[iP];decide;rw[iN h1] at h;by_cases h2:b<a;rw[iP h2] at h;omega;rw[iN h2] at h;by_cases g1:b<c;rw[iP];decide;rw[iN g1] at g;by_cases g2:c<b;rw[iP g2] at g;omega;rw[iN g2] at g;rw[iN,iN];exact pw (a:=r) (b:=s) (c:=t) h g
def sO(h:fK a b):¬fK b a:=λg=>qS (pw h g)
def xz(h:fK a b):a≠b:=λe=>by rw[e] at h;exact qS h
def qxk(a b:Il):fK a b\/a=b\/fK b a:=by rcases FM a b with h|h|h;exact .inl (by unfold fK;omega);exact .inr (.inl (Fh h));refine .inr (.inr ?_);unfold fK;rw[uu];omega
def AW:¬fK a b↔a=b\/fK b a:=by constructor;intro h;rcases qxk a b with u|u|u;exact absurd u h;exact .inl u;exact .inr u;rintro (rfl|h);exact qS;exact sO h
abbrev lO (a b:Il):Prop:=¬fK b a
def AK{c:Il}(h:lO a b)(g:fK b c):fK a c:=by rcases AW.1 h with u|u;rw[<- u];exact g;exact pw u g
def rg{c:Il}(h:fK a b)(g:lO b c):fK a c:=by rcases AW.1 g with u|u;rw[u];exact h;exact pw h u
def zw{c:Il}(h:lO a b)(g:lO b c):lO a c:=λk=>by rcases AW.1 h with u|u;subst u;exact g k;exact g (pw k u)
abbrev Key:=Il
variable {k:Key}
abbrev fP:=List (List Int×List Int)
variable {l:fP}
def dO (l:List Key) (k:Key):Nat:=(l.takeWhile λa=>decide (fK a k)).length
def eu (l:List Key) (k:Key):Nat:=(l.takeWhile λa=>decide (lO a k)).length
def fL (l:List Key):Prop:=l.Pairwise fK
def qgt{α:Type}(p:α->Bool)(l:List α):(l.takeWhile p).length<=l.length:=(takeWhile_sublist p).length_le
def Gf(l:List Key)(k:Key):dO l k<=l.length:=qgt _ l
def zo(l:List Key)(k:Key):eu l k<=l.length:=qgt _ l
def EA{α:Type}(p:α->Bool):∀l:List α,l.take (l.takeWhile p).length=l.takeWhile p
 | []=>rfl
 | a::r=>by
  rw[takeWhile_cons];cases h:p a with
  | true=>simp[EA p r]
  | false=>simp
def Fy{α:Type}{p:α->Bool}:∀ {l:List α} {x:α},x∈l.takeWhile p->p x=true
 | a::r,x,h=>by
  rw[takeWhile_cons] at h;cases u:p a with
  | true=>
   rw[u] at h;rcases zG.1 h with rfl|h;exact u;exact Fy h
  | false=>rw[u] at h;cases h
def Hg{α:Type}{p:α->Bool}:∀ {l:List α} {x:α} {r:List α},l.drop (l.takeWhile p).length=x::r->p x=false
 | a::s,x,r,h=>by
  rw[takeWhile_cons] at h;cases u:p a with
  | true=>
   rw[u] at h;exact Hg (l:=s) (oP h)
  | false=>
   rw[u] at h;simp at h;rw[<- h.1];exact u
def qsR{l:List Key}{a:Key}(h:a∈l.take (dO l k)):fK a k:=by unfold dO at h;rw[EA] at h;exact zC (p:=fK a k) (Fy (p:=λa=>decide (fK a k)) h)
def qof{l:List Key}{a:Key}(h:a∈l.take (eu l k)):lO a k:=by unfold eu at h;rw[EA] at h;exact zC (p:=lO a k) (Fy (p:=λa=>decide (lO a k)) h)
def wq{x:Key}{r:List Key}(h:fL (x::r)):∀a∈r,fK x a:=(yI.1 h).1
def fL.drop{l:List Key}(h:fL l)(n:Nat):fL (l.drop n):=List.Pairwise.sublist (drop_sublist n l) h
def fL.take{l:List Key}(h:fL l)(n:Nat):fL (l.take n):=List.Pairwise.sublist (take_sublist n l) h
def qrs{l:List Key}{a:Key}(E:fL l)(h:a∈l.drop (dO l k)):lO k a:=by
 have u:=E.drop (dO l k);cases e:l.drop (dO l k) with
 | nil=>rw[e] at h;cases h
 | cons x r=>
  have C:lO k x:=zB (Hg (p:=λa=>decide (fK a k)) e);rw[e] at h u;rcases zG.1 h with rfl|h;exact C;exact zw C (sO (wq u a h))
def qmo{l:List Key}{a:Key}(E:fL l)(h:a∈l.drop (eu l k)):fK k a:=by
 have u:=E.drop (eu l k);cases e:l.drop (eu l k) with
 | nil=>rw[e] at h;cases h
 | cons x r=>
  have C:fK k x:=Classical.not_not.1 (zB (Hg (p:=λa=>decide (lO a k)) e));rw[e] at h u;rcases zG.1 h with rfl|h;exact C;exact pw C (wq u a h)
def fJ (k v:Key):fP->fP
 | []=>[(k,v)]
 | x::r=>if fK k x.1 then (k,v)::x::r else if k=x.1 then (k,v)::r else x::fJ k v r
def gj (k:Key) (l:fP):fP:=l.filter λx=>decide (x.1≠k)
abbrev dQ (l:fP):List Key:=l.map (·.1)
def fg (l:fP):Prop:=fL (dQ l)
def BQ{k v:Key}:∀ {a:fP} {l:fP},(∀x∈a,fK x.1 k)->fJ k v (a++l)=a++fJ k v l
 | [],l,_=>rfl
 | x::a,l,h=>by have u:=h x oL;rw[xI,fJ,iN (sO u),iN λe=>xz u e.symm,BQ λy C=>h y (zN _ C),xI]
def qmk{k v:Key}{b:fP}(h:∀x∈b,fK k x.1):∀l:fP,fJ k v (l++b)=fJ k v l++b
 | []=>by
  cases b with
  | nil=>rfl
  | cons x r=>
   show fJ k v (x::r)=(k,v)::x::r;rw[fJ,iP (h x oL)]
 | x::l=>by rw[xI,fJ,fJ];split;rfl;split;rfl;rw[qmk h l,xI]
def En{v w:Key}{a r:fP}(h:∀x∈a,fK x.1 k):fJ k v (a++(k,w)::r)=a++(k,v)::r:=by rw[BQ h,fJ,iN qS,iP rfl]
def qxc{v:Key}{a b:fP}(h:∀x∈a,fK x.1 k)(u:∀x∈b,fK k x.1):fJ k v (a++b)=a++(k,v)::b:=by
 rw[BQ h];cases b with
 | nil=>rfl
 | cons x r=>rw[fJ,iP (u x oL)]
def Bs{k v:Key}{x:Key×Key}:∀ {l:fP},x∈fJ k v l->x=(k,v)\/x∈l
 | [],h=>.inl (by simpa[fJ] using h)
 | y::l,h=>by rw[fJ] at h;split at h;rcases zG.1 h with h|h;exact .inl h;exact .inr h;split at h;rcases zG.1 h with h|h;exact .inl h;exact .inr (zN _ h);rcases zG.1 h with h|h;exact .inr (by rw[h];simp);rcases Bs h with h|h;exact .inl h;exact .inr (zN _ h)
def Dq{k v:Key}:∀ {l:fP},fg l->fg (fJ k v l)
 | [],_=>pairwise_singleton _ _
 | x::l,h=>by have C:=yI.1 (show (x.1::dQ l).Pairwise fK from h);rw[fJ];split;rename_i E;refine yI.2 ⟨λa u=>?_,h⟩;rcases zG.1 u with rfl|u;exact E;exact pw E (C.1 a u);split;rename_i E;refine yI.2 ⟨λa u=>?_,C.2⟩;show fK k a;rw[E];exact C.1 a u;rename_i G I;refine yI.2 ⟨λa u=>?_,Dq C.2⟩;obtain⟨y,J,rfl⟩:=mem_map.1 u;rcases Bs J with rfl|J;rcases AW.1 G with e|e;exact absurd e I;exact e;exact C.1 _ (zY J)
def DQ{k v:Key}:∀ {l:fP},k∉dQ l->(fJ k v l).length=l.length+1
 | [],_=>rfl
 | x::l,h=>by rw[fJ];split;rfl;split;rename_i e;exact absurd (by rw[e];simp) h;rw[yH,DQ λu=>h (zN _ u),yH]
def CC{k v:Key}:∀ {l:fP},fg l->k∈dQ l->(fJ k v l).length=l.length
 | x::l,E,h=>by have C:=yI.1 (show (x.1::dQ l).Pairwise fK from E);rw[fJ];split;rename_i u;rcases zG.1 h with e|e;rw[e] at u;exact absurd u qS;exact absurd u (sO (C.1 k e));split;rfl;rename_i u;rcases zG.1 h with e|e;exact absurd e u;rw[yH,CC C.2 e,yH]
def qnU{a:fP}(h:∀x∈a,fK x.1 k):gj k (a++l)=a++gj k l:=by unfold gj;rw[xB,filter_eq_self.2];intro x u;exact zZ (xz (h x u))
def qmb{b:fP}(h:∀x∈b,fK k x.1):gj k (l++b)=gj k l++b:=by unfold gj;rw[xB];congr 1;rw[filter_eq_self];intro x u;exact zZ λe=>xz (h x u) e.symm
def qyD{w:Key}{a b:fP}(h:∀x∈a,fK x.1 k)(u:∀x∈b,fK k x.1):gj k (a++(k,w)::b)=a++b:=by rw[qnU h,show (k,w)::b=[(k,w)]++b from rfl,qmb u];unfold gj;simp
def qp8(h:fg l):fg (gj k l):=List.Pairwise.sublist (List.Sublist.map _ filter_sublist) h
def GG{x:Key×Key}:x∈gj k l↔x∈l/\x.1≠k:=by unfold gj;rw[H8];simp
def fg.te{a b:fP}:fg (a++b)↔fg a/\fg b/\∀x∈a,∀y∈b,fK x.1 y.1:=by unfold fg fL dQ;rw[xM,pairwise_append];constructor;rintro⟨h,u,C⟩;exact⟨h,u,λx E y G=>C _ (zY E) _ (zY G)⟩;rintro⟨h,u,C⟩;refine⟨h,u,λa I b J=>?_⟩;obtain⟨x,E,rfl⟩:=mem_map.1 I;obtain⟨y,G,rfl⟩:=mem_map.1 J;exact C x E y G
def zg(u:fg l):(∀x∈l.take (dO (dQ l) k),fK x.1 k)/\∀x∈l.drop (dO (dQ l) k),lO k x.1:=by refine⟨λx h=>qsR (l:=dQ l) ?_,λx h=>qrs (l:=dQ l) u ?_⟩;rw[<- xO];exact zY h;rw[<- xP];exact zY h
def qvE{v:Key}(U:fg l):fJ k v l=if (dQ l)[dO (dQ l) k]?=some k then l.set (dO (dQ l) k) (k,v) else l.take (dO (dQ l) k)++[(k,v)]++l.drop (dO (dQ l) k):=by
 obtain⟨E,V⟩:=zg (k:=k) U;have G:fg (l.drop (dO (dQ l) k)):=(by unfold fg dQ;rw[xP];exact fL.drop U _);generalize hi:dO (dQ l) k=i at E V G;have I:l=l.take i++l.drop i:=(xD i l).symm;cases e:l.drop i with
 | nil=>
  have hn:l.length<=i:=drop_eq_nil_iff.1 e;rw[iN (by rw[yR (by rw[zK];exact hn)];simp)];conv=>lhs;rw[I,e]
  rw[BQ E];simp[fJ]
 | cons x r=>
  have hx:=V x (by rw[e];simp);have u:i<l.length:=by rcases Nat.lt_or_ge i l.length with h|h;exact h;rw[vD h] at e;cases e
  have hg:l[i]=x:=by
   have:=zX u;rw[e] at this;exact (vB this).1.symm
  have hr:l.drop (i+1)=r:=by
   have:=zX u;rw[e] at this;exact (vB this).2.symm
  have J:(dQ l)[i]?=some x.1:=(by rw[zQ,zA u,hg];rfl);rw[J];by_cases hk:x.1=k
  ·rw[iP (by rw[hk])];conv=>lhs;rw[I,e]
   obtain⟨a,w⟩:=x;dsimp only at hk;subst hk;rw[En E,set_eq_take_append_cons_drop,iP u,hr]
  ·rw[iN λh=>hk (yN h)];have C:fK k x.1:=by rcases AW.1 hx with h|h;exact absurd h hk;exact h
   conv=>lhs;rw[I,e]
   rw[qxc E];simp;intro y R;rcases zG.1 R with rfl|R;exact C;rw[e] at G;exact pw C (wq (x:=x.1) (r:=dQ r) G y.1 (zY R))
def wu(E:fg l):(dQ l)[dO (dQ l) k]?=some k↔k∈dQ l:=by
 constructor;exact λh=>yE h;intro J;obtain⟨R,U⟩:=zg (k:=k) E;obtain⟨x,C,rfl⟩:=mem_map.1 J;have u:x∈l.drop (dO (dQ l) x.1):=by rw[<- xD (dO (dQ l) x.1) l,zD] at C;rcases C with C|C;exact absurd (R x C) qS;exact C
 have G:fg (l.drop (dO (dQ l) x.1)):=(by unfold fg dQ;rw[xP];exact fL.drop E _);cases e:l.drop (dO (dQ l) x.1) with
 | nil=>rw[e] at u;cases u
 | cons y r=>
  have V:=U y (by rw[e];simp);rw[e] at u G;have he:y.1=x.1:=by rcases zG.1 u with rfl|u;rfl;exact absurd (wq (x:=y.1) (r:=dQ r) G x.1 (zY u)) V
  have I:(l.drop (dO (dQ l) x.1))[0]?=some y:=(by rw[e];rfl);rw[yZ] at I;rw[zQ,show l[dO (dQ l) x.1]?=some y by simpa using I,<- he];rfl
def qnV(C:fg l)(J:k∈dQ l):gj k l=l.take (dO (dQ l) k)++l.drop (dO (dQ l) k+1):=by
 have u:=(wu C).2 J;obtain⟨I,R⟩:=zg (k:=k) C;generalize dO (dQ l) k=i at I R u;have h:i<l.length:=by
  have:=(zP.1 u).1;simpa using this
 have U:l=l.take i++l[i]::l.drop (i+1):=(by rw[<- zX h,xD]);have E:l[i].1=k:=(by rw[zQ,zA h] at u;exact yN u);have G:fg (l.drop i):=(by unfold fg dQ;rw[xP];exact fL.drop C _);rw[zX h] at G;conv=>lhs;rw[U]
 obtain⟨a,w,e⟩:∃a w,l[i]=(a,w):=⟨_,_,rfl⟩;rw[e] at E G⊢;dsimp only at E;subst E;exact qyD I λy V=>wq (x:=a) (r:=dQ (l.drop (i+1))) G y.1 (zY V)
def rz (t:Int):Io:=
 if t=0 then (16,88) else if t=1 then (16,108) else if t=2 then (16,1) else if t=3 then (16,16)
 else if t=4 then (24,16) else if t=5 then (24,16) else if t=6 then (24,65) else if t=7 then (1,8) else (0,0)
def qxU(t:Int):t=0\/t=1\/t=2\/t=3\/t=4\/t=5\/t=6\/t=7\/(t≠0/\t≠1/\t≠2/\t≠3/\t≠4/\t≠5/\t≠6/\t≠7):=by omega
def qrS{t:Int}{w:Ic}(h:K (rz t) w):cW 74 [.i t] dp w K:=by apply qrv;rcases qxU t with rfl|rfl|rfl|rfl|rfl|rfl|rfl|rfl|⟨u,C,E,G,I,J,R,U⟩<;>simpa[rz, *] using h
def tp (k v:Int):Io:=if k<1\/k>24\/v<0\/v>108 then (0,0) else (498 / (k+v),(498+k) / (4+k))
def qzy{k v:Int}{w:Ic}(h:∀w',nt w w'->K (tp k v) w'):cW 122 [.i k,.i v] dp w K:=by
 apply qsG;by_cases hc:k<1\/k>24\/v<0\/v>108;refine vd true w (λM u=>?_) ?_;by_cases h1:k<1;simpa[h1] using u;by_cases h2:k>24;simpa[h1,h2] using u;by_cases h3:v<0;simpa[h1,h2,h3] using u;have C:v>108:=oJ;simpa[h1,h2,h3,C] using u;have:=h w (.refl w);simpa[tp,hc] using this;refine vd false w (λM u=>?_) ?_;simpa[show ¬k<1 by omega,show ¬k>24 by omega,show ¬v<0 by omega,show ¬v>108 by omega] using u;have:=h w.drew (nt.refl w).drew;simp only[tp,hc,if_false] at this;have e1:IntKind.i64.wrap (k+v)=k+v:=IntWalk.i64_in _ oJ;have E:IntKind.i64.wrap (4+k)=4+k:=IntWalk.i64_in _ oJ;have G:IntKind.i64.wrap (498+k)=498+k:=IntWalk.i64_in _ oJ;have R:0<k+v:=oJ;have U:0<4+k:=oJ;have I:(498:Int).tdiv (k+v)=498 / (k+v):=HY oJ;have J:(498+k).tdiv (4+k)=(498+k) / (4+k):=HY oJ;have V:498 / (k+v)<=498:=Int.ediv_le_self _ oJ;have b2:(498+k) / (4+k)<=498+k:=Int.ediv_le_self _ oJ;have b3:0<=498 / (k+v):=Int.ediv_nonneg oJ oJ;have b4:0<=(498+k) / (4+k):=Int.ediv_nonneg oJ oJ;rw[e1,E,G,I,J,IntWalk.i64_in _ ⟨oJ,oJ⟩,IntWalk.i64_in _ ⟨oJ,oJ⟩];exact⟨oJ,oJ,this⟩
abbrev AC (t:Int):Prop:=0<=t/\t<=7
end
section
open Go Go.Pt List
open Go.IntKind (wrap)
attribute [local irreducible] ld dL gZ mP i3 fc st new idx i4 jg fB jk iO lS gB nn call dZ inv run eW iC join loop held ext jU eH mv mp mA IntKind.wrap
variable {B F F1 F2 S X:Ik} {K:Int->WP} {L:Ip} {T:If} {Z:List Ie} {body c l t:Il} {cs:Array Ie} {db:Option Addr} {defb fb mb pb r:Nat} {f:List (Int×Ie)} {n q:Int} {s sl sn:Sl} {w w' w0:Ic}
def eK (n:Nat):Nat:=if n=0 then 0 else (n-1) / 124+1
def qrI{n:Nat}(E:n<=1000000)(h:K (eK n) w):cW 141 [.i n] di w K:=by
 refine qm4 ?_;apply cD<;>intro u;have:=u;have C:n=0:=oJ;subst C;exact h;have:=u;have C:n≠0:=oJ;rw[eK,iN C] at h;rw[gi ((n:Int)-1) oJ];have e:Int.tdiv ((n:Int)-1) 124=(((n-1) / 124:Nat):Int):=(by rw[HY oJ];omega);rw[e,gi (((n-1) / 124:Nat):Int) oJ,gi ((((n-1) / 124:Nat):Int)+1) oJ];exact h
def iD:Int->Il->Bool
 | _,[]=>true
 | a,x::r=>decide (a<x)&&iD x r
def qs3{K:Bool->WP}(h:Rd S w s l)(V:l.length<=1000000)(G:K (iD 1 l) w): cW 206 [s.v] dj w K:=by
 refine qlM ?_;have R:=h.1;refine iX (λx w'=>w'=w/\∃i:Nat,x.2=i/\i<=l.length/\iD x.1 (l.drop i)=iD 1 l) (λx _=>((l.length:Int)-x.2).toNat) ⟨rfl,0,rfl,oJ,oL⟩ ?_;rintro⟨a,ii⟩ w' ⟨rfl,i,E,hi,C⟩ X U;simp only at E C;subst E;apply cD<;>intro I;have u:i<l.length:=oJ;refine Rd.at h i rfl (zA u) ?_;rw[zX u,iD] at C;apply cD<;>intro J;have:=J;rw[show decide (a<l[i])=false by rw[H6];omega,Bool.false_and] at C;rw[<- C] at G;exact G;have:=J;rw[show decide (a<l[i])=true by rw[yM];omega,Bool.true_and] at C;rw[gi _ oJ];exact U _ _ ⟨rfl,i+1,oL,oJ,C⟩ oN;have u:i=l.length:=oJ;subst u;rw[drop_length] at C;rw[<- C] at G;exact G
def qzQ(n:Int):gw n 0=wrap .u8 n:=by
 unfold gw;have:Int.fdiv n (2^min (8*0) 32)=n:=by show Int.fdiv n (2^0)=n;simp
 rw[this]
def qqQ{K:Sl->WP}(h:fR w s l B)(hl:l.length<=1000000)(hk:∀C B' w',fR w' C (l++be n 4) B'->Fr B w w'->(∀b∈B',b∈B\/w.heap.size<=b)->K C w'): new (.cells #[.b (wrap .u8 (Int.fdiv n (2^24))),.b (wrap .u8 (Int.fdiv n (2^16))),.b (wrap .u8 (Int.fdiv n (2^8))),.b (wrap .u8 n)] 5) w λr w2=> Pt.run dh ((Builtin.append_ #[101,101] 101 #[s.v,.slice (pW r) 4 4]).run prog w2) λC w'=>K C w':=by obtain⟨i5,E,hz,G,I⟩:=uE;refine oB (oE [] w) λr w1 e1 J ho=>?_;have R:be n 4=[gw n 3,gw n 2,gw n 1,gw n 0]:=rfl;have ae:=J.size;refine eU.j1 (ys:=be n 4) (e:=5) (h.q7 J) lc oK E hz G rfl (.ofSlice _ (e':=5) oK _ 4 4 _ (by rw[rm];simp[ko]) (λj u V=>?_) λu hu=>?_) (ko n 4).symm (by rw[I];omega) oJ λC B' w' g1 g2 g3 _=>?_;rw[Addr.q9,jp (ho.at (i:=0) rfl),xR];rw[rm,R,qzQ] at V;rw[List.getElem?_toArray];exact V;rw[rm] at hu;obtain⟨x,_,rfl⟩:=mem_map.1 hu;rfl;refine hk C B' w' g1 ((J.mono λi E _=>by cases E).j8 g2 λb U=>.inl U) λb U=>?_;rcases g3 b U with h|h;exact .inl h;exact .inr oJ
def qut{K:Sl->WP}(h:fR w s l B)(E:l.length<=1000000)(G:∀C B' w',fR w' C (l++be n 4) B'->Fr B w w'->(∀b∈B',b∈B\/w.heap.size<=b)->K C w'): cW 208 [s.v,.u n] dh w K:=by exact qn5<|qqQ h E G
def FP{A B:Int}(k:Nat)(G:0<=A)(C:A%2^k=0)(I:0<=B)(h:B<2^k)(J:A+B<4294967296):bits .or .u32 A B=A+B:=by
 obtain⟨a,rfl⟩:∃a:Nat,A=a:=⟨A.toNat,oJ⟩;obtain⟨b,rfl⟩:∃b:Nat,B=b:=⟨B.toNat,oJ⟩;have E:a%2^k=0:=by have:((a:Int)%((2^k:Nat):Int))=0:=(by rw[Int.natCast_pow];exact C);omega
 have u:b<2^k:=(by have:(b:Int)<((2^k:Nat):Int):=(by rw[Int.natCast_pow];exact h);omega);obtain⟨q,rfl⟩:∃q,a=2^k*q:=⟨a / 2^k,by have:=Nat.div_add_mod a (2^k);omega⟩;show wrap .u32 ((BitVec.ofInt 32 ((2^k*q:Nat):Int)||| BitVec.ofInt 32 (b:Int)).toNat:Nat)=_;rw[BitVec.toNat_or,BitVec.ofInt_natCast,BitVec.ofInt_natCast,BitVec.toNat_ofNat,BitVec.toNat_ofNat,Nat.mod_eq_of_lt (show 2^k*q<2^32 by omega),Nat.mod_eq_of_lt (show b<2^32 by omega),<- Nat.two_pow_add_eq_or_of_lt u];rw[nD _ oJ];omega
def oS (a b c d:Int):Int:=bits .or .u32 (bits .or .u32 (bits .or .u32 (wrap .u32 (wrap .u32 a*2^24)) (wrap .u32 (wrap .u32 b*2^16))) (wrap .u32 (wrap .u32 c*2^8))) (wrap .u32 d)
def qsm{a b c d:Int}(h:0<=a/\a<256)(u:0<=b/\b<256)(C:0<=c/\c<256)(E:0<=d/\d<256):oS a b c d=((a*256+b)*256+c)*256+d:=by unfold oS;rw[nD a oJ,nD b oJ,nD c oJ,nD d oJ,nD (a*2^24) oJ,nD (b*2^16) oJ,nD (c*2^8) oJ];rw[FP (A:=a*2^24) (B:=b*2^16) 24 oJ oJ oJ oJ oJ];rw[FP (B:=c*2^8) 16 oJ oJ oJ oJ oJ];rw[FP (B:=d) 8 oJ oJ oJ oJ oJ];omega
def qyt(h:0<=n/\n<4294967296):oS (n / 16777216%256) (n / 65536%256) (n / 256%256) (n%256)=n:=by rw[qsm oJ oJ oJ oJ];omega
def fv (l:Il):Int:=oS (l.getD 0 0) (l.getD 1 0) (l.getD 2 0) (l.getD 3 0)
def getD_some{n:Nat}(h:n<l.length):l[n]?=some (l.getD n 0):=by rw[yQ,zA h];rfl
def qw4(h:en S w s l)(J:4<=l.length)(u:K (fv l) w): (idx s 0 1 λa=>ld .b a w λC=>idx s 1 1 λa=>ld .b a w λE=>idx s 2 1 λa=>ld .b a w λG=>idx s 3 1 λa=>ld .b a w λI=>K (oS C E G I) w):=by exact en.at h 0 rfl (getD_some oJ)<|en.at h 1 rfl (getD_some oJ)<|en.at h 2 rfl (getD_some oJ)<|en.at h 3 rfl (getD_some oJ)<|u
def qus(h:en S w s l)(C:4<=l.length)(E:K (fv l) w.drew):cW 211 [s.v] dv w K:=by exact qn4<|qw4 (w:=w.drew) h C E
def qsM{A B:Int}(k:Nat)(G:0<=A)(C:A%2^k=0)(I:0<=B)(h:B<2^k)(J:A+B<4294967296):bits .or .i64 A B=A+B:=by
 obtain⟨a,rfl⟩:∃a:Nat,A=a:=⟨A.toNat,oJ⟩;obtain⟨b,rfl⟩:∃b:Nat,B=b:=⟨B.toNat,oJ⟩;have E:a%2^k=0:=by have:((a:Int)%((2^k:Nat):Int))=0:=(by rw[Int.natCast_pow];exact C);omega
 have u:b<2^k:=(by have:(b:Int)<((2^k:Nat):Int):=(by rw[Int.natCast_pow];exact h);omega);obtain⟨q,rfl⟩:∃q,a=2^k*q:=⟨a / 2^k,by have:=Nat.div_add_mod a (2^k);omega⟩;show wrap .i64 ((BitVec.ofInt 64 ((2^k*q:Nat):Int)||| BitVec.ofInt 64 (b:Int)).toNat:Nat)=_;rw[BitVec.toNat_or,BitVec.ofInt_natCast,BitVec.ofInt_natCast,BitVec.toNat_ofNat,BitVec.toNat_ofNat,Nat.mod_eq_of_lt (show 2^k*q<2^64 by omega),Nat.mod_eq_of_lt (show b<2^64 by omega),<- Nat.two_pow_add_eq_or_of_lt u];rw[gi _ oJ];omega
def kK (l:Il):Int:=l.getD 4 0*256+l.getD 5 0
def jZ (l:Il) (n:Nat):Il:=(List.range n).map λi=>fv (l.drop (6+4*i))
def ic (l:Il):Int×List Int×Int:=
 if l.length<6 then (0,[],2) else
 if fv l=1\/kK l>123\/(l.length:Int)≠6+4*kK l then (0,[],2) else
 if iD 1 (jZ l (kK l).toNat) then (fv l,jZ l (kK l).toNat,0) else (0,[],2)
def qwo{K:Ix->WP}(h:en S w s l)(hB:eI l)(hl:l.length<=100000)(hk:∀s' B w',ln w' s' (ic l).2.1 B->Fr [] w w'->(∀b∈B,w.heap.size<=b)->K ((ic l).1,s',(ic l).2.2) w'): cW 175 [s.v] dF w K:=by
 refine qlK ?_;have I:=h.1;have R:∀ {e:Int} {w':Ic},ic l=(0,[],e)->Fr [] w w'->K (0,dH,e) w':=by
  intro e w' he hf;have:=hk dH [] w' (by rw[he];exact .nil _ _ _) hf oL;rw[he] at this;exact this
 apply dX<;>intro C;have:=zC C;exact R (by rw[ic,iP]) (.refl _ _);have h6:¬l.length<6:=(by have:=zB C;omega);have fd:Fr [] w w.drew:=(Fr.refl _ _).drew;have E:Fr [] w w.drew.drew:=fd.drew;obtain⟨_,b4,o4,ak,aK,al,T4,aL,aa,am⟩:=ee.at h 4 (getD_some (l:=l) (n:=4) oJ);obtain⟨_,b5,o5,an,aM,ao,T5,aN,ab,ap⟩:=ee.at h 5 (getD_some (l:=l) (n:=5) oJ);have g4:al[o4+4]?=some (.b (l.getD 4 0)):=(by have:=H9 (·[0]?) am;simpa using this);have g5:ao[o5+5]?=some (.b (l.getD 5 0)):=(by have:=H9 (·[0]?) ap;simpa using this);have c4:∀ {w':Ic},Fr [] w w'->w'.cell? ⟨b4,o4+Int.toNat 4*1,none⟩=some (.b (l.getD 4 0)):=λf=>by rw[jp (by rw[f.block b4 (eX aa) oL];exact aa)];exact g4
 have c5:∀ {w':Ic},Fr [] w w'->w'.cell? ⟨b5,o5+Int.toNat 5*1,none⟩=some (.b (l.getD 5 0)):=λf=>by rw[jp (by rw[f.block b5 (eX ab) oL];exact ab)];exact g5
 refine qs ak ⟨oJ,oJ⟩<|pB (l.getD 4 0) (c4 fd)<|qs an ⟨oJ,oJ⟩<|pB (l.getD 5 0) (c5 fd)<|qus (w:=w.drew) (S:=S) h oJ<|ky (c5 E) (c4 E) ?_;have r4:0<=l.getD 4 0/\l.getD 4 0<256:=hB _ (yE (getD_some (l:=l) (n:=4) oJ));have r5:0<=l.getD 5 0/\l.getD 5 0<256:=hB _ (yE (getD_some (l:=l) (n:=5) oJ));have ac:bits .or .i64 (wrap .i64 (wrap .i64 (l.getD 4 0)*2^8)) (wrap .i64 (l.getD 5 0))=kK l:=by rw[gi (l.getD 4 0) oJ,gi (l.getD 5 0) oJ,gi (l.getD 4 0*2^8) oJ,qsM 8 oJ oJ oJ oJ oJ];rfl
 have aH:0<=kK l/\kK l<65536:=(by unfold kK;omega);rw[ac];refine gP (λb w'=>b=decide (fv l=1\/kK l>123\/(l.length:Int)≠6+4*kK l)/\w'=w.drew.drew) ?_ ?_;apply dX<;>intro C;exact⟨by rw[zZ (Or.inl (oP C))],rfl⟩;have aq:¬fv l=1:=(oP C);apply cD<;>intro U;exact⟨by rw[zZ (Or.inr (Or.inl (U)))],rfl⟩;have ad:¬kK l>123:=U;refine⟨?_,rfl⟩;rw[gi (4*kK l) oJ,gi (6+4*kK l) oJ,I];by_cases h3:(l.length:Int)=6+4*kK l<;>simp[aq,ad,h3];rintro b w1 ⟨rfl,rfl⟩;refine dX (λC=>R (by rw[ic,iN h6,iP (zC C)]) E) λC=>?_;have V:=zB C;have ae:kK l<=123:=by rcases Int.lt_or_le 123 (kK l) with h|h;exact absurd (Or.inr (Or.inl h)) V;exact h
 have ar:(l.length:Int)=6+4*kK l:=Classical.byContradiction λh=>V (Or.inr (Or.inr h));have pv:ic l=if iD 1 (jZ l (kK l).toNat) then (fv l,jZ l (kK l).toNat,0) else (0,[],2):=by rw[ic,iN h6,iN V]
 obtain⟨n,hn⟩:∃n:Nat,kK l=n:=⟨(kK l).toNat,oJ⟩;rw[hn] at ae ar pv⊢;rw[zJ] at pv;refine iX (λx w'=>∃(i:Nat) (B:Ik),x.2=i/\i<=n/\ln w' x.1 (jZ l i) B/\Fr [] w w'/\∀b∈B,w.heap.size<=b) (λx _=>((n:Int)-x.2).toNat)
  ⟨0,[],rfl,oJ,.nil _ _ _,E,oL⟩ ?_
 rintro⟨s1,ii⟩ w2 ⟨i,B,af,hi,J,f2,n2⟩ X hX;simp only at af J;subst af;apply cD<;>intro C;have ag:i<n:=oJ;rw[gi (4*(i:Int)) oJ,gi (6+4*(i:Int)) oJ];have h2:en S w2 s l:=h.q7 f2;refine ee.part h2 (6+4*i) l.length oL (by rw[I];rfl) oJ oJ λs3 l3 r3 _=>?_;rw[xY] at r3;refine qus r3 (by rw[yB];omega) ?_;have ah:Fr [] w w2.drew:=f2.drew;refine Ei (w:=w2.drew) (B:=B) J (by simp[jZ];omega) λs4 B4 w4 g1 g2 g3=>?_;rw[gi _ oJ];have aZ:=ah.size;refine hX _ _ ⟨i+1,B4,oL,oJ,?_,ah.j8 g2 λb J=>.inr (n2 b J),λb J=>?_⟩ oN;have:jZ l (i+1)=jZ l i++[fv (l.drop (6+4*i))]:=(by simp[jZ,range_succ]);rw[this];exact g1;rcases g3 b J with h|h;exact n2 b h;omega;have ag:i=n:=oJ;subst ag;refine qs3 (S:=[]) (J.jz qZ oL) (by simp[jZ];omega) ?_;apply dX<;>intro hr;have G:¬iD 1 (jZ l i)=true:=(oP hr);exact R (by rw[pv,iN G]) f2;have G:iD 1 (jZ l i)=true:=by simpa using hr
 have:=hk s1 B w2 (by rw[pv,iP G];exact J) f2 n2;rw[pv,iP G] at this;exact this
def tt:Sl->List Ie:=λs=>[s.v]
def qsa:∀x,(tt x).length=1:=λ_=>rfl
def qBn:∃i,prog.info? 101=some i/\i.zero=some (.slice none 0 0)/\i.size=1/\i.bytes=24:=sV oK
def jt (S:Ik) (w:Ic) (s:Sl) (u:List (Il)) (B:Ik):Prop:=
 ∃h:List Sl,eU tt 1 w s h B/\h.length=u.length/\∀(i:Nat) sl l,h[i]?=some sl->u[i]?=some l->en (S++B) w sl l
def jt.nil(S:Ik)(w:Ic):jt S w dH [] []:=⟨[],.nil _ _ _,rfl,λi sl l h=>by simp at h⟩
def jt.q8{S S':Ik}{w w':Ic}{s:Sl}{G:List (Il)}{B:Ik}(h:jt S w s G B)(f:Fr S w w')(I:∀b∈B,b∉S)(C:∀b∈S',b∈S\/w.heap.size<=b):jt S' w' s G B:=by obtain⟨E,J,R,U⟩:=h;refine⟨E,J.q8 f I,R,λi sl l V hl=>(U i sl l V hl).q8 (f.mono λb u _=>zH _ u) λb u=>?_⟩;rcases zD.1 u with u|u;rcases C b u with h|h;exact .inl (zH _ h);exact .inr h;exact .inl (zI _ u)
def jt.push{S:Ik}{w:Ic}{s sl:Sl}{J:List (Il)}{B:Ik}{l:Il}{T:If}{K:Sl->WP}(h:jt S w s J B)(hr:en (S++B) w sl l)(hl:J.length<=1000000)(kk:∀I B' w',jt S w' I (J++[l]) B'->Fr B w w'->(∀b∈B',b∈B\/w.heap.size<=b)->K I w'): Pt.new (.cells #[sl.v] T) w λr w1=>Pt.run dh ((Builtin.append_ #[171,171] 171 #[s.v,.slice (pW r) 1 1]).run prog w1) K:=by
 obtain⟨i,hi,hz,R,U⟩:=qBn;obtain⟨G,h1,V,h3⟩:=h;refine eU.push (e:=101) (x:=sl) h1 qsa (by simp[tt,Value.oneCell']) oK hi hz R rfl rfl (by rw[U];omega) oJ λI B' w' b' f' n'=>kk I B' w' ⟨_,b',by simp[V],λj sj lj C u=>?_⟩ f' n';have hw:∀b∈S++B',b∈S++B\/w.heap.size<=b:=λb E=>by rcases zD.1 E with E|E;exact .inl (zH _ E);rcases n' b E with h|h;exact .inl (zI _ h);exact .inr h
 have hf:Fr (S++B) w w':=f'.mono λb E _=>zI _ E;by_cases hjl:j<G.length;rw[yY hjl] at C;rw[yY oJ] at u;exact (h3 j sj lj C u).q8 hf hw;by_cases hje:j=G.length;subst hje;rw[yX (zM _),Nat.sub_self] at C;rw[V,yX (zM _),Nat.sub_self] at u;simp at C u;subst C u;exact hr.q8 hf hw;rw[yR (by rw[zF];simp;omega)] at C;cases C
def iL (next:Int) (c:Il):Il:=be next 4++[wrap .u8 (Int.fdiv c.length (2^8)),wrap .u8 c.length]++c.flatMap (be · 4)
def gp (numbers y4:Il) (k:Nat):List (Il):=(List.range k).map λi=>iL (y4.getD (i+1) 0) ((numbers.drop (123*i)).take 123)
def gl (numbers y4:Il):List (Il)×Int:=
 if iD 1 numbers=false\/numbers.length>123*y4.length then ([],1) else if ∃p∈y4,p<2 then ([],1) else (gp numbers y4 y4.length,0)
def qyj{K:Ie->WP}(E:∀u C w',Fr [] w w'->(∀S w0 L,dR S w0 w L->dR S w0 w' ((u,.c #[.i n] 3)::(C,.c #[s.v] 172)::L))->K (.func (.func 240) #[] #[dG u,dG C]) w'): cW 207 [s.v,.i n] dw w K:=by exact qlL<|Pt.As<|Pt.As<|E _ _ _ (((Fr.refl [] w).alloc _).alloc _) λS w0 L h=>(h.alloc _).alloc _
def Ba:∀l:Il,(l.flatMap (be · 4)).length=l.length*4
 | []=>rfl
 | x::l=>by rw[yG,zF,ko,Ba l,yH];omega
def qAz(a b:Int):([a,b]:Il).length=2:=rfl
def quY{G:Ik}{sp:Sl}{numbers y4:Il}{K:It->WP}(hn:Rd S w sn numbers)(hp:Rd S w sp y4)(b5:numbers.length<=100000)(b6:y4.length<=100000)(hG:∀b∈G,b<w.heap.size)(hk:∀s' B w',jt G w' s' (gl numbers y4).1 B->Fr [] w w'->(∀b∈B,w.heap.size<=b)->K (s',(gl numbers y4).2) w'): cW 172 [sn.v,sp.v] dm w K:=by
 refine qkx ?_;have bl:=hn.1;have bm:=hp.1;have aX:∀ {w':Ic},gl numbers y4=([],1)->Fr [] w w'->K (dH,1) w':=by
  intro w' he hf;have:=hk dH [] w' (by rw[he];exact .nil _ _) hf oL;rw[he] at this;exact this
 refine oB (oE [] w) λr1 w1 e1 f1 ho=>?_;have bn:Rd S w1 sn numbers:=hn.q7 ho.fr;have bo:Rd S w1 sp y4:=hp.q7 ho.fr;refine gP (λb w'=>b=decide (iD 1 numbers=false\/numbers.length>123*y4.length)/\w'=w1) ?_ ?_;refine qs3 bn oJ ?_;apply dX<;>intro hc;have hr:iD 1 numbers=false:=(oP hc);exact⟨by rw[zZ (Or.inl hr)],rfl⟩;have hr:iD 1 numbers=true:=(oP hc);refine Ii ho 0 rfl sp ⟨?_,rfl⟩;rw[gi (123*(sp.len:Int)) oJ,bl,bm];have e:decide ((numbers.length:Int)>123*(y4.length:Int))=decide (numbers.length>123*y4.length):=by by_cases h:numbers.length>123*y4.length;rw[zZ h,zZ];omega;rw[zU h,zU];omega
 rw[e];by_cases h:numbers.length>123*y4.length<;>simp[hr,h];rintro b w2 ⟨rfl,rfl⟩;refine dX (λhc=>aX (by rw[gl,iP (zC hc)]) ho.fr) λhc=>?_;have aY:=zB hc;refine Ii ho 0 rfl sp<|iX (λx w'=>w'=w2/\∃i:Nat,x.2.2=i/\i<=y4.length/\∀p∈y4.take i,¬p<2) (λx _=>((y4.length:Int)-x.2.2).toNat) ⟨rfl,0,rfl,oJ,oL⟩ ?_;rintro⟨sx,ex,ii⟩ w3 ⟨rfl,i,aZ,hi,ar⟩ X hX;simp only at aZ;subst aZ;dsimp only;apply cD<;>intro hc;have au:i<y4.length:=oJ;refine Rd.at bo i rfl (zA au) ?_;apply cD<;>intro hx;exact aX (by rw[gl,iN aY,iP ⟨y4[i],zW au,hx⟩]) ho.fr;rw[gi _ oJ];refine hX _ _ ⟨rfl,i+1,oL,oJ,λp hp=>?_⟩ oN;rw[yF au] at hp;rcases zD.1 hp with hp|hp;exact ar p hp;simp at hp;subst hp;exact hx;have au:i=y4.length:=oJ;subst au;rw[xY] at ar;have bv:gl numbers y4=(gp numbers y4 y4.length,0):=by rw[gl,iN aY,if_neg];rintro⟨p,hp,h2⟩;exact ar p hp h2
 rw[bv] at hk;refine oB ho λro w4 eo fo ho=>Ii ho 1 rfl sp<|qyj λrp rl w5 f5 a0=>?_;have bx:=a0 _ _ _ ho;refine dR.jU (lb:=[dG rp,dG rl]) bx rfl oK λDm l R Bz J E E0 w6 el eD b8 a1 hy=>qiT<|Ii a1 2 rfl sp.len<|iX (λx w'=>∃(j:Nat) (cl so:Sl) (Bo:Ik),x=j/\j<=y4.length/\Rd [] w cl (numbers.drop (123*j))/\jt ([l,Dm,rp,rl,ro,r1]++G) w' so (gp numbers y4 j) Bo/\(∀b∈Bo,w.heap.size<=b/\b∉[l,Dm,rp,rl,ro,r1])/\
   dR [] w w' [(l,R),(Dm,.deferred (some [])),(rp,.c #[.i sp.len] 3),(rl,.c #[cl.v] 172),(ro,.c #[so.v] 171),(r1,.c #[sp.v] 172)]) (λx _=>((y4.length:Int)-x).toNat)
  ⟨0,sn,dH,[],rfl,oJ,hn.j6 (λb C=>by cases C),.nil _ _,oL,a1⟩ ?_
 rintro x w7 ⟨j,cl,so,Bo,rfl,hj,aL,av,ao,ac⟩ X hX;have al:∀b∈Bo,b∉[l,Dm,rp,rl,ro,r1]++G:=λb C U=>by
  rcases zD.1 U with U|U;exact (ao b C).2 U;have:=hG b U;have:=(ao b C).1;omega
 have bA:=aL.1;rw[yB] at bA;apply cD<;>intro hc
 ·have cc:j<y4.length:=oJ;refine Ii ac 3 rfl cl<|Ii ac 3 rfl cl ?_;obtain⟨m,U,ab⟩:∃m:Nat,(if (123:Int)<(cl.len:Int) then 123 else (cl.len:Int))=m/\m=Nat.min 123 cl.len:=(by by_cases h:123<cl.len;exact⟨123,by rw[iP];rfl,(xQ oJ).symm⟩;exact⟨cl.len,by rw[iN],(Nat.min_eq_right oJ).symm⟩);rw[U];have bB:m<=123:=(by rw[ab];exact Nat.min_le_left _ _);have bW:m<=cl.len:=(by rw[ab];exact Nat.min_le_right _ _);refine ee.part aL 0 m rfl rfl oJ (by rw[yB];omega) λcs bX aD _=>?_;rw[xE] at aD;have am:(numbers.drop (123*j)).take m=(numbers.drop (123*j)).take 123:=(by by_cases h:123<cl.len;rw[ab];congr 1;exact xQ oJ;have:m=cl.len:=(by rw[ab];exact Nat.min_eq_right oJ);rw[this,zS (by rw[yB];omega),zS (by rw[yB];omega)]);generalize bC:(numbers.drop (123*j)).take m=chunk at aD am;have a2:chunk.length=m:=(by rw[<- bC,yK,yB];omega);have aJ:cs.len=m:=oJ;refine hy ((j:Int),cs) w7 _ (ac.at (i:=0) rfl) ?_;dsimp only;refine⟨ac.at (i:=0) rfl,?_⟩;have I:=ac.gS (o':=Bz) 0 rfl;have V:=I.vg [];have a3:Rd [] (Pt.gS w7 l Bz) sp y4:=(hp.j6 λb C=>by cases C).q7 I.fr;have aw:jt ([l,Dm,rp,rl,ro,r1]++G) (Pt.gS w7 l Bz) so (gp numbers y4 j) Bo:=av.q8 ((sD (eX (ac.at (i:=0) rfl)) Bz).mono λb C _=>by simp at C;subst C;simp) al λb C=>.inl C;have a4:=av.choose_spec.1.lt;refine gP (λx w'=>x=y4.getD (j+1) 0/\w'=Pt.gS w7 l Bz) ?_ ?_;refine Ii V 5 rfl sp ?_;rw[gi ((j:Int)+1) oJ];apply cD<;>intro aM;have h2:j+1<y4.length:=oJ;exact Ii V 5 rfl sp<|Rd.at a3 (j+1) oJ (getD_some h2)<|⟨rfl,rfl⟩;have h2:¬j+1<y4.length:=oJ;exact⟨by rw[yQ,yR oJ];rfl,rfl⟩;rintro x w8 ⟨rfl,rfl⟩;generalize bD:y4.getD (j+1) 0=next
  have hW:(Pt.gS w7 l Bz).heap.size=w7.heap.size:=tI _ _ _;generalize ce:Pt.gS w7 l Bz=w8 at I V a3 hW aw;have bY:Rd [] w8 cs chunk:=aD.q7 I.fr;have an:∀p∈[l,Dm,rp,rl,ro,r1],p<w8.heap.size:=λp hp=>by have ap:=λ(k:Nat) (q:Nat×Obj) (hq:_[k]?=some q)=>eX (I.at (i:=k) hq);simp only[zG,xW,or_false] at hp;rcases hp with rfl|rfl|rfl|rfl|rfl|rfl;exact ap 0 _ rfl;exact ap 1 _ rfl;exact ap 2 _ rfl;exact ap 3 _ rfl;exact ap 4 _ rfl;exact ap 5 _ rfl
  obtain⟨i5,bE,bF,a5,a6⟩:=uE;refine qut (s:=dH) (l:=[]) (B:=[]) (.nil _ _ _) oL λs9 B9 w9 b9 f9 n9=>?_;rw[xH] at b9;have V:=V.q7 f9;refine oB V λr2 ch ci a7 V=>?_;have aO:∀b∈B9,w8.heap.size<=b:=λb C=>by rcases n9 b C with h|h;cases h;exact h
  refine eU.j1 (ys:=[wrap .u8 (Int.fdiv chunk.length (2^8)),wrap .u8 chunk.length]) (e:=5) (b9.q7 a7) lc oK bE bF a5 rfl (.ofSlice _ (e':=5) oK _ 2 2 _ (by rw[rm];rfl) (λq u hq=>?_) λu hu=>?_) rfl (by rw[a6,ko];decide) (by rw[ko];decide) λcj a8 ck bH bI bJ _=>?_;rw[Addr.q9,jp (V.at (i:=0) rfl),xR,aJ,<- a2];rw[rm] at hq;rw[List.getElem?_toArray];exact hq;rw[rm] at hu;obtain⟨x,_,rfl⟩:=mem_map.1 hu;rfl;have cm:=f9.size;have b1:=a7.size;have bK:=b9.lt;have V:=(V.sub (H0 _ _)).q8 bI (λb C=>.inr (aO b C)) (λp hp C=>by have h1:=an p.1 (zY (f:=(·.1)) hp);have h2:=aO _ C;omega);have a9:∀b∈a8,w8.heap.size<=b:=λb C=>by rcases bJ b C with h|h;exact aO b h;omega
  refine iX (λx w'=>∃(q:Nat) (Bq:Ik),x.2=q/\q<=m/\fR w' x.1 (be next 4++[wrap .u8 (Int.fdiv chunk.length (2^8)),wrap .u8 chunk.length]++(chunk.take q).flatMap (be · 4)) Bq/\(∀b∈Bq,w8.heap.size<=b)/\
    dR ([l,Dm,rp,rl,ro,r1]++[]) w8 w' [(l,Bz),(Dm,.deferred (some [])),(rp,.c #[.i sp.len] 3),(rl,.c #[cl.v] 172),(ro,.c #[so.v] 171),(r1,.c #[sp.v] 172)]) (λx _=>((m:Int)-x.2).toNat)
   ⟨0,a8,rfl,oJ,by simpa using bH,a9,V⟩ ?_
  rintro⟨bM,qq⟩ aP ⟨q,Bq,a',cn,bq,nq,hq⟩ Y hY;simp only at a' bq;subst a';dsimp only;rw[aJ];apply cD<;>intro aQ
  ·have ax:q<chunk.length:=oJ;have aR:Rd [] aP cs chunk:=aD.q7 (I.vZ (T:=[]) oL hq.fr);refine Rd.at aR q rfl (zA ax) ?_;have aT:(be next 4++[wrap .u8 (Int.fdiv chunk.length (2^8)),wrap .u8 chunk.length]++(chunk.take q).flatMap (be · 4)).length<=1000000:=(by rw[zF,zF,ko,Ba,yK,qAz];omega);refine qut bq aT λba aE aF aU aV aW=>?_;rw[gi _ oJ];refine hY _ _ ⟨q+1,aE,oL,oJ,?_,λb C=>?_,hq.q8 aV (λb C=>.inr (nq b C)) λp hp C=>?_⟩ oN;rw[yF ax,yP,flatMap_singleton,<- zV];exact aU;rcases aW b C with h|h;exact nq b h;exact zL hq.fr.size h;have h1:=an p.1 (zY (f:=(·.1)) hp);have h2:=nq _ C;omega
  ·have bN:q=m:=oJ;subst bN;rw[zS oJ] at bq;refine Ii hq 4 rfl so ?_;have bb:en (([l,Dm,rp,rl,ro,r1]++G)++Bo) aP bM (iL next chunk):=bq.jz lc λb C U=>by
    have h2:=nq _ C;rcases zD.1 U with U|U;rcases zD.1 U with U|U;have:=an b U;omega;have:=hG b U;have:=I.fr.size;omega;have:=a4 b U;omega
   have aG:jt ([l,Dm,rp,rl,ro,r1]++G) aP so (gp numbers y4 j) Bo:=aw.q8 (hq.fr.mono λb C _=>by rw[xG] at C;exact zH _ C) al λb C=>.inl C;refine jt.push aG bb (by rw[gp,zK,length_range];omega) λba aE aF aU aV aW=>?_;have ay:=(I.wt (T:=[]) oL hq).q8 aV (λb C=>.inr (ao b C).1) λp hp C=>(ao _ C).2 (zY (f:=(·.1)) hp);refine oD ay 4 rfl _ λcp ay bO=>⟨ay.at (i:=0) rfl,?_⟩;have ax:=ay.gS (o':=R) 0 rfl;refine HM rfl<|Ii ax 3 rfl cl<|ee.part aL q (numbers.drop (123*j)).length rfl (by rw[yB];show (cl.len:Int)=_;omega) (by rw[yB];omega) (zM _) λcr b3 bc _=>oD ax 3 rfl _ λbP bQ bR=>?_;rw[gi _ oJ];have az:∀b∈aE,w.heap.size<=b/\b∉[l,Dm,rp,rl,ro,r1]:=λb C=>by
    rcases aW b C with h|h;exact ao b h;have h1:=hq.fr.size;refine⟨?_,λU=>?_⟩;have:=I.fr.size;omega;have:=an b U;omega
   have ff:Fr [l,Dm,rp,rl,ro,r1] aF bP:=
    (bO.mono λb C _=>by simp at C;subst C;simp).j8 ((sD (eX (ay.at (i:=0) rfl)) R).mono (T:=[l,Dm,rp,rl,ro,r1]) λb C _=>by simp at C;subst C;simp) (λb C=>.inl C) |>.j8 (bR.mono (T:=[l,Dm,rp,rl,ro,r1]) λb C _=>by simp at C;subst C;simp) (λb C=>.inl C)
   have aH:=aU.q8 (ff.mono λb C _=>zH _ C) (λb C U=>by
    rcases zD.1 U with U|U;exact (az b C).2 U;have:=hG b U;have:=(az b C).1;omega) (λb C=>.inl C)
   have bd:((numbers.drop (123*j)).take (numbers.drop (123*j)).length).drop q=numbers.drop (123*(j+1)):=(by rw[xY,xC];by_cases h:123<cl.len;rw[show q=123 by rw[ab];exact xQ oJ,Nat.mul_add];have:q=cl.len:=(by rw[ab];exact Nat.min_eq_right oJ);rw[vD oJ,vD oJ]);rw[bd] at bc;have aT:gp numbers y4 (j+1)=gp numbers y4 j++[iL next chunk]:=(by rw[gp,range_succ,xM,map_singleton,bD,<- am];rfl);refine hX _ _ ⟨j+1,cr,ba,aE,oL,oJ,bc,by rw[aT];exact aH,az,bQ⟩ oJ
 have bS:j=y4.length:=oJ;subst bS;refine .inl ⟨ac.at (i:=0) rfl,?_⟩;have I:=ac.gS (o':=E0) 0 rfl;refine Ii I 4 rfl so<|dR.eH I.lz 1 rfl λaF hd=>?_;have bT:jt ([l,Dm,rp,rl,ro,r1]++G) (Pt.gS w7 l E0) so (gp numbers y4 y4.length) Bo:=av.q8 ((sD (eX (ac.at (i:=0) rfl)) E0).mono λb C _=>by simp at C;subst C;simp) al λb C=>.inl C;exact hk so Bo aF (bT.q8 (S':=G) (hd.fr.mono λb C _=>zH _ C) al λb C=>.inl (zI _ C)) (I.back hd.fr) (λb C=>(ao b C).1)
def eS (q:Int) (t:Il):List Ie:=.w q::t.map (Value.int .u32)
def gr (q:Int) (t:Il):Il:=be (wrap .u32 (Int.fdiv q (2^32))) 4++be (wrap .u32 q) 4++t.flatMap (be · 4)
def zu(h:t.length=27):(gr q t).length=116:=by rw[gr,zF,zF,ko,ko,Ba,h]
def pS(h:t.length=27):(eS q t).length=28:=by simp[eS,h]
def A2(n:Nat)(h:n<t.length):(eS q t).toArray[n+1]?=some (.u (t.getD n 0)):=by simp[eS,yQ,zA h]
def DC(q:Int)(t:Il):((eS q t).all Value.oneCell')=true:=by rw[HX];intro v h;rcases zG.1 h with rfl|h;rfl;obtain⟨x,_,rfl⟩:=mem_map.1 h;rfl
def qr1{α:Type}{enc:α->List Ie}{k:Nat}{l:List α}(h:eU enc k w s l B):eU enc k w.drew s l B:=h
def nC (w0:Ic) (L:Ip) (B:Ik):Prop:=∀b∈B,w0.heap.size<=b/\b∉L.map (·.1)
def nC.cons{o:Obj}(h:nC w0 L B)(E:r∉B):nC w0 ((r,o)::L) B:=λb u=>⟨(h b u).1,λC=>by rcases zG.1 C with rfl|C;exact E u;exact (h b u).2 C⟩
def nC.tail{p:Nat×Obj}(h:nC w0 (p::L) B):nC w0 L B:=λb u=>⟨(h b u).1,λC=>(h b u).2 (zN _ C)⟩
def Hc{j:Nat}(h:j+3<=l.length):l.drop j=l.getD j 0::l.getD (j+1) 0::l.getD (j+2) 0::l.drop (j+3):=by rw[zX oJ,zX (i:=j+1) oJ,zX (i:=j+1+1) oJ];simp only[yQ];rw[zA (show j<l.length by omega),zA (show j+1<l.length by omega),zA (show j+2<l.length by omega)];rfl
def qE{j:Nat}(h:j+3<=l.length):l.take (j+3)=l.take j++[l.getD j 0,l.getD (j+1) 0,l.getD (j+2) 0]:=by rw[take_add,Hc h];rfl
def qBA{j:Nat}(h:j+3<=l.length):(l.map (Value.int .u32)).extract j (j+3)=[.u (l.getD j 0),.u (l.getD (j+1) 0),.u (l.getD (j+2) 0)]:=by rw[extract_eq_take_drop,<- xP,Hc h,show j+3-j=3 by omega];rfl
def wc{K:Sl->WP}(G:dR [] w0 w L)(h:fR w s l B)(I:nC w0 L B)(U:l.length<=1000000)(V:∀E B' w',dR [] w0 w' L->fR w' E (l++be n 4) B'->nC w0 L B'->K E w'): cW 209 [s.v,.u n] dh w K:=by
 refine qte<|qqQ h U λE B' w' b' f' n'=>V E B' w' (G.q8 f' (λb C=>.inr (I b C).1) λp J C=>(I _ C).2 (zY J)) b' λb C=>?_;rcases n' b C with R|R;exact I b R;refine⟨zL G.fr.size R,λhm=>?_⟩;obtain⟨p,J,rfl⟩:=mem_map.1 hm
 have:=eX (G.eJ p J);omega
def qwB{K:Sl->WP}(hv:Hv w)(J:t.length=27)(hk:∀b T w',w'.heap[b]?=some (.c (fS (eG (wrap .u32 (Int.tmod q 2)) 1 (gr q t))) T)->Fr [] w w'->w.heap.size<=b->K ⟨pW b,512,512⟩ w'): cW 173 [.agg (eS q t).toArray] dh w K:=by
 refine qpK<|oB (oE [] w) λr1 w1 e1 f1 C=>?_;have c0:(eS q t).toArray[0]?=some (.w q):=rfl;have I:=λn (h:n<27)=>A2 (q:=q) (t:=t) n oJ;refine oA C.drew 0 rfl q c0<|oA C.drew 0 rfl q c0<|wc (s:=dH) (l:=[]) (B:=[]) C.drew (.nil _ _ _) (λb E=>by cases E) oL λs5 B5 w6 C b5 R=>ik (C.cell (off:=0) 0 rfl c0)<|wc C b5 R (by simp[ko]) λs8 B8 w9 C b8 n8=>oA C.drew 0 rfl (t.getD 0 0) (I 0 oM)<|oA C.drew 0 rfl (t.getD 1 0) (I 1 oM)<|oA C.drew 0 rfl (t.getD 2 0) (I 2 oM)<|wc C.drew (qr1 b8) n8 (by simp[ko]) λaC aD aE C ad ae=>ky (C.cell (off:=3) 0 rfl (I 2 oM)) (C.cell (off:=2) 0 rfl (I 1 oM))<|wc C ad ae (by simp[ko]) λaF aG aH C af ag=>ik (C.cell (off:=3) 0 rfl (I 2 oM))<|wc C af ag (by simp[ko]) λaI ah aJ C U ai=>?_;have hr:((eS q t).toArray.toList.drop 4).take 24=(t.drop 3).map (Value.int .u32):=by show (List.drop 3 (t.map (Value.int .u32))).take 24=_;rw[xP,zS (by rw[yB,zK,J];decide)]
 refine nP (C.at (i:=0) rfl) ((t.drop 3).map (Value.int .u32)) (by rw[zK,yB,J]) hr ?_;have aj:(t.drop 3).length=24:=(by rw[yB,J]);have ak:t=[t.getD 0 0,t.getD 1 0,t.getD 2 0]++t.drop 3:=by
  have:=Hc (l:=t) (j:=0) oJ;rw[xE] at this;exact this
 have base:[]++be (wrap .u32 (Int.fdiv q (2^32))) 4++be (wrap .u32 q) 4++be (t.getD 0 0) 4++be (t.getD 1 0) 4++be (t.getD 2 0) 4=be (wrap .u32 (Int.fdiv q (2^32))) 4++be (wrap .u32 q) 4++[t.getD 0 0,t.getD 1 0,t.getD 2 0].flatMap (be · 4):=oL;rw[base] at U;refine iX (λx w'=>∃(i:Nat) (B:Ik),x.2=i/\i<=8/\fR w' x.1 (be (wrap .u32 (Int.fdiv q (2^32))) 4++be (wrap .u32 q) 4++[t.getD 0 0,t.getD 1 0,t.getD 2 0].flatMap (be · 4)++((t.drop 3).take (3*i)).flatMap (be · 4)) B/\dR [] w w' [(r1,.c (eS q t).toArray 185)]/\nC w [(r1,.c (eS q t).toArray 185)] B) (λx _=>(8-x.2).toNat)
  ⟨0,ah,rfl,oJ,by simpa using U,C,ai⟩ ?_
 rintro⟨s,ii⟩ w2 ⟨i,B,V,aL,G,C,nb⟩ X hX;simp only at V G;subst V;dsimp only;have ao:(be (wrap .u32 (Int.fdiv q (2^32))) 4++be (wrap .u32 q) 4++[t.getD 0 0,t.getD 1 0,t.getD 2 0].flatMap (be · 4)++((t.drop 3).take (3*i)).flatMap (be · 4)).length<=200:=by rw[zF,zF,zF,ko,ko,Ba,Ba,yK,aj];show 4+4+3*4+_<=200;omega
 apply cD<;>intro hc;have hi:i<8:=oJ;refine m8 ⟨oJ,oJ⟩ ?_;have h3:3*i+3<=(t.drop 3).length:=oJ;refine qzW ((t.drop 3).getD (3*i) 0,(t.drop 3).getD (3*i+1) 0,(t.drop 3).getD (3*i+2) 0) ?_ ?_;have:=qBA h3;rw[show Int.toNat (i:Int)*3=3*i by simp;omega];exact this;refine oB C λr2 w3 e3 f3 u=>oD u 0 rfl _ λw4 u f4=>?_;have am:=G.lt;have aa:r2∉B:=λE=>by have:=am _ E;omega
 have G:=(G.q7 f3).q8 f4 (λb E hm=>by simp only[zE] at hm;subst hm;exact aa E);refine Ii u.drew 0 rfl ((t.drop 3).getD (3*i) 0)<|Ii u.drew 0 rfl ((t.drop 3).getD (3*i+1) 0)<|Ii u.drew 0 rfl ((t.drop 3).getD (3*i+2) 0)<|wc u.drew (qr1 G) (nb.cons aa) oJ λs5 B5 w5 u b5 R=>ky (u.cell (off:=2) 0 rfl rfl) (u.cell (off:=1) 0 rfl rfl)<|wc u b5 R (by rw[zF,ko];omega) λs6 B6 w6 u b6 n6=>ik (u.cell (off:=2) 0 rfl rfl)<|wc u b6 n6 (by rw[zF,zF,ko,ko];omega) λs7 B7 w7 u b7 n7=>?_;rw[gi _ oJ];refine hX _ _ ⟨i+1,B7,oL,oJ,?_,u.sub (H0 _ _),n7.tail⟩ oN;rw[show 3*(i+1)=3*i+3 by omega,qE h3,yP];have e:([(t.drop 3).getD (3*i) 0,(t.drop 3).getD (3*i+1) 0,(t.drop 3).getD (3*i+2) 0]:Il).flatMap (be · 4)=be ((t.drop 3).getD (3*i) 0) 4++be ((t.drop 3).getD (3*i+1) 0) 4++be ((t.drop 3).getD (3*i+2) 0) 4:=oL;rw[e];simpa only[zV] using b7;obtain rfl:i=8:=by omega
 rw[zS oJ,zV,<- yP,<- ak] at G;refine oA C 0 rfl q c0 ?_;have E:=G.jz (S:=[]) lc oL;refine Em E (hv.q7 C.fr) (by show (gr q t).length<=_;rw[zu J];decide) (λh=>?_) λ_ b T w5 h5 f5 R=>?_;have h':500<(gr q t).length:=h;rw[zu J] at h';exact absurd h' oM;exact hk b T w5 h5 (C.fr.j8 f5 oL) (zL C.fr.size R)
def vp(J:dR [] w0 w L)(i:Nat)(hi:L[i]?=some (r,.c #[s.v] 101))(h:en [] w0 s l)(R:4<=l.length)(U:∀E w',en [] w0 E (l.drop 4)->dR [] w0 w' (L.set i (r,.c #[E.v] 101))->K (fv l) w'): dZ prog (.func (.func 259) #[] #[dG r]) [] dv w K:=by refine rZ (lb:=[dG r]) rfl oK<|qlY ?_;have C:=J.drew;have G:en [] w.drew s l:=h.q7 C.fr;exact oA C i hi s rfl<|en.at G 0 rfl (getD_some oJ)<|oA C i hi s rfl<|en.at G 1 rfl (getD_some oJ)<|oA C i hi s rfl<|en.at G 2 rfl (getD_some oJ)<|oA C i hi s rfl<|en.at G 3 rfl (getD_some oJ)<|oA C i hi s rfl<|ee.drop h 4 rfl R oJ λE V=>oH C i hi _ rfl rfl rfl λw' I _=>U E w' V I
def iu (l:Il):Int:=bits .or .u64 (wrap .u64 (wrap .u64 (fv l)*2^32)) (wrap .u64 (fv (l.drop 4)))
def lE (l:Il):Il:=(List.range 27).map λi=>fv (l.drop (8+4*i))
def tf(l:Il):(lE l).length=27:=by simp[lE]
def li (q:Int) (f:Nat->Int) (n:Nat):Array Ie:=(eS q ((List.range n).map f++zs (27-n))).toArray
def qoP{x y:Int}{A Z:Il}:dS (eS q (A++x::Z)).toArray (A.length+1) [.u y]=(eS q (A++y::Z)).toArray:=by
 apply Array.ext';have:=FY (.w q::A.map (Value.int .u32)) [Value.int .u32 x] [Value.int .u32 y] (Z.map (Value.int .u32)) rfl;rw[pX _ _ _ (by simp[eS])];simpa[eS] using this
def Ad{f:Nat->Int}{n:Nat}(h:n<27):dS (li q f n) (n+1) [.u (f n)]=li q f (n+1):=by
 have C:zs (27-n)=0::zs (27-(n+1)):=by rw[show 27-n=(27-(n+1))+1 by omega];rfl
 have:=qoP (q:=q) (x:=0) (y:=f n) (A:=(List.range n).map f) (Z:=zs (27-(n+1)));rw[zK,length_range] at this;rw[li,C,this,li,range_succ,xM,zV];rfl
def qx0{h:Int}{f:Nat->Int}{n:Nat}:dS (li q f n) 0 [.w h]=li h f n:=by apply Array.ext';rw[pX _ _ _ (by simp[li,eS])];simp[li,eS]
def yo{f:Nat->Int}{n:Nat}(h:n<=27):(li q f n).size=28:=by simp[li,eS,ot];omega
def qxZ{f:Nat->Int}:li q f 27=(eS q ((List.range 27).map f)).toArray:=by show (eS q ((List.range 27).map f++[])).toArray=_;rw[xG]
def qwA{K:List Ie->WP}(h:en S w s l)(hl:l.length=116)(hk:∀w',Fr [] w w'->K (eS (iu l) (lE l)) w'): cW 241 [s.v] [.jX] w K:=by
 refine qpL ?_;have h0:en [] w s l:=h.j6 oL;have R:((prog.info? 185).bind (·.zero)).map (λz=>z.cells.toList)=some (eS 0 (zs 27)):=oK;refine oB (oE [] w) λr1 w1 e1 f1 u=>oI u R λr3 w2 e3 u=>oI u R λE w3 e5 u=>vp u 2 rfl h0 oJ λs1 w4 h1 u=>?_;have G:∀(q:Int),(eS q (zs 27)).toArray=li q (λi=>fv (l.drop (8+4*i))) 0:=λq=>rfl;refine oG u 0 rfl (li (wrap .u64 (wrap .u64 (fv l)*2^32)) (λi=>fv (l.drop (8+4*i))) 0) ?_ rfl ?_ λw5 u _=>?_;rw[G 0];exact qx0;exact zO rfl;refine oA u.drew 0 rfl (wrap .u64 (wrap .u64 (fv l)*2^32)) rfl<|vp u.drew 2 rfl h1 (by rw[yB];omega) λs2 w6 U u=>ik (u.cell (off:=0) 0 rfl rfl)<|oG u 0 rfl (li (iu l) (λi=>fv (l.drop (8+4*i))) 0) qx0 rfl (zO rfl) λw7 u _=>?_;rw[xC] at U;refine vp u 2 rfl U (by rw[yB];omega) λs3 w8 V u=>oG u 0 rfl (li (iu l) (λi=>fv (l.drop (8+4*i))) 1) (Ad oM) rfl (by show 1+1<=_;rw[yo oM];decide) λw9 u _=>?_;rw[xC] at V;refine vp u 2 rfl V (by rw[yB];omega) λs4 ak h4 u=>oG u 0 rfl (li (iu l) (λi=>fv (l.drop (8+4*i))) 2) (Ad oM) rfl (by show 2+1<=_;rw[yo oM];decide) λal u _=>?_;rw[xC] at h4;refine vp u 2 rfl h4 (by rw[yB];omega) λs5 an h5 u=>oG u 0 rfl (li (iu l) (λi=>fv (l.drop (8+4*i))) 3) (Ad oM) rfl (by show 3+1<=_;rw[yo oM];decide) λao u _=>?_;rw[xC] at h5;refine iX (λx w'=>∃(i:Nat) (I:Sl),x=i/\i<=8/\en [] w I (l.drop (20+12*i))/\
   dR [] w w' [(E,.c (li (iu l) (λi=>fv (l.drop (8+4*i))) (3+3*i)) 185),(r3,.c (eS 0 (zs 27)).toArray 185),(r1,.c #[I.v] 101)]) (λx _=>(8-x).toNat)
  ⟨0,s5,rfl,oJ,h5,u⟩ ?_
 rintro x ap ⟨i,I,rfl,aq,hx,u⟩ X hX;apply cD<;>intro J;have hi:i<8:=oJ;refine m8 ⟨oJ,oJ⟩ ?_;simp only[Addr.q9];have av:Int.toNat (i:Int)=i:=oJ;refine vp u 2 rfl hx (by rw[yB];omega) λs6 C h6 u=>?_;show Pt.st ⟨E,4+Int.toNat (i:Int)*3+0,none⟩ _ _ _;refine oG u 0 rfl (li (iu l) (λi=>fv (l.drop (8+4*i))) (3+3*i+1)) ?_ rfl ?_ λaw u _=>?_;rw[show 20+12*i=8+4*(3+3*i) by omega,show 4+Int.toNat (i:Int)*3+0=(3+3*i)+1 by omega];exact Ad (f:=λi=>fv (l.drop (8+4*i))) oJ;rw[yo oJ];show _+1<=28;omega;rw[xC] at h6;refine vp u 2 rfl h6 (by rw[yB];omega) λs7 ax h7 u=>?_;show Pt.st ⟨E,0+4+Int.toNat (i:Int)*3+1,none⟩ _ _ _;refine oG u 0 rfl (li (iu l) (λi=>fv (l.drop (8+4*i))) (3+3*i+2)) ?_ rfl ?_ λay u _=>?_;rw[show 20+12*i+4=8+4*(3+3*i+1) by omega];show dS _ (0+4+Int.toNat (i:Int)*3+1) _=_;rw[show 0+4+Int.toNat (i:Int)*3+1=(3+3*i+1)+1 by omega];exact Ad (f:=λi=>fv (l.drop (8+4*i))) oJ;rw[yo oJ];show 0+4+Int.toNat (i:Int)*3+1+1<=28;omega;rw[xC] at h7;refine vp u 2 rfl h7 (by rw[yB];omega) λs8 aA h8 u=>?_;show Pt.st ⟨E,0+4+Int.toNat (i:Int)*3+2,none⟩ _ _ _;refine oG u 0 rfl (li (iu l) (λi=>fv (l.drop (8+4*i))) (3+3*i+3)) ?_ rfl ?_ λaB u _=>?_;rw[show 20+12*i+4+4=8+4*(3+3*i+2) by omega];show dS _ (0+4+Int.toNat (i:Int)*3+2) _=_;rw[show 0+4+Int.toNat (i:Int)*3+2=(3+3*i+2)+1 by omega];exact Ad (f:=λi=>fv (l.drop (8+4*i))) oJ;rw[yo oJ];show 0+4+Int.toNat (i:Int)*3+2+1<=28;omega;rw[xC] at h8;rw[gi _ oJ];refine hX _ _ ⟨i+1,s8,oL,oJ,?_,?_⟩ oJ;rw[show 20+12*(i+1)=20+12*i+4+4+4 by omega];exact h8;rw[show 3+3*(i+1)=3+3*i+3 by omega];exact u;obtain rfl:i=8:=by omega
 rw[show 3+3*8=27 from rfl,qxZ] at u;refine nP (u.at (i:=0) rfl) (eS (iu l) (lE l)) (pS (tf l)) (by rw[xE];exact zS (Nat.le_of_eq (pS (tf l))))<|m8 (pS (tf l))<|oG u 1 rfl (eS (iu l) (lE l)).toArray ?_ (DC _ _) ?_ λC u _=>?_;apply Array.ext';rw[pX _ _ _ (by rw[pS (tf l)];decide),pS (tf l),take_zero,xH,HU oM,xG];rw[pS (tf l)];decide;exact nP (u.at (i:=1) rfl) (eS (iu l) (lE l)) (pS (tf l)) (by rw[xE];exact zS (Nat.le_of_eq (pS (tf l))))<|hk C u.fr
def t5:((prog.info? 185).bind (·.zero)).map (λz=>z.cells.toList)=some (eS 0 (zs 27)):=by kernel_rfl
def qv9{P:Ig}{t:If}{z:Ie}{offs:Array (Iu)}(u:(P.info? t).bind (·.zero)=some z)(C:P.underlying t=some (.struct (fieldsOf P t)))(h:∀w,((fieldsOf P t).mapM λf=>do pure (f.offset,<- sizeOf f.type):Sem (Array (Iu))).run P w=.ok offs w)(w:Ic): (Instr.build t #[]).run P w=.ok (.agg z.cells) w:=by simp only[Instr.build,HS,u9 u,HT,run_underlying C,h,Instr.fill,Sem.run_pure]
def za{K:List Ie->Prop}(k:K (eS 0 (zs 27))):eW [gU.jX] (λw'=>(Instr.build 185 #[]).run prog w') w K:=by
 obtain⟨z,u,h⟩:=yS.1 t5;refine qu (ts:=[gU.jX]) (eS 0 (zs 27)) ?_ k;have:=qv9 (P:=prog) (t:=185) (offs:=#[(0,1),(1,1),(2,1),(3,1),(4,24)]) u oK (λw=>oK) w;rw[this];show Result.ok (Value.agg z.cells) w=.ok (Value.agg (eS 0 (zs 27)).toArray) w;rw[<- h]
def k7{vs:List Ie}(h:vs.length=cs.size):dS cs 0 vs=vs.toArray:=by apply Array.ext';rw[pX _ _ _ oJ,take_zero,xH,HU (by rw[Ib];omega),xG]
def CW(h:t.length=27):(eS q t).toArray.size=28:=by rw[size_toArray];exact pS h
def uM{u:Iu}{K:List Ie->Prop}(C:w.heap[r]?=some (.cells (eS q t).toArray T u))(h:t.length=27)(k:K (eS q t)):gZ 28 (dg r) w K:=
 nP C (eS q t) (pS h) (by rw[xE,zS (Nat.le_of_eq (pS h))]) k
def Al{G:Int}{C:Il}{K:WP}(I:dR [] w0 w L)(i:Nat)(hi:L[i]?=some (r,.c (eS G C).toArray T))(E:C.length=27)(h:t.length=27)(J:∀w',dR [] w0 w' (L.set i (r,.c (eS q t).toArray T))->K w'):gB ((eS q t).length=28) (st (dg r) (eS q t) w K):=by refine m8 (pS h)<|oG I i hi (eS q t).toArray (k7 (by rw[CW E,pS h])) (DC _ _) (by rw[CW E,pS h];decide) λw' u _=>J w' u
def ul{I:Int}{E:Il}{K:List Ie->WP}(J:dR [] w0 w L)(i:Nat)(hi:L[i]?=some (r,.c (eS I E).toArray T))(R:E.length=27)(G:t.length=27)(U:∀w',Fr [] w0 w'->K (eS q t) w'):gB ((eS q t).length=28) (st (dg r) (eS q t) w λw'=>gZ 28 (dg r) w' λvs=>K vs w'):=by
 refine Al J i hi R G λw' u=>?_;have C:i<L.length:=by rcases Nat.lt_or_ge i L.length with h|h;exact h;rw[yR h] at hi;cases hi
 exact uM (u.at (i:=i) (by rw[List.getElem?_set_self C])) G (U w' u.fr)
abbrev nI:=Iz
def gy:nI:=(0,zs 27)
def eZ (place:Int) (l:Il):nI×Int:=
 if (eV place l).2.2≠0 then (gy,(eV place l).2.2)
 else if (eV place l).1≠1\/(eV place l).2.1.length≠116 then (gy,2)
 else if Int.tmod (iu (eV place l).2.1) 2≠place then (gy,2)
 else ((iu (eV place l).2.1,lE (eV place l).2.1),0)
def xi(place:Int)(l:Il):(eZ place l).1.2.length=27:=by unfold eZ;split<;>(try rfl);split<;>(try rfl);split<;>rfl
def gQ (a b:Il):nI×Int:=
 if (eZ 0 a).2≠0/\(eZ 1 b).2≠0 then (gy,5)
 else if (eZ 0 a).2≠0\/((eZ 1 b).2=0/\(eZ 1 b).1.1>(eZ 0 a).1.1) then ((eZ 1 b).1,0)
 else ((eZ 0 a).1,0)
def qms(a b:Il):(gQ a b).1.2.length=27:=by unfold gQ;split<;>(try rfl);split<;>exact xi _ _
def qrR{place:Int}{K:List Ie×Int->WP}(h:en S w s l)(hv:Hv w)(hB:eI l)(hl:l.length<=100000)(U:place=0\/place=1)(hk:∀w',Fr [] w w'->K (eS (eZ place l).1.1 (eZ place l).1.2,(eZ place l).2) w'): cW 210 [.i place,s.v] dB w K:=by
 refine qru<|oI (oE [] w) t5 λr1 w1 e1 u=>?_;have V:wrap .u32 place=place:=by rcases U with rfl|rfl<;>kernel_rfl
 have aa:wrap .u64 place=place:=by rcases U with rfl|rfl<;>kernel_rfl
 rw[V,aa];refine gP (λb w'=>b=false/\w'=w1) ?_ ?_;rcases U with rfl|rfl;exact HM rfl ⟨rfl,rfl⟩;exact HK rfl ⟨rfl,rfl⟩;rintro b w2 ⟨rfl,rfl⟩;refine HM rfl ?_;have E:∀ {e:Int} {w':Ic},eZ place l=(gy,e)->Fr [] w w'->K (eS 0 (zs 27),e) w':=by
  intro e w' G hf;have:=hk w' hf;rw[G] at this;exact this
 refine Fe (h.q7 u.fr) (hv.q7 u.fr) hB hl λs3 B3 w3 b3 f3 n3=>?_;have u:=u.q7 f3;apply dX<;>intro C;have G:(eV place l).2.2≠0:=(oP C);exact za<|ul u 0 rfl rfl rfl λw4 f4=>E (by rw[eZ,iP G]) f4;have G:¬(eV place l).2.2≠0:=(oP C);refine gP (λb w'=>b=decide ((eV place l).1≠1\/(eV place l).2.1.length≠116)/\w'=w3) ?_ ?_;apply dX<;>intro C;have R:(eV place l).1≠1:=(oP C);exact⟨by simp[R],rfl⟩;have R:(eV place l).1=1:=(oP C);have ab:s3.len=(eV place l).2.1.length:=b3.len;refine⟨?_,rfl⟩;dsimp only;rw[ab];by_cases hx:(eV place l).2.1.length=116;rw[hx];simp[R];have:¬(((eV place l).2.1.length:Int)=116):=oJ;simp[R,hx,this];rintro b w4 ⟨rfl,rfl⟩;apply dX<;>intro C;exact za<|ul u 0 rfl rfl rfl λw5 f5=>E (by rw[eZ,iN G,iP (zC C)]) f5;have I:=zB C;have J:(eV place l).2.1.length=116:=by rcases Nat.decEq (eV place l).2.1.length 116 with h|h;exact absurd (Or.inr h) I;exact h
 have ad:=b3.jz (S:=[]) lc oL;refine qwA ad J λw5 f5=>?_;have u:=u.q7 f5;refine oI u t5 λr6 w6 e6 u=>Al u 0 rfl rfl (tf _) λw7 u=>Ii u 0 rfl (iu (eV place l).2.1) ?_;apply dX<;>intro C;have hq:Int.tmod (iu (eV place l).2.1) 2≠place:=(oP C);exact za<|ul u 1 rfl rfl rfl λw8 f8=>E (by rw[eZ,iN G,iN I,iP hq]) f8;have hq:¬Int.tmod (iu (eV place l).2.1) 2≠place:=(oP C);refine uM (u.at (i:=0) rfl) (tf _)<|ul u 1 rfl rfl (tf _) λw8 f8=>?_
 have:=hk w8 f8;rw[eZ,iN G,iN I,iN hq] at this;exact this
def qvi{sa sb:Sl}{a b:Il}{K:List Ie×Int->WP}(ha:en S w sa a)(hb:en S w sb b)(hv:Hv w)(J:eI a)(R:eI b)(U:a.length<=100000)(V:b.length<=100000)(hk:∀w',Fr [] w w'->K (eS (gQ a b).1.1 (gQ a b).1.2,(gQ a b).2) w'): cW 174 [sa.v,sb.v] dB w K:=by
 refine qoT<|oI (oE [] w) t5 λr1 w1 e1 h=>qrR (ha.q7 h.fr) (hv.q7 h.fr) J U (.inl rfl) λw2 f2=>?_;have h:=h.q7 f2;refine oI h t5 λr3 w3 e3 h=>Al h 0 rfl rfl (xi _ _) λw4 h=>qrR (hb.q7 h.fr) (hv.q7 h.fr) R V (.inr rfl) λw5 f5=>?_;have h:=h.q7 f5;refine oI h t5 λr6 w6 e6 h=>Al h 0 rfl rfl (xi _ _) λw7 h=>gP (λc w'=>c=decide ((eZ 0 a).2≠0/\(eZ 1 b).2≠0)/\w'=w7) ?_ ?_;apply dX<;>intro u;have C:(eZ 0 a).2≠0:=(oP u);refine⟨?_,rfl⟩;by_cases I:(eZ 1 b).2=0<;>simp[C,I];have C:(eZ 0 a).2=0:=(oP u);exact⟨by simp[C],rfl⟩;rintro c w8 ⟨rfl,rfl⟩;apply dX<;>intro u;refine za<|ul h 2 rfl rfl rfl λw9 f9=>?_
 have:=hk w9 f9;rw[gQ,iP (zC u)] at this;exact this;have hn:=zB u;refine gP (λc w'=>c=decide ((eZ 0 a).2≠0\/((eZ 1 b).2=0/\(eZ 1 b).1.1>(eZ 0 a).1.1))/\w'=w8) ?_ ?_;apply dX<;>intro u;have C:(eZ 0 a).2≠0:=(oP u);exact⟨by simp[C],rfl⟩;have C:(eZ 0 a).2=0:=(oP u);apply dX<;>intro u;have I:(eZ 1 b).2=0:=(oP u);refine oA h 0 rfl (eZ 1 b).1.1 rfl<|oA h 1 rfl (eZ 0 a).1.1 rfl<|⟨?_,rfl⟩;by_cases h3:(eZ 1 b).1.1>(eZ 0 a).1.1<;>simp[C,I,h3];have I:(eZ 1 b).2≠0:=(oP u);exact⟨by simp[C,I],rfl⟩;rintro c w9 ⟨rfl,rfl⟩;apply cD<;>intro u;refine uM (h.at (i:=0) rfl) (xi _ _)<|ul h 2 rfl rfl (xi _ _) λE G=>?_
 have:=hk E G;rw[gQ,iN hn,iP (u)] at this;exact this;refine uM (h.at (i:=1) rfl) (xi _ _)<|ul h 2 rfl rfl (xi _ _) λE G=>?_
 have:=hk E G;rw[gQ,iN hn,iN (u)] at this;exact this
abbrev rh:If:=191
abbrev tN:If:=187
def look {β:Type} (n:Int):List (Int×β)->Option (Nat×β)
 | []=>none
 | p::r=>if n=p.1 then some (0,p.2) else (look n r).map λq=>(q.1+1,q.2)
def gM {β:Type} (n:Int) (v:β) (l:List (Int×β)):List (Int×β):=match look n l with|some q=>l.set q.1 (n,v)|none=>l++[(n,v)]
def jr {β:Type} (n:Int) (l:List (Int×β)):List (Int×β):=match look n l with|some q=>l.eraseIdx q.1|none=>l
def vz{β γ:Type}(g:β->γ)(n:Int):∀l:List (Int×β),look n (l.map λe=>(e.1,g e.2))=(look n l).map λq=>(q.1,g q.2)
 | []=>rfl
 | p::r=>by simp only[xN,look];by_cases h:n=p.1;simp[h];rw[iN h,iN h,vz g n r];cases look n r<;>rfl
def wh(n:Int):∀l:List (Int×Ie),posOf n l=look n l
 | []=>rfl
 | p::r=>by simp only[posOf,look,wh n r]
def tg{β:Type}{n:Int}:∀ {l:List (Int×β)} {q:Nat×β},look n l=some q->l[q.1]?=some (n,q.2)/\(n,q.2)∈l
 | p::r,q,h=>by simp only[look] at h;by_cases hp:n=p.1;rw[iP hp] at h;cases h;subst hp;exact⟨rfl,oL⟩;rw[iN hp] at h;obtain⟨x,u,rfl⟩:=yS.1 h;obtain⟨C,E⟩:=tg u;exact⟨by simpa using C,zN _ E⟩
def uv{β:Type}{n:Int}:∀ {l:List (Int×β)},look n l=none↔n∉l.map (·.1)
 | []=>by simp[look]
 | p::r=>by simp only[look,xN,zG,not_or];by_cases hp:n=p.1;simp[hp];rw[iN hp,Option.map_eq_none_iff,uv (l:=r)];simp[hp]
def C7{β γ:Type}(g:β->γ)(n:Int)(v:β)(l:List (Int×β)):(gM n v l).map (λe=>(e.1,g e.2))=gM n (g v) (l.map λe=>(e.1,g e.2)):=by
 unfold gM;rw[vz];cases look n l with
 | none=>simp
 | some q=>simp[map_set]
def qr7{β γ:Type}(g:β->γ)(n:Int)(l:List (Int×β)):(jr n l).map (λe=>(e.1,g e.2))=jr n (l.map λe=>(e.1,g e.2)):=by
 unfold jr;rw[vz];cases look n l with
 | none=>rfl
 | some q=>simp only[Option.map_some];exact uV _ l q.1
def Ci{β:Type}{v:β}{l:List (Int×β)}{e:Int×β}(h:e∈gM n v l):e∈l\/e=(n,v):=by unfold gM at h;split at h;exact mem_or_eq_of_mem_set h;rcases zD.1 h with h|h;exact .inl h;exact .inr (oP h)
def qsE{β:Type}{l:List (Int×β)}{e:Int×β}(h:e∈jr n l):e∈l:=by unfold jr at h;split at h;exact mem_of_mem_eraseIdx h;exact h
def Ea{t et:If}{v:Ie}(ht:prog.underlying t=some (.map 63 et)){b:Nat}(h:iG i8 w b f)(x:Int): ∃o,(Instr.mapUpdate t (.map (some b)) (i8 x) v).run prog w=.ok () (gS w b o)/\iG i8 (gS w b o) b (gM x v f):=by
 have K:=uH;cases I:posOf x f with
 | none=>
  obtain⟨o,J,h2⟩:=iG.new ht K h x (v:=v) I;refine⟨o,J,?_⟩;rw[wh] at I;rw[gM,I];exact h2
 | some q=>
  obtain⟨C,c,U,he,hs,hc⟩:=h;have V:=I;rw[wh] at V;obtain⟨J,_⟩:=tg V;have G:=he;simp only[mC] at G;have hi:C[q.1]?.map (·.key)=some (i8 x):=by
   have:=H9 (·[q.1]?) G;simp only[zQ,J,Option.map_some] at this;rw[<- xK];cases E:C.toList[q.1]? with
   | none=>rw[E] at this;cases this
   | some e=>rw[E] at this;simp at this;simp[this.1]
  refine⟨.map (C.modify q.1 λe=>{ e with key:=i8 x,val:=v }) c,?_,C.modify q.1 λe=>{ e with key:=i8 x,val:=v },c,?_,?_,?_,?_⟩;simp[Instr.mapUpdate,run_underlying ht,H7 U,K.check,tB K he,I,hi,Instr.keyThatStays,Instr.sameBits,Go.MapKept.run_setObj_map _ U];rfl;rw[oV _ _ _ _ (eX U),iP rfl];rw[gM,V];show ((C.modify q.1 _).toList).map _=(f.set q.1 (x,v)).map _;rw[Array.toList_modify];apply ext_getElem?;intro j;have u:=H9 (·[j]?) G;simp only[zQ] at u;rw[zQ,zQ,List.getElem?_modify,List.getElem?_set];by_cases hqj:q.1=j;subst hqj;have aa:=(zP.1 J).1;rw[J] at u;cases E:C.toList[q.1]? with
  | none=>rw[E] at u;cases u
  | some e=>simp[aa]
  simp only[hqj,if_false];rw[<- u];cases C.toList[j]?<;>rfl;have e:(C.modify q.1 λe=>{ e with key:=i8 x,val:=v }).toList.map (·.born)=C.toList.map (·.born):=by rw[Array.toList_modify];apply ext_getElem?;intro j;rw[zQ,zQ,List.getElem?_modify];by_cases hqj:q.1=j;subst hqj;cases C.toList[q.1]?<;>simp;simp[hqj]
  rw[e];exact hs;intro e R;rw[Array.toList_modify] at R;obtain⟨j,u⟩:=mem_iff_getElem?.1 R;rw[List.getElem?_modify] at u;by_cases hqj:q.1=j;subst hqj;cases E:C.toList[q.1]? with
  | none=>rw[E] at u;simp at u
  | some e0=>
   rw[E] at u;simp at u;subst u;exact hc e0 (yE E)
  simp[hqj] at u;exact hc e (yE (by rw[xK];exact u))
section
structure dV where
 j9:nI
 Q5:Il
 Q9:Il
 x6:Int
 Q3:Bool
 Q1:Il
 J7:Il
 J8:List (IA)
 Q2:Il
abbrev jR:=Int×Sl×List Int
def kX (x:jR):Ie:=.agg #[.b x.1,x.2.1.v]
def mT (sl sn:Sl) (x6:Int) (Q3:Bool) (fb defb mb:Nat):List Ie:=
 [sl.v,sn.v,.i x6,.bool Q3,dG fb,dG defb,.map (some mb)]
def fw (db:Option Addr) (j9:nI) (sl sn:Sl) (x6:Int) (Q3:Bool) (fb defb mb:Nat) (Q2:Il):Array Ie:=
 ((.pointer db::eS j9.1 j9.2)++mT sl sn x6 Q3 fb defb mb++Q2.map (Value.int .u32)).toArray
section
variable {db:Option Addr} {j9:nI} {sl sn:Sl} {x6:Int} {Q3:Bool} {fb defb mb:Nat} {Q2:Il}
def rL(h:j9.2.length=27):(Value.pointer db::eS j9.1 j9.2).length=29:=by rw[yH,pS h]
def Gk(h:j9.2.length=27):(fw db j9 sl sn x6 Q3 fb defb mb Q2).size=36+Q2.length:=by rw[fw,size_toArray,zF,zF,rL h,zK];rfl
def DK:(fw db j9 sl sn x6 Q3 fb defb mb Q2)[0]?=some (.pointer db):=rfl
def qxA:(fw db j9 sl sn x6 Q3 fb defb mb Q2)[1]?=some (.w j9.1):=rfl
def Gu(C:j9.2.length=27)(n:Nat)(h:n<27):(fw db j9 sl sn x6 Q3 fb defb mb Q2)[n+2]?=some (.u (j9.2.getD n 0)):=by
 rw[fw,List.getElem?_toArray,zV,yY (by rw[rL C];omega),List.getElem?_cons_succ];have:=A2 (q:=j9.1) (t:=j9.2) n oJ;rw[List.getElem?_toArray] at this;exact this
def wU(u:j9.2.length=27)(j:Nat)(h:j<7):(fw db j9 sl sn x6 Q3 fb defb mb Q2)[29+j]?=(mT sl sn x6 Q3 fb defb mb)[j]?:=by rw[fw,List.getElem?_toArray,zV,yX (by rw[rL u];omega),rL u,vC,yY (by exact h)]
def Gw(h:j9.2.length=27):(fw db j9 sl sn x6 Q3 fb defb mb Q2)[29]?=some sl.v:=wU h 0 oM
def qy5(h:j9.2.length=27):(fw db j9 sl sn x6 Q3 fb defb mb Q2)[30]?=some sn.v:=wU h 1 oM
def Gp(h:j9.2.length=27):(fw db j9 sl sn x6 Q3 fb defb mb Q2)[31]?=some (.i x6):=wU h 2 oM
def vw(h:j9.2.length=27):(fw db j9 sl sn x6 Q3 fb defb mb Q2)[32]?=some (.bool Q3):=wU h 3 oM
def zm(h:j9.2.length=27):(fw db j9 sl sn x6 Q3 fb defb mb Q2)[33]?=some (dG fb):=wU h 4 oM
def Cx(h:j9.2.length=27):(fw db j9 sl sn x6 Q3 fb defb mb Q2)[34]?=some (dG defb):=wU h 5 oM
def sS(h:j9.2.length=27):(fw db j9 sl sn x6 Q3 fb defb mb Q2)[35]?=some (.map (some mb)):=wU h 6 oM
end
structure Rows (F:Ik) (w:Ic) (sl sn:Sl) (Q5 Q9:Il) (fs:List (Int×jR)):Prop where
 Q5:Rd F w sl Q5
 Q9:Rd F w sn Q9
 y7:∀ e∈fs,en F w e.2.2.1 e.2.2.2
def Rows.q8{F F':Ik}{w w':Ic}{sl sn:Sl}{Q5 Q9:Il}{C:List (Int×jR)}(h:Rows F w sl sn Q5 Q9 C)(f:Fr F w w')(u:∀b∈F',b∈F\/w.heap.size<=b):Rows F' w' sl sn Q5 Q9 C:=
 ⟨h.Q5.q8 f u,h.Q9.q8 f u,λe E=>(h.y7 e E).q8 f u⟩
structure nA (w:Ic) (X:Ik) (pb:Nat) (db:Option Addr) (M:dV) (fb defb mb:Nat) (sl sn:Sl) (F1 F2:Ik) (fs:List (Int×jR)):Prop where
 cell:w.heap[pb]?=some (.c (fw db M.j9 sl sn M.x6 M.Q3 fb defb mb M.Q2) rh)
 Q1:fY w fb F1 M.Q1
 J7:fY w defb F2 M.J7
 map:iG i8 w mb (fs.map λe=>(e.1,kX e.2))
 J8:M.J8=fs.map λe=>(e.1,e.2.1,e.2.2.2)
 rows:Rows (X++pb::mb::(F1++F2)) w sl sn M.Q5 M.Q9 fs
 nH:∀ b∈X,b<w.heap.size
 lQ:∀ b∈X,b∉pb::mb::(F1++F2)
 sep:pb≠mb/\(∀ b∈F1,b≠pb/\b≠mb/\b∉F2)/\(∀ b∈F2,b≠pb/\b≠mb)
 Q8:M.j9.2.length=27
 x7:M.Q2.length=24
def eB (w:Ic) (X:Ik) (pb:Nat) (db:Option Addr) (F:Ik) (M:dV):Prop:=
 ∃fb defb mb sl sn h F2 u,F=pb::mb::(h++F2)/\nA w X pb db M fb defb mb sl sn h F2 u
def nA.cV{M:dV}{u:List (Int×jR)}(h:nA w X pb db M fb defb mb sl sn F1 F2 u):mb<w.heap.size:=by exact h.map.lt
def nA.lt{w:Ic}{X:Ik}{pb:Nat}{db:Option Addr}{M:dV}{fb defb mb:Nat}{sl sn:Sl}{F1 F2:Ik}{C:List (Int×jR)}(h:nA w X pb db M fb defb mb sl sn F1 F2 C):∀b∈pb::mb::(F1++F2),b<w.heap.size:=by intro b u;rcases zG.1 u with rfl|u;exact eX h.cell;rcases zG.1 u with rfl|u;exact h.cV;rcases zD.1 u with u|u;exact h.Q1.lt b u;exact h.J7.lt b u
def eB.lt{w:Ic}{X:Ik}{pb:Nat}{db:Option Addr}{F:Ik}{M:dV}(h:eB w X pb db F M):∀b∈F,b<w.heap.size:=by obtain⟨fb,defb,mb,sl,sn,C,F2,E,rfl,u⟩:=h;exact u.lt
def nA.q8{w w':Ic}{S X:Ik}{pb:Nat}{db:Option Addr}{M:dV}{fb defb mb:Nat}{sl sn:Sl}{F1 F2:Ik}{E:List (Int×jR)}(h:nA w X pb db M fb defb mb sl sn F1 F2 E)(f:Fr S w w')(C:∀b∈pb::mb::(F1++F2),b∉S)(G:Rows (X++pb::mb::(F1++F2)) w' sl sn M.Q5 M.Q9 E):nA w' X pb db M fb defb mb sl sn F1 F2 E where
 cell:=by rw[f.block pb (eX h.cell) (C pb oL)];exact h.cell
 Q1:=h.Q1.q8 f λb u=>C b (by simp[u])
 J7:=h.J7.q8 f λb u=>C b (by simp[u])
 map:=h.map.q8 f (C mb oL)
 J8:=h.J8
 rows:=G
 nH:=λb u=>yC (h.nH b u) f.size
 lQ:=h.lQ
 sep:=h.sep
 Q8:=h.Q8
 x7:=h.x7
def nA.q7{M:dV}{C:List (Int×jR)}(h:nA w X pb db M fb defb mb sl sn F1 F2 C)(f:Fr [] w w'):nA w' X pb db M fb defb mb sl sn F1 F2 C:=
 h.q8 f oL (h.rows.q8 (f.mono λb u=>by cases u) λb u=>.inl u)
def eB.q7{w w':Ic}{X:Ik}{pb:Nat}{db:Option Addr}{F:Ik}{M:dV}(h:eB w X pb db F M)(f:Fr [] w w'):eB w' X pb db F M:=by obtain⟨fb,defb,mb,sl,sn,u,F2,C,rfl,E⟩:=h;exact⟨fb,defb,mb,sl,sn,u,F2,C,rfl,E.q7 f⟩
def CY{u:Ik}(n1:∀b∈u,b∈F1\/w.heap.size<=b):∀b∈pb::mb::(u++F2),b∈pb::mb::(F1++F2)\/w.heap.size<=b:=λb h=>by simp only[zG,zD] at h⊢;rcases h with h|h|h|h;exact .inl (.inl h);exact .inl (.inr (.inl h));rcases n1 b h with C|C;exact .inl (.inr (.inr (.inl C)));exact .inr C;exact .inl (.inr (.inr (.inr h)))
def ED{u:Ik}(n1:∀b∈u,b∈F2\/w.heap.size<=b):∀b∈pb::mb::(F1++u),b∈pb::mb::(F1++F2)\/w.heap.size<=b:=λb h=>by simp only[zG,zD] at h⊢;rcases h with h|h|h|h;exact .inl (.inl h);exact .inl (.inr (.inl h));exact .inl (.inr (.inr (.inl h)));rcases n1 b h with C|C;exact .inl (.inr (.inr (.inr C)));exact .inr C
def yk{F':Ik}(n:∀b∈F',b∈F\/w.heap.size<=b):∀b∈X++F',b∈X++F\/w.heap.size<=b:=λb u=>by rcases zD.1 u with h|h;exact .inl (zH _ h);rcases n b h with h|h;exact .inl (zI _ h);exact .inr h
def GD{F':Ik}(C:∀b∈X,b<w.heap.size)(E:∀b∈X,b∉F)(n:∀b∈F',b∈F\/w.heap.size<=b):∀b∈X,b∉F':=λb u h=>by
 rcases n b h with h|h;exact E b u h;have:=C b u;omega
def nA.qa{M:dV}{C:Ik}{I:List (Int×jR)}(h:nA w X pb db M fb defb mb sl sn F1 F2 I)(f:Fr F1 w w')(R:fY w' fb C l)(E:∀b∈C,b∈F1\/w.heap.size<=b): nA w' X pb db { M with Q1:=l } fb defb mb sl sn C F2 I where
 cell:=by rw[f.block pb (eX h.cell) λu=>(h.sep.2.1 pb u).1 rfl];exact h.cell
 Q1:=R
 J7:=h.J7.q8 f λb u G=>(h.sep.2.1 b G).2.2 u
 map:=h.map.q8 f (λu=>(h.sep.2.1 mb u).2.1 rfl)
 J8:=h.J8
 rows:=h.rows.q8 (f.mono λb u _=>by simp[u]) (yk (CY E))
 nH:=λb u=>yC (h.nH b u) f.size
 lQ:=GD h.nH h.lQ (CY E)
 sep:=⟨h.sep.1,λb u=>by rcases E b u with J|J;exact h.sep.2.1 b J;have V:=eX h.cell;have l2:=h.cV;exact⟨oJ,oJ,λU=>by have:=h.J7.lt b U;omega⟩,h.sep.2.2⟩
 Q8:=h.Q8
 x7:=h.x7
def nA.wE{M:dV}{C:Ik}{J:List (Int×jR)}(h:nA w X pb db M fb defb mb sl sn F1 F2 J)(f:Fr F2 w w')(R:fY w' defb C l)(G:∀b∈C,b∈F2\/w.heap.size<=b): nA w' X pb db { M with J7:=l } fb defb mb sl sn F1 C J where
 cell:=by rw[f.block pb (eX h.cell) λu=>(h.sep.2.2 pb u).1 rfl];exact h.cell
 Q1:=h.Q1.q8 f λb u I=>(h.sep.2.1 b u).2.2 I
 J7:=R
 map:=h.map.q8 f (λu=>(h.sep.2.2 mb u).2 rfl)
 J8:=h.J8
 rows:=h.rows.q8 (f.mono λb u _=>by simp[u]) (yk (ED G))
 nH:=λb u=>yC (h.nH b u) f.size
 lQ:=GD h.nH h.lQ (ED G)
 sep:=⟨h.sep.1,λb u=>⟨(h.sep.2.1 b u).1,(h.sep.2.1 b u).2.1,λU=>by
  rcases G b U with E|E;exact (h.sep.2.1 b u).2.2 E;have:=h.Q1.lt b u;omega⟩,λb u=>by
  rcases G b u with E|E;exact h.sep.2.2 b E;have V:=eX h.cell;have l2:=h.cV;exact⟨oJ,oJ⟩⟩
 Q8:=h.Q8
 x7:=h.x7
def nA.rB{o:Obj}{M:dV}{I C:List (Int×jR)}(h:nA w X pb db M fb defb mb sl sn F1 F2 I)(R:iG i8 (gS w mb o) mb (C.map λe=>(e.1,kX e.2)))(u:∀e∈C,e∈I\/en (X++pb::mb::(F1++F2)) w e.2.2.1 e.2.2.2): nA (gS w mb o) X pb db { M with J8:=C.map λe=>(e.1,e.2.1,e.2.2.2) } fb defb mb sl sn F1 F2 C:=by
 have f:Fr [mb] w (gS w mb o):=wS h.cV o;have J:Fr (X++pb::mb::(F1++F2)) w (gS w mb o):=f.mono λb u _=>by simp only[zE] at u;subst u;simp
 have E:=h.rows.q8 J (F':=X++pb::mb::(F1++F2)) λb u=>.inl u;exact {
  cell:=by rw[f.block pb (eX h.cell) (oP h.sep.1)];exact h.cell
  Q1:=h.Q1.q8 f λb u=>by simpa using (h.sep.2.1 b u).2.1
  J7:=h.J7.q8 f λb u=>by simpa using (h.sep.2.2 b u).2
  map:=R
  J8:=rfl
  rows:=⟨E.Q5,E.Q9,λe U=>by rcases u e U with G|G;exact E.y7 e G;exact G.q8 J λb u=>.inl u⟩
  nH:=λb u=>yC (h.nH b u) f.size
  lQ:=h.lQ
  sep:=h.sep
  Q8:=h.Q8
  x7:=h.x7 }
def eB.pd{X':Ik}{M:dV}(h:eB w X pb db F M)(f:Fr X w w')(C:∀b∈X',b<w'.heap.size)(G:∀b∈X',b∈X\/w.heap.size<=b):eB w' X' pb db F M:=by
 obtain⟨fb,defb,mb,sl,sn,I,F2,R,rfl,h⟩:=h;have U:∀b∈pb::mb::(I++F2),b∉X:=λb u C=>h.lQ b C u;have E:=h.q8 (w':=w') f U (h.rows.q8 (f.mono λb u _=>zH _ u) λb u=>.inl u);refine⟨fb,defb,mb,sl,sn,I,F2,R,rfl,{ E with rows:=h.rows.q8 (f.mono λb u _=>zH _ u) λb u=>?_,nH:=C,lQ:=λb u J=>?_ }⟩;rcases zD.1 u with u|u;rcases G b u with u|u;exact .inl (zH _ u);exact .inr u;exact .inl (zI _ u);rcases G b u with u|u;exact h.lQ b u J;have:=h.lt b J;omega
def eB.sep{M:dV}(h:eB w X pb db F M):∀b∈X,b∉F:=by obtain⟨fb,defb,mb,sl,sn,u,F2,C,rfl,h⟩:=h;exact h.lQ
end
section
def qx9(h:Rd S w s l)(U:l.length<=1000000)(I:∀x:Int,(decide (x>=0)=decide (n∈l))->K x w): cW 227 [s.v,.u n] di w K:=by refine qoN ?_;have J:=h.1;refine iX (λx w'=>w'=w/\∃i:Nat,x=i/\i<=l.length/\n∉l.take i) (λx _=>((l.length:Int)-x).toNat) ⟨rfl,0,rfl,oJ,oL⟩ ?_;rintro x w' ⟨rfl,i,rfl,V,C⟩ X R;apply dX<;>intro E;have G:i<l.length:=(by have:=zC E;omega);refine Rd.at h i rfl (zA G) ?_;apply dX<;>intro E;have e:n=l[i]:=(oP E);refine I _ ?_;rw[zZ (show (i:Int)>=0 by omega),zZ (by rw[e];exact zW G)];have e:n≠l[i]:=(oP E);rw[gi _ oJ];refine R _ _ ⟨rfl,i+1,oL,oJ,?_⟩ oJ;rw[yF G];simp only[zD,zE,not_or];exact⟨C,e⟩;have:i=l.length:=(by have:=zB E;omega);subst this;rw[xY] at C;refine I _ ?_;rw[zU oM,zU C]
def qtr{K:Bool->WP}(h:Rd S w s l)(C:l.length<=1000000)(E:K (decide (n∈l)) w): cW 186 [s.v,.u n] dj w K:=by refine qk5<|qx9 h C λx G=>?_;rw[G];exact E
def qA2:∀w,(zeroValue 247).run prog w=.ok (.agg #[.b 0,.slice none 0 0]) w:=λw=>by kernel_rfl
def ye:prog.underlying tN=some (.map 63 247):=by kernel_rfl
def C4{C:List (Int×jR)}{K:((Int×Sl)×Bool)->Prop}(h:kN i8 w mb (C.map λe=>(e.1,kX e.2)))(G:∀q,look n C=some q->K ((q.2.1,q.2.2.1),true))(I:look n C=none->K ((0,dH),false)): eW [gU.agg [Cell.int .u8,Cell.slice],gU.one Cell.bool] (λw'=>(Instr.lookup tN (.map (some mb)) (.u n) true).run prog w') w K:=by
 have:=qs5 (P:=prog) ye qA2 uH h n;rw[wh,vz] at this;cases E:look n C with
 | none=>
  rw[E] at this;exact qu (ts:=[gU.agg [Cell.int .u8,Cell.slice],gU.one Cell.bool]) ((0,dH),false) this (I E)
 | some q=>
  rw[E] at this;exact qu (ts:=[gU.agg [Cell.int .u8,Cell.slice],gU.one Cell.bool]) ((q.2.1,q.2.2.1),true) this (G q E)
section
variable {w:Ic} {X:Ik} {pb:Nat} {db:Option Addr} {F:Ik} {M:dV}
def qyg(h:eB w X pb db F M)(C:K M.Q1.length w):cW 129 [dG pb] di w K:=by obtain⟨fb,defb,mb,sl,sn,E,F2,G,rfl,u⟩:=h;refine qjV<|fu (io u.cell (pW fb) (zm u.Q8) ?_);exact qt5 u.Q1 C
def gc (M:dV) (n:Int):Bool:=!(decide (n<2)||decide (n>=M.j9.2.getD 0 0)||decide (n∈M.Q5)||decide (n∈M.Q1)||decide (n∈M.J7))&&(look n M.J8).isNone
def qrN{K:Bool->WP}(h:eB w X pb db F M)(hl:M.Q5.length<=1000000)(V:∀w',Fr [] w w'->K (gc M n) w'):cW 155 [dG pb,.u n] dj w K:=by
 obtain⟨fb,defb,mb,sl,sn,F1,F2,fs,rfl,C⟩:=h;refine qj0<|gP (λb w'=>b=(decide (n<2)||decide (n>=M.j9.2.getD 0 0)||decide (n∈M.Q5)||decide (n∈M.Q1)||decide (n∈M.J7))/\w'=w) ?_ ?_;refine dX (λE=>⟨by rw[E];rfl,rfl⟩) λE=>fu ?_;simp only[Addr.q9];refine io C.cell (M.j9.2.getD 0 0) (Gu C.Q8 0 oM)<|dX (λG=>⟨by rw[E,G];rfl,by trivial⟩) λG=>fu (io C.cell sl (Gw C.Q8) ?_);refine qtr C.rows.Q5 hl<|dX (λI=>⟨by rw[E,G,I];rfl,by trivial⟩) λI=>fu (io C.cell (pW fb) (zm C.Q8) ?_);refine Er C.Q1<|dX (λJ=>⟨by rw[E,G,I,J];rfl,by trivial⟩) λJ=>fu<|io C.cell (pW defb) (Cx C.Q8)<|Er C.J7 ⟨by rw[E,G,I,J];rfl,by trivial⟩;rintro b w' ⟨rfl,rfl⟩;have U:(look n M.J8).isNone=(look n fs).isNone:=by rw[C.J8,vz λx:jR=>(x.1,x.2.2)];cases look n fs<;>rfl
 apply dX<;>intro E;have:=V w' (.refl _ _);rw[gc,E] at this;exact this;refine fu ?_;simp only[Addr.q9];refine io C.cell (some mb) (sS C.Q8)<|C4 C.map.at (λq hq=>?_) λhq=>?_;refine oB (oE [] w') λr w1 e1 f1 R=>oH R 0 rfl _ rfl rfl rfl λw2 R _=>?_
 have:=V w2 R.fr;rw[gc,E,U,hq] at this;exact this;refine oB (oE [] w') λr w1 e1 f1 R=>oH R 0 rfl _ rfl rfl rfl λw2 R _=>?_;have:=V w2 R.fr;rw[gc,E,U,hq] at this;exact this
def fZ (M:dV) (kind:Int) (body:Il):Io×dV:=
 if M.Q3 then ((0,7),M) else if body.length>500 then ((0,3),M) else
 match M.Q1 with
 | []=>((0,6),M)
 | n::r=>((n,0),{ M with Q1:=r,J8:=gM n (kind,body) M.J8 })
def qye{kind:Int}{K:Io->WP}(h:eB w X pb db F M)(hb:en (X++F) w s body)(hl:body.length<=100000)(hf:M.Q1.length<=1000000)(hk:∀F' w',eB w' X pb db F' (fZ M kind body).2->Fr F w w'->(∀b∈F',b∈F\/w.heap.size<=b)->K (fZ M kind body).1 w'): cW 164 [dG pb,.b kind,s.v] du w K:=by
 have h0:=h;obtain⟨fb,defb,mb,sl,sn,F1,F2,fs,rfl,hx⟩:=h;have hlen:=hb.1;refine qjT (p:=pW pb) (body:=s) ?_;have same:∀ {e:Int},fZ M kind body=((0,e),M)->K (0,e) w:=by
  intro e he;have:=hk _ w (by rw[he];exact h0) (.refl _ _) (λb hb=>.inl hb);rw[he] at this;exact this
 refine fu (io (c:=.bool) hx.cell M.Q3 (vw hx.Q8) ?_);refine dX (λhc=>same (by rw[fZ,iP hc])) λhc=>?_;have ho:¬M.Q3=true:=(by rw[hc];decide);apply cD<;>intro hc;have:=hc;exact same (by rw[fZ,iN ho,iP]);have hb5:¬body.length>500:=oJ;refine fu (io (c:=.ptr) hx.cell (pW fb) (zm hx.Q8) ?_);refine qzM hx.Q1 hf λF1' w1 hp1 f1 n1=>?_;have hx1:=hx.qa f1 hp1 n1;have fF:Fr (pb::mb::(F1++F2)) w w1:=f1.mono λb hb _=>by simp[hb]
 have nF:=CY (w:=w) (pb:=pb) (mb:=mb) (F2:=F2) n1;cases hfr:M.Q1 with
 | nil=>
  have hmv:fZ M kind body=((0,6),M):=(by rw[fZ,iN ho,iN hb5,hfr]);rw[hfr] at hp1 hx1;refine HK rfl ?_;have hM:{ M with Q1:=(tF []).2 }=M:=(by show { M with Q1:=[] }=M;rw[<- hfr]);rw[hM] at hx1;have:=hk _ w1 (by rw[hmv];exact⟨fb,defb,mb,sl,sn,F1',F2,fs,rfl,hx1⟩) fF nF;rw[hmv] at this;exact this
 | cons n r=>
  have hmv:fZ M kind body=((n,0),{ M with Q1:=r,J8:=gM n (kind,body) M.J8 }):=(by rw[fZ,iN ho,iN hb5,hfr]);rw[hfr] at hp1 hx1;refine HM rfl<|fu ?_;simp only[Addr.q9];have c1:w1.heap[pb]?=_:=hx1.cell;refine io (w:=w1.drew) (c:=.map) c1 (some mb) (sS hx.Q8) ?_;have hb1:en (X++pb::mb::(F1'++F2)) w1.drew s body:=hb.q8 (fF.drew.mono λb hb _=>zI _ hb) (yk nF);refine An hb1 oJ λs2 B2 w2 b2 f2 n2 _ _=>?_;have f12:Fr [] w1 w2:=((Fr.refl [] w1).drew).trans f2;have hx2:=hx1.q7 f12;refine ik (by show _=_;rw[jp hx2.cell];exact sS hx.Q8) ?_;obtain⟨o,hr,hm⟩:=Ea (v:=kX (kind,s2,body)) ye hx2.map n;refine Dk _ hr ?_;have hm':iG i8 (gS w2 mb o) mb ((gM n (kind,s2,body) fs).map λe=>(e.1,kX e.2)):=(by rw[C7 kX];exact hm);have hx3:=hx2.rB hm' λe he=>by
   rcases Ci he with h1|h1;exact .inl h1;subst h1;refine .inr (b2.jz lc λb hb hb2=>?_);have l2:w1.heap.size<=b:=n2 b hb;rcases zD.1 hb2 with hb2|hb2;have:=hx1.nH b hb2;omega;have:=hx1.lt b hb2;omega
  have hM:(gM n (kind,s2,body) fs).map (λe=>(e.1,e.2.1,e.2.2.2))=gM n (kind,body) M.J8:=(by rw[hx.J8];exact C7 (λx:jR=>(x.1,x.2.2)) n (kind,s2,body) fs);rw[hM] at hx3;have f3:Fr (pb::mb::(F1++F2)) w (gS w2 mb o):=(fF.j8 f12 oL).j8 (wS hx2.cV o) λb hb=>by simp only[zE] at hb;subst hb;exact .inl oL
  have:=hk _ (gS w2 mb o) (by rw[hmv];exact⟨fb,defb,mb,sl,sn,F1',F2,_,rfl,hx3⟩) f3 nF;rw[hmv] at this;exact this
end
end
section
def nA.cJ{M:dV}{u:List (Int×jR)}(h:nA w X pb db M fb defb mb sl sn F1 F2 u)(n:Int):look n M.J8=(look n u).map λq=>(q.1,q.2.1,q.2.2.2):=by rw[h.J8,vz λx:jR=>(x.1,x.2.2)]
section
variable {w:Ic} {X:Ik} {pb:Nat} {db:Option Addr} {F:Ik} {M:dV}
def jl (M:dV) (n kind:Int) (body:Il):Int×dV:=
 if M.Q3 then (7,M) else match look n M.J8 with
 | none=>(10,M)
 | some _=>if body.length>500 then (3,M) else (0,{ M with J8:=gM n (kind,body) M.J8 })
def qzH{kind:Int}(h:eB w X pb db F M)(E:en (X++F) w s body)(hl:body.length<=100000)(hk:∀w',eB w' X pb db F (jl M n kind body).2->Fr F w w'->K (jl M n kind body).1 w'): cW 163 [dG pb,.u n,.b kind,s.v] di w K:=by
 have h0:=h;obtain⟨fb,defb,mb,sl,sn,F1,F2,fs,rfl,G⟩:=h;have ap:=E.1;refine qkR ?_;have I:∀ {e:Int} {w':Ic},jl M n kind body=(e,M)->Fr [] w w'->K e w':=by
  intro e w' he hf;have:=hk w' (by rw[he];exact h0.q7 hf) (hf.mono λb E=>by cases E);rw[he] at this;exact this
 have J:=G.cJ n;refine fu (io G.cell M.Q3 (vw G.Q8) ?_);refine dX (λV=>I (by rw[jl,iP V]) (.refl _ _)) λV=>?_;have ho:¬M.Q3=true:=(by rw[V];decide);refine fu ?_;simp only[Addr.q9];refine io G.cell (some mb) (sS G.Q8)<|C4 G.map.at (λq hq=>?_) λhq=>?_;rw[hq] at J;refine oB (oE [] w) λr w1 e1 f1 C=>oH C 0 rfl _ rfl rfl rfl λw2 C _=>HM rfl ?_;apply cD<;>intro V
 have:=V;exact I (by rw[jl,iN ho,J];dsimp only [Option.map_some];rw[iP]) C.fr;have al:¬body.length>500:=oJ;have ab:jl M n kind body=(0,{ M with J8:=gM n (kind,body) M.J8 }):=(by rw[jl,iN ho,J];dsimp only [Option.map_some];rw[iN al]);have aa:=G.q7 C.drew.fr;refine fu<|io (w:=w2.drew) (c:=.map) aa.cell (some mb) (sS G.Q8)<|An (E.q7 C.drew.fr) oJ λs2 B2 w3 b2 f2 n2 _ _=>?_;have ac:Fr [] w w3:=C.drew.fr.trans f2;have U:=G.q7 ac;refine ik (by show _=_;simp only[Addr.q9];rw[jp U.cell];exact sS G.Q8) ?_;obtain⟨o,hr,hm⟩:=Ea (v:=kX (kind,s2,body)) ye U.map n;refine Dk _ hr ?_;have am:iG i8 (gS w3 mb o) mb ((gM n (kind,s2,body) fs).map λe=>(e.1,kX e.2)):=(by rw[C7 kX];exact hm);have ad:=U.rB am λe he=>by rcases Ci he with h1|h1;exact .inl h1;subst h1;refine .inr (b2.jz lc λb E R=>?_);have l2:w2.drew.heap.size<=b:=n2 b E;rcases zD.1 R with R|R;have:b<w2.heap.size:=aa.nH b R;have:w2.drew.heap.size=w2.heap.size:=rfl;omega;have:b<w2.heap.size:=aa.lt b R;have:w2.drew.heap.size=w2.heap.size:=rfl;omega
 have hM:(gM n (kind,s2,body) fs).map (λe=>(e.1,e.2.1,e.2.2.2))=gM n (kind,body) M.J8:=(by rw[G.J8];exact C7 (λx:jR=>(x.1,x.2.2)) n (kind,s2,body) fs);rw[hM] at ad;have f4:Fr (pb::mb::(F1++F2)) w (gS w3 mb o):=(ac.mono (T:=pb::mb::(F1++F2)) λb E=>by cases E).j8 (wS U.cV o) λb E=>by simp only[zE] at E;subst E;exact .inl oL
 have:=hk (gS w3 mb o) (by rw[ab];exact⟨fb,defb,mb,sl,sn,F1,F2,_,rfl,ad⟩) f4;rw[ab] at this;exact this;rw[hq] at J;exact oB (oE [] w) λr w1 e1 f1 C=>oH C 0 rfl _ rfl rfl rfl λw2 C _=>HK rfl<|I (by rw[jl,iN ho,J];rfl) C.fr
def fq (M:dV) (n:Int):Int×dV:=
 if M.Q3 then (7,M) else match look n M.J8 with
 | some _=>(0,{ M with J8:=jr n M.J8,Q1:=ins n M.Q1 })
 | none=>if gc M n then (0,{ M with J7:=ins n M.J7 }) else (10,M)
def qyc(h:eB w X pb db F M)(hl:M.Q5.length<=1000000)(hf:M.Q1.length<=1000000)(hd:M.J7.length<=1000000)(hk:∀F' w',eB w' X pb db F' (fq M n).2->Fr F w w'->(∀b∈F',b∈F\/w.heap.size<=b)->K (fq M n).1 w'): cW 137 [dG pb,.u n] di w K:=by
 have h0:=h;obtain⟨fb,defb,mb,sl,sn,F1,F2,fs,rfl,I⟩:=h;refine qjS ?_;have aa:∀ {e:Int} {w':Ic},fq M n=(e,M)->Fr [] w w'->K e w':=by
  intro e w' he hf;have:=hk _ w' (by rw[he];exact h0.q7 hf) (hf.mono λb E=>by cases E) (λb E=>.inl E);rw[he] at this;exact this
 have J:=I.cJ n;refine fu (io I.cell M.Q3 (vw I.Q8) ?_);refine dX (λhc=>aa (by rw[fq,iP hc]) (.refl _ _)) λhc=>?_;have ho:¬M.Q3=true:=(by rw[hc];decide);refine fu ?_;simp only[Addr.q9];refine io I.cell (some mb) (sS I.Q8)<|C4 I.map.at (λq hq=>?_) λhq=>?_;rw[hq] at J;refine oB (oE [] w) λr w1 e1 f1 C=>oH C 0 rfl _ rfl rfl rfl λw2 C _=>HK rfl ?_;have R:fq M n=(0,{ M with J8:=jr n M.J8,Q1:=ins n M.Q1 }):=(by rw[fq,iN ho,J];rfl);have U:=I.q7 C.fr;refine fu<|io U.cell (some mb) (sS I.Q8) ?_;obtain⟨o,hr,hm⟩:=iG.del (ty:=0) ye uH U.map n;refine GM (ts:=[]) () _ hr ?_;have aq:iG i8 (gS w2 mb o) mb ((jr n fs).map λe=>(e.1,kX e.2)):=by
  rw[qr7 kX];rw[wh] at hm;unfold jr;cases hl:look n (fs.map λe=>(e.1,kX e.2)) with
  | none=>rw[hl] at hm;exact hm
  | some q=>rw[hl] at hm;exact hm
 have G:=U.rB aq λe he=>.inl (qsE he);have hM:(jr n fs).map (λe=>(e.1,e.2.1,e.2.2.2))=jr n M.J8:=by rw[I.J8];exact qr7 (λx:jR=>(x.1,x.2.2)) n fs
 rw[hM] at G;have f3:Fr (pb::mb::(F1++F2)) w (gS w2 mb o):=(C.fr.mono (T:=pb::mb::(F1++F2)) λb E=>by cases E).j8 (wS U.cV o) λb E=>by simp only[zE] at E;subst E;exact .inl oL
 refine fu (io G.cell (pW fb) (zm I.Q8) ?_);refine Dh G.Q1 hf λau w4 ac f4 n4=>?_;have ad:=G.qa f4 ac n4;have hs:w.heap.size<=(gS w2 mb o).heap.size:=by rw[tI];exact C.fr.size
 have:=hk _ w4 (by rw[R];exact⟨fb,defb,mb,sl,sn,au,F2,_,rfl,ad⟩) (f3.j8 f4 λb E=>.inl (by simp[E])) λb E=>by rcases CY n4 b E with h1|h1;exact .inl h1;exact .inr (zL hs h1)
 rw[R] at this;exact this;rw[hq] at J;refine oB (oE [] w) λr w1 e1 f1 C=>oH C 0 rfl _ rfl rfl rfl λw2 C _=>HM rfl<|qrN (h0.q7 C.fr) hl λw3 f3=>?_;have V:=C.fr.trans f3;apply dX<;>intro hc;have hu:gc M n=false:=(oP hc);exact aa (by rw[fq,iN ho,J];show (if gc M n then _ else _)=_;rw[hu];rfl) V;have hu:gc M n=true:=(oP hc);have R:fq M n=(0,{ M with J7:=ins n M.J7 }):=by rw[fq,iN ho,J];show (if gc M n then _ else _)=_;rw[hu];rfl
 have G:=I.q7 V;refine fu (io G.cell (pW defb) (Cx I.Q8) ?_);refine Dh G.J7 hd λax w4 ac f4 n4=>?_;have ad:=G.wE f4 ac n4;have:=hk _ w4 (by rw[R];exact⟨fb,defb,mb,sl,sn,F1,ax,_,rfl,ad⟩) ((V.mono (T:=pb::mb::(F1++F2)) λb E=>by cases E).j8 f4 λb E=>.inl (by simp[E])) λb E=>by rcases ED n4 b E with h1|h1;exact .inl h1;exact .inr (zL V.size h1)
 rw[R] at this;exact this
end
end
def qK (e:MapEntry):Int:=match e.key with | .int _ n=>n|_=>0
def qyV{es:List MapEntry}(h:mC i8 es f):es.map qK=f.map (·.1)/\∀e∈es,e.key=i8 (qK e):=by
 induction es generalizing f with
 | nil=>cases f with
  | nil=>exact⟨rfl,oL⟩
  | cons p f=>simp[mC] at h
 | cons e es ih=>cases f with
  | nil=>simp[mC] at h
  | cons p f=>
   simp only[mC,xN,List.cons.injEq,Prod.mk.injEq] at h;obtain⟨⟨C,U⟩,G⟩:=h;obtain⟨I,J⟩:=ih G;have E:qK e=p.1:=(by unfold qK;rw[C]);refine⟨by rw[xN,xN,E,I],λR u=>?_⟩;rcases zG.1 u with rfl|u;rw[E];exact C;exact J R u
def qqM{β:Type}{g:β->Nat}:∀ {l:List β} {e:β},(l.map g).Pairwise (· < ·)->e∈l->l.Perm (e::l.filter λx=>!(g x==g e))
 | x::l,e,u,C=>by
  rw[xN,yI] at u;rcases zG.1 C with rfl|C;have:(e::l).filter (λx=>!(g x==g e))=l:=by
   rw[filter_cons_of_neg oL];exact filter_eq_self.2 λy E=>by
    have:=u.1 (g y) (zY E);have h:g y≠g e:=oJ;simp[h]
  rw[this];have G:=u.1 (g e) (zY C);have h:g x≠g e:=oJ;rw[filter_cons_of_pos (by simp[h])];exact ((qqM u.2 C).cons x).trans (List.Perm.swap e x _)
def left (es:Array MapEntry) (seen:Array Nat):List MapEntry:=es.toList.filter λe=>!seen.toList.contains e.born
def qxm{es:Array MapEntry}{seen:Array Nat}{e:MapEntry}(hs:(es.toList.map (·.born)).Pairwise (· < ·))(he:e∈es.toList)(hn:e.born∉seen.toList):(left es seen).Perm (e::left es (seen.push e.born)):=by have h1:left es (seen.push e.born)=(left es seen).filter λx=>!(x.born==e.born):=(by rw[left,left,filter_filter];congr 1;funext x;rw[Array.toList_push];by_cases h:x.born=e.born<;>simp[h]);rw[h1];refine qqM (g:=λx:MapEntry=>x.born) ?_ (mem_filter.2 ⟨he,by simpa using hn⟩);exact hs.sublist (filter_sublist.map _)
def seenAt (w:Ic) (u:Nat):Nat:=match w.heap[u]? with|some (.mapIter _ _ h _)=>h.size|_=>0
def qqY{C:Nat}{a:Option Nat}{b c:Nat}{u:Array Nat}(h:w.heap[C]?=some (.mapIter a b u c)):seenAt w C=u.size:=by unfold seenAt;rw[h]
def qrc{rk:Nat}{K:Sl->WP}(hm:iG i8 w mb f)(hrk:w.heap[rk]?=some (.c #[.map (some mb)] T))(hf:f.length<=100000)(hk:∀s' B l' w',ln w' s' l' B->l'.Perm (f.map (·.1))->Fr [] w w'->(∀b∈B,w.heap.size<=b)->K s' w'): cW 248 [.slice none 0 0,.func (.func 224) #[] #[dG rk]] dh w K:=by
 refine qj1 (s:=dH) ?_;obtain⟨es,c,hb,he,hs,hc⟩:=hm;obtain⟨hkm,hkey⟩:=qyV he;have hesl:es.toList.length=f.length:=(by have:=H9 List.length hkm;simpa using this);have hbW:∀ {w':Ic},Fr [] w w'->w'.heap[mb]?=some (.map es c):=λf=>by rw[f.block mb (eX hb) oL];exact hb
 have hrW:∀ {w':Ic},Fr [] w w'->w'.heap[rk]?=some (.c #[.map (some mb)] T):=λf=>by rw[f.block rk (eX hrk) oL];exact hrk
 refine oB (oE [] w) λr1 w1 e1 f1 ho=>dR.jU (lb:=[dG rk]) ho rfl oK λDm l R Bz J E E0 w6 el eD f56 ho6 hy=>qoj<|io (c:=.map) (hrW ho6.fr) (some mb) rfl<|GM (ts:=dw) _ _ (qxS ye (hbW ho6.fr)) ?_;have ho7:=ho6.alloc (.mapIter (some mb) c #[] c);generalize hit:w6.heap.size=it at ho7;refine iX (λ_ w'=>∃(seen:Array Nat) (so:Sl) (xs:Il) (Bo:Ik),
   dR [] w w' [(it,.mapIter (some mb) c seen c),(l,R),(Dm,.deferred (some [])),(r1,.c #[so.v] 172)]/\(xs++(left es seen).map qK).Perm (f.map (·.1))/\xs.length=seen.size/\ln w' so xs Bo/\
   ∀b∈Bo,w.heap.size<=b/\b∉[it,l,Dm,r1]) (λ_ w'=>f.length-seenAt w' it)
  ⟨#[],dH,[],[],ho7,?_,rfl,.nil _ _ _,oL⟩ ?_
 have:left es #[]=es.toList:=(by unfold left;exact filter_eq_self.2 oL);rw[this,hkm];exact .refl _;rintro _ w8 ⟨seen,so,xs,Bo,ho8,hperm,hxl,hbu,hBo⟩ X hX;have hxs:xs.length+(left es seen).length=f.length:=(by have:=hperm.length_eq;simpa using this);refine qA4 (hbW ho8.fr) (ho8.at (i:=0) rfl) hc (λhall=>?_) λe hem hne w9 hsame=>?_;have hl0:left es seen=[]:=filter_eq_nil_iff.2 λe he=>by simpa using hall e he
 rw[hl0,map_nil,xG] at hperm;refine .inl ⟨ho8.at (i:=1) rfl,?_⟩;have ho9:=ho8.gS (o':=E0) 1 rfl;have hbu9:=hbu.q8 (sD (eX (ho8.at (i:=1) rfl)) E0) (λb hb hm=>by simp only[zE] at hm;subst hm;exact (hBo _ hb).2 oL);exact oA (c:=.slice) ho9 3 rfl so rfl<|dR.eH ho9.lz 2 rfl λw10 hd=>hk so Bo xs w10 (hbu9.q8 hd.fr λb hb=>(hBo b hb).2) hperm (ho9.back hd.fr) λb hb=>(hBo b hb).1;have ho9:=(ho8.q7 (.of_same hsame)).gS (o':=.mapIter (some mb) c (seen.push e.born) c) 0 rfl;have hbu9:ln (Pt.gS w9 it (.mapIter (some mb) c (seen.push e.born) c)) so xs Bo:=(hbu.q7 (.of_same hsame)).q8 (sD (eX ((ho8.q7 (.of_same hsame)).at (i:=0) rfl)) _) (λb hb hm=>by simp only[zE] at hm;subst hm;exact (hBo _ hb).2 oL);generalize hw10:Pt.gS w9 it (.mapIter (some mb) c (seen.push e.born) c)=w10 at ho9 hbu9;refine qAM (hbW ho9.fr) (ho9.at (i:=0) rfl) hem hs ?_;rw[hkey e hem];refine hy (qK e) w10 _ (ho9.at (i:=1) rfl) ?_;dsimp only;refine⟨ho9.at (i:=1) rfl,?_⟩;have hoA:=ho9.gS (o':=Bz) 1 rfl;have hbuA:=hbu9.q8 (sD (eX (ho9.at (i:=1) rfl)) Bz) (λb hb hm=>by simp only[zE] at hm;subst hm;exact (hBo _ hb).2 oL);refine oA (c:=.slice) hoA 3 rfl so rfl<|Ei hbuA oJ λs11 B11 w11 b11 f11 n11=>?_;have hLlt:∀p∈[it,l,Dm,r1],p<(Pt.gS w10 l Bz).heap.size:=λp hp=>by have hlt:=λ(k:Nat) (q:Nat×Obj) (hq:_[k]?=some q)=>eX (hoA.at (i:=k) hq);simp only[zG,xW,or_false] at hp;rcases hp with rfl|rfl|rfl|rfl;exact hlt 0 _ rfl;exact hlt 1 _ rfl;exact hlt 2 _ rfl;exact hlt 3 _ rfl
 have hB11:∀b∈B11,w.heap.size<=b/\b∉[it,l,Dm,r1]:=λb hb=>by rcases n11 b hb with h|h;exact hBo b h;refine⟨zL hoA.fr.size h,λhm=>?_⟩;exact Nat.lt_irrefl _ (yC (hLlt b hm) h)
 have hoB:=hoA.q8 f11 (λb hb=>.inr (hBo b hb).1) λp hp hb=>(hBo _ hb).2 (zY (f:=(·.1)) hp);refine oD hoB 3 rfl _ λw12 hoC f12=>⟨hoC.at (i:=1) rfl,?_⟩;have hoD:=hoC.gS (o':=R) 1 rfl;have b12:=(b11.q8 f12 (λb hb hm=>by simp only[zE] at hm;subst hm;exact (hB11 _ hb).2 oL)).q8 (sD (eX (hoC.at (i:=1) rfl)) R) (λb hb hm=>by simp only[zE] at hm;subst hm;exact (hB11 _ hb).2 oL);refine HM rfl ?_;have hpk:=qxm hs hem hne;refine hX _ _ ⟨seen.push e.born,s11,xs++[qK e],B11,hoD,?_,by simp[hxl],b12,hB11⟩ ?_;refine List.Perm.trans ?_ hperm;rw[zV];exact (hpk.symm.map qK).append_left xs;have h1:=qqY (ho8.at (i:=0) rfl);have h2:seenAt (Pt.gS w12 l R) it=(seen.push e.born).size:=qqY (hoD.at (i:=0) rfl);have h3:=hpk.length_eq;rw[yH] at h3;show f.length-seenAt (Pt.gS w12 l R) it<f.length-seenAt w8 it;rw[h1,h2,Array.size_push];omega
abbrev lU:={l:Il // l.length=512}
def jc (b:lU):List Ie:=b.1.map (Value.int .u8)
def sL(b:lU):(jc b).length=512:=by rw[jc,zK,b.2]
def lW (x:Int×lU):List Ie:=Value.int .i64 x.1::jc x.2
def u0(x:Int×lU):(lW x).length=513:=by rw[lW,yH,sL]
def lU.zero:lU:=⟨zs 512,ot 512⟩
structure dJ where
 Q6:List lU
 Q7:List (Int×lU)
 y5:Int
 down:Bool
 writes:Int
variable {D:dJ}
structure dJ.Ok (D:dJ):Prop where
 at_:∀ x∈D.Q7,0<=x.1/\x.1<D.Q6.length
 y5:-1<=D.y5/\D.y5<=1000000000
 Q6:D.Q6.length<=4096
 Q7:D.Q7.length<=1000000
 writes:0<=D.writes/\D.writes<=1000000000
 nY:∀ b∈D.Q6,eI b.1
 nW:∀ x∈D.Q7,eI x.2.1
abbrev DT:If:=263
def ju (D:dJ) (sb:Nat) (h:Sl):Array Ie:=#[.slice (pW sb) D.Q6.length D.Q6.length,h.v,.i D.y5,.bool D.down,.i D.writes]
def eQ (w:Ic) (db:Nat) (F:Ik) (D:dJ):Prop:=
 ∃(sb:Nat) (T:If) (h:Sl) (B:Ik),F=db::sb::B/\(db::sb::B).Nodup/\w.heap[db]?=some (.c (ju D sb h) DT)/\w.heap[sb]?=some (.c (D.Q6.flatMap jc).toArray T)/\eU lW 513 w h D.Q7 B
def eQ.q8{w w':Ic}{db:Nat}{F S:Ik}{D:dJ}(h:eQ w db F D)(f:Fr S w w')(u:∀b∈F,b∉S):eQ w' db F D:=by obtain⟨sb,T,C,B,rfl,I,E,G,J⟩:=h;exact⟨sb,T,C,B,rfl,I,by rw[f.block db (eX E) (u _ oL)];exact E,by rw[f.block sb (eX G) (u _ oL)];exact G,J.q8 f λb R=>u b (by simp[R])⟩
def eQ.q7{db:Nat}(h:eQ w db F D)(f:Fr [] w w'):eQ w' db F D:=h.q8 f (λ_ _ h=>by cases h)
def eQ.lt{w:Ic}{db:Nat}{F:Ik}{D:dJ}(h:eQ w db F D):∀b∈F,b<w.heap.size:=by obtain⟨sb,T,C,B,rfl,J,E,G,I⟩:=h;intro b u;simp only[zG] at u;rcases u with rfl|rfl|u;exact eX E;exact eX G;exact I.lt b u
def eQ.cell{db:Nat}(h:eQ w db F D):∃sb u,w.heap[db]?=some (.c (ju D sb u) DT):=by obtain⟨sb,T,u,B,rfl,E,C,G,I⟩:=h;exact⟨sb,u,C⟩
def eQ.mem{db:Nat}(h:eQ w db F D):db∈F:=by obtain⟨sb,T,u,B,rfl,_⟩:=h;simp
def rY (D:dJ) (sb c:Nat) (h:Sl):Array Ie:=#[.slice (pW sb) D.Q6.length c,h.v,.i D.y5,.bool D.down,.i D.writes]
def we (w:Ic) (db:Nat) (F:Ik) (D:dJ) (c:Nat) (Z:List Ie):Prop:=
 ∃(sb:Nat) (T:If) (h:Sl) (B:Ik),F=db::sb::B/\(db::sb::B).Nodup/\w.heap[db]?=some (.c (rY D sb c h) DT)/\w.heap[sb]?=some (.c (D.Q6.flatMap jc++Z).toArray T)/\eU lW 513 w h D.Q7 B
def eQ.z{db:Nat}(h:eQ w db F D):we w db F D D.Q6.length []:=by obtain⟨sb,T,u,B,rfl,C,E,G,I⟩:=h;exact⟨sb,T,u,B,rfl,C,E,by rw[xG];exact G,I⟩
def eQ.x6{db:Nat}{D':dJ}{sb:Nat}{C:Sl}(h:eQ w db F D)(hc:w.heap[db]?=some (.c (ju D sb C) DT))(f:Fr [db] w w')(hs:D'.Q6=D.Q6)(hw:D'.Q7=D.Q7)(J:w'.heap[db]?=some (.c (ju D' sb C) DT)):eQ w' db F D':=by
 obtain⟨E,T,u,B,rfl,G,h1,V,h3⟩:=h;have I:E=sb/\u=C:=by have q:=h1.symm.trans hc;have q0:=H9 (λo=>match o with|some (Obj.cells R _ _)=>(match R[0]? with|some (Value.slice (some a) _ _)=>a.block|_=>0)|_=>0) q;have q1:=H9 (λo=>match o with|some (Obj.cells R _ _)=>R[1]? | _=>none) q;refine⟨q0,?_⟩;have q2:Value.slice u.a u.len u.cap=Value.slice C.a C.len C.cap:=yN q1;cases C;cases u;simp only[Value.slice.injEq] at q2;obtain⟨rfl,rfl,rfl⟩:=q2;rfl
 obtain⟨rfl,rfl⟩:=I;have U:E≠db:=λe=>by rw[e] at G;simp at G
 have hB:∀b∈B,b∉[db]:=λb hb I=>by simp at I;subst I;simp at G;exact G.1.2 hb
 exact⟨E,T,u,B,rfl,G,J,by rw[hs,f.block E (eX V) (oP U)];exact V,by rw[hw];exact h3.q8 f hB⟩
def Gn{db:Nat}(h:eQ w db F D)(u:K D.Q6.length w):cW 140 [dG db] di w K:=by refine qjP ?_;obtain⟨sb,C,E⟩:=h.cell;refine fu (io E ⟨pW sb,D.Q6.length,D.Q6.length⟩ rfl ?_);exact u
def mS (h:Nat):dJ:=⟨List.replicate h .zero,[],-1,false,0⟩
def qAi{n:Nat}(h:n<=4096):(mS n).Ok:=
 ⟨λ_ h=>(by cases h),⟨by show (-1:Int)<=-1;decide,by show (-1:Int)<=1000000000;decide⟩,by rw[mS];simpa using h,by simp[mS],by simp[mS],λb u=>by rw[eq_of_mem_replicate u];exact eI.zs 512,λ_ h=>(by cases h)⟩
def qtF(n:Nat)(b:lU):(List.replicate n (jc b)).flatten=(List.replicate n b).flatMap jc:=by rw[flatMap_def,map_replicate]
set_option maxRecDepth 100000 in
def qzA{h:Int}{K:Option Addr×Int->WP}(E:(h<8\/h>4096)->K (none,1) w)(J:8<=h->h<=4096->∀db F w',eQ w' db F (mS h.toNat)->Fr [] w w'->(∀b∈F,w.heap.size<=b)->K (pW db,0) w'): cW 106 [.i h] dD w K:=by
 refine qtB<|gP (λb w'=>b=decide (h<8\/h>4096)/\w'=w) ?_ ?_;apply dX<;>intro C;exact⟨by rw[zZ (Or.inl (zC C))],rfl⟩;have:=zB C;exact⟨by simp[this],rfl⟩;rintro b w1 ⟨rfl,rfl⟩;refine dX (λC=>E (zC C)) λC=>?_;have hr:=zB C;have R:8<=h:=oJ;have U:h<=4096:=oJ;obtain⟨n,rfl⟩:∃n:Nat,h=n:=⟨h.toNat,oJ⟩;refine dR.mkN (zero:=jc lU.zero) (oE [] w1) (sL _) oJ oJ oJ oJ λsb w2 e2 u=>dR.new u λdb V e3 s3 u=>?_;have G:(List.replicate (n:Int).toNat (jc lU.zero)).flatten=((mS n).Q6).flatMap jc:=(by rw[zJ];exact qtF n _);refine J R U db [db,sb] V ⟨sb,296,dH,[],rfl,?_,?_,?_,.nil _ _ _⟩ u.fr (λb I=>?_);have:=u.nodup;simpa using this;have:=u.at (i:=0) rfl;rw[this];simp[ju,mS];have:=u.at (i:=1) rfl;rw[this,zJ,<- G,zJ];simp at I;have:=u.own;rcases I with rfl|rfl;have:=u.own (b,_) (yE (i:=0) rfl);simpa using this;have:=u.own (b,_) (yE (i:=1) rfl);simpa using this
def gT (D:dJ):dJ×Bool:=if D.y5=0 then ({ D with down:=true },true) else if D.y5>0 then ({ D with y5:=D.y5-1 },false) else (D,false)
def qwD{db:Nat}{K:Bool->WP}(h:eQ w db F D)(hD:D.y5<=1000000000)(U:∀w',eQ w' db F (gT D).1->Fr [db] w w'->K (gT D).2 w'): cW 171 [dG db] dj w K:=by
 refine qmZ ?_;obtain⟨sb,G,I⟩:=h.cell;have u:dR [db] w w [(db,.c (ju D sb G) DT)]:=⟨by simpa using I,oL,.refl _ _,oL⟩;refine fu (Ii u 0 rfl D.y5 ?_);apply dX<;>intro J;have C:D.y5=0:=(oP J);refine fu<|oH u 0 rfl _ rfl rfl rfl λw1 u _=>?_
 have:=U w1 (by rw[gT,iP C];exact h.x6 I u.fr rfl rfl (u.at (i:=0) rfl)) u.fr;rw[gT,iP C] at this;exact this;have C:¬D.y5=0:=(oP J);refine gP (λ_ w'=>eQ w' db F (gT D).1/\Fr [db] w w') ?_ ?_;refine fu (Ii u 0 rfl D.y5 ?_);apply cD<;>intro R;have E:D.y5>0:=R;refine fu (Ii u 0 rfl D.y5 ?_);refine fu ?_;rw[gi _ oJ];refine oH u 0 rfl _ rfl rfl rfl λw1 u _=>⟨?_,u.fr⟩;rw[gT,iN C,iP E];exact h.x6 I u.fr rfl rfl (u.at (i:=0) rfl);have E:¬D.y5>0:=R;refine⟨?_,.refl _ _⟩;rw[gT,iN C,iN E];exact h;rintro _ w1 ⟨V,h2⟩;have:=U w1 V h2;have e:(gT D).2=false:=(by rw[gT,iN C];split<;>rfl);rw[e] at this;exact this
def qzv:∃i,prog.info? 298=some i/\(∃z,i.zero=some z/\z.cells.size=513)/\i.size=513/\i.bytes=520:=by have h:(prog.info? 298).map (λi=>(i.zero.map λz=>z.cells.size,i.size,i.bytes))=some (some 513,513,520):=oK;obtain⟨i,E,u⟩:=yS.1 h;simp only[Prod.mk.injEq] at u;obtain⟨z,G,C⟩:=yS.1 u.1;exact⟨i,E,⟨z,G,C⟩,u.2.1,u.2.2⟩
def lF (D:dJ) (n:Int) (b:lU):dJ:={ D with Q7:=D.Q7++[(n,b)],writes:=D.writes+1 }
def eA (D:dJ) (n:Int) (l:Il):dJ×Int:=
 if D.down then (D,7) else if n<0\/n>=D.Q6.length then (D,4) else
 if h:l.length=512 then ((gT (lF D n ⟨l,h⟩)).1,if (gT (lF D n ⟨l,h⟩)).2 then 7 else 0) else (D,1)
def qtv(n:Int)(b:lU)(w:Ic):(Instr.build 298 #[(0,.i n),(1,.agg (jc b).toArray)]).run prog w=.ok (.agg (lW (n,b)).toArray) w:=by
 obtain⟨z,hz,hzs⟩:∃z,(prog.info? 298).bind (·.zero)=some z/\z.cells.size=513:=by obtain⟨i,hi,⟨z,hz,hzs⟩,_⟩:=qzv;exact⟨z,by rw[hi];exact hz,hzs⟩
 have:=qoL (P:=prog) (a:=.i n) (b:=.agg (jc b).toArray) (o1:=1) (s0:=1) (s1:=512) hz oK (λw=>oK) rfl (by show (jc b).toArray.size=512;rw[size_toArray,sL]) rfl hzs w;exact this
def qlH(l:Il):((l.map (Value.int .u8)).all Value.oneCell')=true:=by rw[HX];intro v h;obtain⟨x,_,rfl⟩:=mem_map.1 h;rfl
def qr8(b:lU):((jc b).all Value.oneCell')=true:=qlH _
def Ec(x:Int×lU):((lW x).all Value.oneCell')=true:=by rw[lW,all_cons,qr8];rfl
def qxJ(h:en S w s l)(E:l≠[]):∃b o u T C,s.a=some (dg b o)/\w.heap[b]?=some (.cells u T C)/\b∉S/\(u.toList.drop o).take l.length=l.map (Value.int .u8):=by
 rcases h.2.2 with G|⟨b,o,u,T,C,I,J,R,U⟩;exact absurd G E;refine⟨b,o,u,T,C,I,J,R,?_⟩;apply ext_getElem?;intro i;rw[xA,zQ];by_cases hi:i<l.length;rw[iP hi,yZ,zA hi];have:=U i l[i] (zA hi);rw[xS] at this;have:=H9 (·[0]?) this;simpa using this;rw[iN hi,yR oJ];rfl
def qpV{db:Nat}(h:eQ w db F D)(hD:D.Ok)(hs:en S w s l)(hk:∀F' w',eQ w' db F' (eA D n l).1->Fr F w w'->(∀b∈F',b∈F\/w.heap.size<=b)->K (eA D n l).2 w'): cW 138 [dG db,.i n,s.v] di w K:=by
 refine qkm (d:=pW db) (b:=s) ?_;have hlen:=hs.1;have hdb:=h.mem;obtain⟨sb,T,wsl,B,hF,hn,hc,hsb,hbuf⟩:=h;have h:eQ w db F D:=⟨sb,T,wsl,B,hF,hn,hc,hsb,hbuf⟩;have ho:dR F w w [(db,.c (ju D sb wsl) DT)]:=⟨by simpa using hc,oL,.refl _ _,by simp[hdb]⟩;refine fu (oA (c:=.bool) ho 0 rfl D.down rfl ?_);have same:∀ {e:Int},eA D n l=(D,e)->∀ {w'},w'=w->K e w':=by
  rintro e he w' rfl;have:=hk F w' (by rw[he];exact h) (.refl _ _) (λb hb=>.inl hb);rw[he] at this;exact this
 refine dX (λhd=>same (by rw[eA,iP hd]) rfl) λhd=>gP (λb w'=>b=decide (n<0\/n>=D.Q6.length)/\w'=w) ?_ ?_;apply dX<;>intro hc;exact⟨by rw[zZ (Or.inl (zC hc))],rfl⟩;refine fu (oA (c:=.slice) ho 0 rfl ⟨pW sb,D.Q6.length,D.Q6.length⟩ rfl ⟨?_,rfl⟩);have:=zB hc;by_cases h2:n>=D.Q6.length<;>simp[this,h2];rintro b w1 ⟨rfl,rfl⟩;refine dX (λhr=>same (by rw[eA,iN (oP hd),iP (zC hr)]) rfl) λhr=>?_;have hr':=zB hr;refine dX (λhq=>same ?_ rfl) λhq=>?_;have:¬l.length=512:=(by simp at hq;omega);rw[eA,iN (oP hd),iN hr',dif_neg this];have h512:l.length=512:=(by simp at hq;omega);obtain⟨eJ,hblk⟩:∃eJ:lU,eJ.1=l:=⟨⟨l,h512⟩,rfl⟩;have hw:eA D n l=((gT (lF D n eJ)).1,if (gT (lF D n eJ)).2 then 7 else 0):=by rw[eA,iN (oP hd),iN hr',dif_pos h512];have:eJ=⟨l,h512⟩:=Subtype.ext hblk;rw[this]
 rw[hw] at hk;have hd1:=ho.drew;refine fu (oA (c:=.slice) hd1 0 rfl wsl rfl ?_);obtain⟨sbk,so,scs,sT,sfr,hsa,hsbk,hsS,hscs⟩:=qxJ hs (by rw[<- length_pos_iff];omega);obtain⟨sa,slen,scap⟩:=s;simp only at hsa hlen;subst hsa;refine qA9 oJ<|nP (n:=512) (w:=w1.drew) hsbk (jc eJ) (sL _) (by rw[<- h512,hscs,jc,hblk])<|qu (ts:=[.jX]) (lW (n,eJ)) (qtv n eJ _)<|m8 (u0 _)<|oB hd1 λr w2 er fr2 ho2=>ik (ho2.cell (off:=1) 1 rfl rfl) ?_;obtain⟨iW,hi,⟨z,hz,hzs⟩,hsz,hby⟩:=qzv;have hwl:=hD.Q7;have hwr:=hD.writes;have hfz:=hD.y5;have fr2':Fr [] w1 w2:=(Fr.refl [] w1).drew.trans fr2;have hbuf2:eU lW 513 w2 wsl D.Q7 B:=hbuf.q7 fr2';have hsb2:w2.heap[sb]?=some (.c (D.Q6.flatMap jc).toArray T):=(by rw[fr2'.block sb (eX hsb) oL];exact hsb);have hBF:∀b∈B,b∈F:=λb hb=>by rw[hF];simp[hb]
 have hdbB:∀b∈B,b≠db:=λb hb e=>by subst e;simp at hn;exact hn.1.2 hb
 have hsbB:∀b∈B,b≠sb:=λb hb e=>by subst e;simp at hn;exact hn.2.1 hb
 have hrB:∀b∈B,b≠r:=λb hb e=>by have:=hbuf.lt b hb;have e1:w1.drew.heap.size=w1.heap.size:=rfl;omega
 refine eU.j1 (ys:=[(n,eJ)]) (e:=298) hbuf2 u0 oK hi hz hsz hzs (.ofSlice _ (e':=298) oK _ 1 1 _ ?_ ?_ ?_) rfl (by rw[hby];omega) oJ λs' B' w3 g1 g2 g3 _=>?_;simp[u0];intro j u hj;rw[Addr.q9,jp (ho2.at (i:=0) rfl),xR];have:(lW (n,eJ))[j]?=some u:=(oP hj);simpa using this;intro u hu;have:u∈lW (n,eJ):=(oP hu);exact all_eq_true.1 (Ec (n,eJ)) u this;have ho3:dR F w1 w3 [(r,.c (lW (n,eJ)).toArray 298),(db,.c (ju D sb wsl) DT)]:=
  ho2.q8 g2 (λb hb=>.inl (hBF b hb)) (λp hp=>by simp at hp;rcases hp with rfl|rfl;exact λhb=>hrB _ hb rfl;exact λhb=>hdbB _ hb rfl)
 have hsb3:w3.heap[sb]?=some (.c (D.Q6.flatMap jc).toArray T):=(by rw[g2.block sb (eX hsb2) λhb=>hsbB _ hb rfl];exact hsb2);have hc3:=ho3.at (i:=1) rfl;refine fu<|qY hc3 (ju { D with Q7:=D.Q7++[(n,eJ)] } sb s') rfl rfl (zO rfl) λw4 hc4 f4=>fu (io (c:=.i) hc4 D.writes rfl ?_);refine fu ?_;rw[gi (D.writes+1) oJ];refine qY hc4 (ju (lF D n eJ) sb s') rfl rfl (zO rfl) λw5 hc5 f5=>?_;have hs2:=fr2'.size;have hs3:=g2.size;have hne:sb≠db:=λe=>by rw[e] at hn;simp at hn
 have f35:Fr [db] w3 w5:=f4.trans f5;have hB'db:∀b∈B',b≠db:=λb hb e=>by
  rcases g3 b hb with h'|h';exact hdbB b h' e;have:=eX hc;omega
 have hB'sb:∀b∈B',b≠sb:=λb hb e=>by
  rcases g3 b hb with h'|h';exact hsbB b h' e;have:=eX hsb;omega
 have hB'n:B'.Nodup:=by rcases g1 with ⟨_,_,rfl⟩|⟨b',o',cs',T',rfl,_⟩;simp;simp
 have h5:eQ w5 db (db::sb::B') (lF D n eJ):=(by refine⟨sb,T,s',B',rfl,?_,hc5,?_,?_⟩;simp only[nodup_cons,zG,not_or];exact⟨⟨λe=>hne e.symm,λhb=>hB'db _ hb rfl⟩,λhb=>hB'sb _ hb rfl,hB'n⟩;rw[f35.block sb (eX hsb3) (oP hne)];exact hsb3;exact g1.q8 f35 (λb hb=>by simpa using hB'db b hb));have hF':∀b∈db::sb::B',b∈F\/w1.heap.size<=b:=λb hb=>by simp only[zG] at hb;rcases hb with rfl|rfl|hb;exact .inl hdb;exact .inl (by rw[hF];simp);rcases g3 b hb with h'|h';exact .inl (hBF b h');exact .inr oJ
 have f15:Fr F w1 w5:=((fr2'.mono λi hi _=>by cases hi).j8 g2 λb hb=>.inl (hBF b hb)).j8 f35 (λb hb=>by simp at hb;subst hb;exact .inl hdb);refine qwD h5 (by show D.y5<=_;omega) λw6 h6 f6=>?_;have:=hk (db::sb::B') w6 h6 (f15.j8 f6 (λb hb=>by simp at hb;subst hb;exact .inl hdb)) hF';apply dX<;>intro ha;rw[ha] at this;exact this;rw[ha] at this;exact this
def fW (s:List lU) (x:Int×lU):List lU:=s.set x.1.toNat x.2
def A0(l:List (Int×lU)):∀s:List lU,(l.foldl fW s).length=s.length:=by
 induction l with
 | nil=>intro s;rfl
 | cons x l ih=>intro s;rw[foldl_cons,ih,fW,xF]
def fV (D:dJ):dJ×Int:=
 if D.down then (D,7) else if (gT D).2 then ((gT D).1,7) else ({ (gT D).1 with Q6:=D.Q7.foldl fW D.Q6,Q7:=[] },0)
def yg(D:dJ):(gT D).1.Q6=D.Q6/\(gT D).1.Q7=D.Q7:=by unfold gT;split;exact⟨rfl,rfl⟩;split<;>exact⟨rfl,rfl⟩
def qrH{db:Nat}(h:eQ w db F D)(hD:D.Ok)(hk:∀F' w',eQ w' db F' (fV D).1->Fr F w w'->(∀b∈F',b∈F)->K (fV D).2 w'): cW 139 [dG db] di w K:=by
 refine qlJ ?_;have ah:=h.mem;have aJ:=hD.y5;refine gP (λb w'=>(D.down=true/\b=true/\w'=w)\/(D.down=false/\b=(gT D).2/\eQ w' db F (gT D).1/\Fr [db] w w')) ?_ ?_;obtain⟨sb,C,hc⟩:=h.cell;refine fu (io hc D.down rfl ?_);exact dX (λU=>.inl ⟨U,rfl,rfl⟩) λU=>qwD h oJ λw1 h1 f1=>.inr ⟨U,rfl,h1,f1⟩;rintro b w1 (⟨U,rfl,rfl⟩|⟨U,rfl,h1,f1⟩);refine HK rfl ?_;have:=hk F w1 (by rw[fV,iP U];exact h) (.refl _ _) (λb hb=>hb);rw[fV,iP U] at this;exact this;have fF:Fr F w w1:=f1.mono (λi E _=>by simp at E;subst E;exact ah);apply dX<;>intro ha;have:=hk F w1 (by rw[fV,iN (by simp[U]),iP ha];exact h1) fF (λb hb=>hb);rw[fV,iN (by simp[U]),iP ha] at this;exact this;have ax:fV D=({ (gT D).1 with Q6:=D.Q7.foldl fW D.Q6,Q7:=[] },0):=(by rw[fV,iN (by simp[U]),iN (by simp[ha])]);rw[ax] at hk;obtain⟨aa,ak⟩:=yg D;generalize (gT D).1=D1 at h1 aa ak hk;obtain⟨sb,T,C,B,hF,hn,hc,am,G⟩:=h1;rw[aa] at am;rw[ak] at G;have ad:sb≠db:=λe=>by rw[e] at hn;simp at hn
 have hB:∀b∈B,b∉[sb]:=λb hb he=>by simp at he;subst he;simp at hn;exact hn.2.1 hb
 have aL:=G.len;have ay:=hD.Q7;have az:=hD.Q6;refine fu (io hc C rfl ?_);refine iX (λx w'=>∃i:Nat,x=i/\i<=D.Q7.length/\w'.heap[sb]?=some (.c (((D.Q7.take i).foldl fW D.Q6).flatMap jc).toArray T)/\Fr [sb] w1 w') (λx _=>((D.Q7.length:Int)-x).toNat)
  ⟨0,rfl,oJ,am,.refl _ _⟩ ?_
 rintro x w2 ⟨i,rfl,E,I,f2⟩ X hX;have ae:w2.heap[db]?=some (.c (ju D1 sb C) DT):=(by rw[f2.block db (eX hc) (by simpa using λe=>ad e.symm)];exact hc);apply cD<;>intro J;have R:i<D.Q7.length:=oJ;have aA:ee lW 513 [] w2 C D.Q7:=(G.q8 f2 hB).jz u0 oL;have an:=zA R;have aN:=hD.at_ D.Q7[i] (zW R);refine aA.gW u0 i rfl an<|dR.rT (oE [] w2) oK (u0 _) (Ec _) λr V er ho=>?_;have aB:V.heap[sb]?=some (.c (((D.Q7.take i).foldl fW D.Q6).flatMap jc).toArray T):=(by rw[ho.fr.block sb (eX I) oL];exact I);have af:V.heap[db]?=some (.c (ju D1 sb C) DT):=(by rw[ho.fr.block db (eX ae) oL];exact ae);refine fu (io (w:=V.drew) af ⟨pW sb,D1.Q6.length,D1.Q6.length⟩ rfl ?_);have ao:=ho.at (i:=0) rfl;refine io (w:=V.drew) ao D.Q7[i].1 rfl<|nP (n:=512) (w:=V.drew) ao (jc D.Q7[i].2) (sL _) (by rw[show (lW D.Q7[i]).toArray.toList.drop 1=jc D.Q7[i].2 from rfl,zS (by rw[sL];exact zM _)]) ?_;have u:=A0 (D.Q7.take i) D.Q6;refine ur oJ (by rw[aa];omega)<|m8 (sL _) ?_;have ab:0+Int.toNat D.Q7[i].1*512+(jc D.Q7[i].2).length<=(((D.Q7.take i).foldl fW D.Q6).flatMap jc).toArray.size:=by rw[size_toArray,qx sL,sL,u];omega
 refine qY (w:=V.drew) aB (((((D.Q7.take i).foldl fW D.Q6).set D.Q7[i].1.toNat D.Q7[i].2).flatMap jc).toArray) (by rw[xR];exact qtZ sL ((D.Q7.take i).foldl fW D.Q6) D.Q7[i].1.toNat D.Q7[i].2 (by rw[u];omega)) (qr8 _) ab λw4 aC f4=>?_;rw[gi _ oJ];refine hX _ _ ⟨i+1,oL,oJ,?_,?_⟩ oJ;rw[yF R,foldl_append];exact aC;have aD:Fr [sb] w2 V.drew:=ho.fr.drew.mono (λi E _=>by cases E);exact f2.trans (aD.trans f4);have R:i=D.Q7.length:=oJ;subst R;rw[xY] at I;refine fu ?_;have u:=A0 D.Q7 D.Q6;refine qY ae (ju { D1 with Q6:=D.Q7.foldl fW D.Q6,Q7:=[] } sb dH) (by simp[dS,ju,u,aa]) rfl (zO rfl) λV af f3=>?_;have aE:Fr F w V:=(fF.trans (f2.mono (λi E _=>by simp at E;subst E;rw[hF];simp))).trans (f3.mono (λi E _=>by simp at E;subst E;exact ah));refine hk [db,sb] V ⟨sb,T,dH,[],rfl,by simpa using λe=>ad e.symm,af,?_,.nil _ _ _⟩ aE (λb hb=>by rw[hF];simp at hb;rcases hb with rfl|rfl<;>simp);rw[f3.block sb (eX I) (oP ad)];exact I
def iF (n:Int):List (Int×lU)->Option lU
 | []=>none
 | x::r=>match iF n r with|some b=>some b|none=>if x.1=n then some x.2 else none
def qqy{n:Int}:∀(l:List (Int×lU)) (i:Nat) (h:i<l.length),iF n (l.drop (i+1))=none->l[i].1=n->iF n l=some l[i].2
 | x::l,0,h,u,C=>by simp only[xR,drop_succ_cons,xE] at u;simp only[getElem_cons_zero] at C⊢;simp[iF,u,C]
 | x::l,i+1,h,u,C=>by
  have:=qqy l i (oP h) (oP u) (oP C);simp only[iF,this,getElem_cons_succ]
def qvJ:∀(l:List (Int×lU)) (i:Nat) (h:i<l.length),iF n (l.drop (i+1))=none->l[i].1≠n->iF n (l.drop i)=none:=by intro l i h C u;rw[zX h,iF,C];simp[u]
def eE (D:dJ) (n:Int):List Int×Int:=
 if D.down then ([],7) else if n<0\/n>=D.Q6.length then ([],4) else
 match iF n D.Q7 with|some b=>(b.1,0)|none=>((D.Q6.getD n.toNat .zero).1,0)
def qs9{b o n:Nat}{h:Nat}{K:Sl->Prop}(u:0<n)(k:K ⟨some (dg b o),n,n⟩):iO (dg b o) n none none none h K:=by unfold iO;refine⟨oL,?_⟩;simp only[xV,zJ,Int.toNat_zero,Nat.sub_zero,Nat.zero_mul];rw[iN,Fj];exact k
def qr9{b o:Nat}{h:Iu}{x:lU}(G:w.heap[b]?=some (.cells cs T h))(I:(cs.toList.drop o).take 512=jc x)(J:b∉S):en S w ⟨some (dg b o),512,512⟩ x.1:=by
 refine⟨x.2.symm,zM _,.inr ⟨b,o,cs,T,h,rfl,G,J,λi v u=>?_⟩⟩;have C:=(zP.1 u).1;rw[x.2] at C;rw[xS];have E:(jc x)[i]?=some (.b v):=(by rw[jc,zQ,u];rfl);rw[<- I,xA,iP C,yZ] at E;apply ext_getElem?;intro j;rw[xA,yZ];match j with
 | 0=>simpa using E
 | j+1=>simp
def qtq{K:Ie->WP}(u:∀rb w',(∀S w0 L,dR S w0 w L->dR S w0 w' ((rb,.c #[s.v] 261)::L))->K (.func (.func 228) #[] #[dG rb]) w'): cW 187 [s.v] dw w K:=by exact qk4<|Pt.As (u _ _ λS w0 L h=>h.alloc _)
def qtE(l:List lU)(i:Nat)(x:lU)(h:l[i]?=some x):((l.flatMap jc++Z).drop (i*512)).take 512=jc x:=by have C:=(zP.1 h).1;have u:(l.flatMap jc).length=l.length*512:=qx sL l;rw[HV (by rw[u];omega),HP (by rw[yB,u];omega)];exact Hm sL l i x h
def qwn{db c:Nat}{K:It->WP}(h:we w db F D c Z)(hD:D.Ok)(hk:∀s' B w',fR w' s' (eE D n).1 B->Fr [] w w'->(∀b∈B,w.heap.size<=b)->K (s',(eE D n).2) w'): cW 156 [dG db,.i n] dm w K:=by
 refine qlI<|oB (oE [] w) λr1 w1 e1 f1 G=>oB G λr3 w2 e2 f2 G=>oB G λr5 w3 e3 f3 G=>?_;obtain⟨sb,T,ac,B,hF,hn,hc,aA,al⟩:=h;have ai:∀ {w':Ic},Fr [] w w'->w'.heap[db]?=some (.c (rY D sb c ac) DT):=λf=>by rw[f.block db (eX hc) oL];exact hc
 have aB:∀ {w':Ic},Fr [] w w'->w'.heap[sb]?=some (.c (D.Q6.flatMap jc++Z).toArray T):=λf=>by rw[f.block sb (eX aA) oL];exact aA
 have aC:∀ {e:Int} {w':Ic} {L'},eE D n=([],e)->dR [] w w' L'->L'[1]?=some (r3,.c #[.slice none 0 0] 101)->L'[0]?=some (r5,.c #[.i e] 69)->ld Cell.slice (dg r3) w' λs=>ld .i (dg r5) w' λx=>K (s,x) w':=by
  intro e w' L' he G h1 h0;refine oA G 1 h1 dH rfl<|oA G 0 h0 e rfl ?_;have:=hk dH [] w' (by rw[he];exact .nil _ _ _) G.fr oL;rw[he] at this;exact this
 refine fu (io (ai G.fr) D.down rfl ?_);apply dX<;>intro hd;exact oH G 1 rfl _ rfl rfl rfl λw4 G _=>oH G 0 rfl _ rfl rfl rfl λw5 G _=>aC (by rw[eE,iP hd]) G rfl rfl;refine gP (λb w'=>b=decide (n<0\/n>=D.Q6.length)/\w'=w3.drew) ?_ ?_;refine Ii G.drew 2 rfl n<|dX (λhc=>?_) λaT=>?_;exact⟨by rw[zZ (Or.inl (zC hc))],rfl⟩;refine Ii G.drew 2 rfl n<|fu (io (ai G.drew.fr) ⟨pW sb,D.Q6.length,c⟩ rfl ⟨?_,rfl⟩)
 have:=zB aT;by_cases h2:n>=D.Q6.length<;>simp[this,h2];rintro b w4 ⟨rfl,rfl⟩;apply cD<;>intro hr;exact oH G.drew 1 rfl _ rfl rfl rfl λw4 G _=>oH G 0 rfl _ rfl rfl rfl λw5 G _=>aC (by rw[eE,iN (oP hd),iP (hr)]) G rfl rfl;have aV:=hr;have aW:0<=n:=oJ;have aX:n<D.Q6.length:=oJ;have aY:=hD.Q7;have aZ:=hD.Q6;have a0:=al.len;have aG:eE D n=match iF n D.Q7 with|some b=>(b.1,0)|none=>((D.Q6.getD n.toNat .zero).1,0):=by rw[eE,iN (oP hd),iN aV]
 refine fu (io (ai G.drew.fr) ac rfl ?_);refine qtq λrb w5 a1=>?_;have a2:=a1 _ _ _ G.drew;refine dR.jU (lb:=[dG rb]) a2 rfl oK λDm l R Bz J E E0 w6 el eD bk aK hy=>qil<|Ii aK 2 rfl ac ?_;rw[gi _ oJ];have aL:∀ {bl:lU} {s7:Sl} {Bf:Ik} {ad wz:Ic} {aj:Ip},eE D n=(bl.1,0)->dR [] w ad aj->fR ad s7 bl.1 Bf->(∀b∈Bf,w.heap.size<=b)->(∀b∈Bf,b∉aj.map (·.1))->Fr (aj.map (·.1)) ad wz->K (s7,0) wz:=by
  intro bl s7 Bf ad wz aj he a4 af U V fz;have:=hk s7 Bf wz (by rw[he];exact af.q8 fz V) (a4.back fz) U;rw[he] at this;exact this
 refine iX (λx w'=>∃i:Nat,x=(i:Int)-1/\i<=D.Q7.length/\iF n (D.Q7.drop i)=none/\dR [] w w' [(l,R),(Dm,.deferred (some [])),(rb,.c #[ac.v] 261),(r5,.c #[.i 0] 69),(r3,.c #[.slice none 0 0] 101),(r1,.c #[.i n] 3)]) (λx _=>(x+1).toNat)
  ⟨D.Q7.length,by rw[a0],zM _,by rw[drop_length];rfl,aK⟩ ?_
 rintro x w7 ⟨i,rfl,hi,ak,ae⟩ X hX;apply cD<;>intro ap;have bo:=ap;obtain⟨i,rfl⟩:∃k,i=k+1:=⟨i-1,oJ⟩;have aq:i<D.Q7.length:=oJ;refine Ii ae 2 rfl ac ?_;have a5:ee lW 513 [] w7 ac D.Q7:=(al.q7 ae.fr).jz u0 oL;refine a5.gW u0 i oJ (zA aq)<|hy ((((i+1:Nat):Int)-1),lW D.Q7[i]) w7 _ (ae.at (i:=0) rfl) ?_;dsimp only;refine dR.rT ae oK (u0 _) (Ec _) λr w8 er I=>⟨I.at (i:=1) rfl,?_⟩;have aa:=I.gS (o':=Bz) 1 rfl;refine oA aa 0 rfl D.Q7[i].1 rfl<|Ii aa 6 rfl n ?_;apply dX<;>intro hm;have au:D.Q7[i].1=n:=(oP hm);have av:=qqy D.Q7 i aq ak au;have ag:eE D n=(D.Q7[i].2.1,0):=(by rw[aG,av]);refine qs9 oM ?_;have aw:en [] (Pt.gS w8 l Bz) ⟨some (dg r 1),512,512⟩ D.Q7[i].2.1:=
  qr9 (x:=D.Q7[i].2) (aa.at (i:=0) rfl) (by rw[show (lW D.Q7[i]).toArray.toList.drop 1=jc D.Q7[i].2 from rfl,zS (by rw[sL];exact zM _)]) oL
 refine An (s:=⟨some (dg r 1),512,512⟩) aw (by rw[D.Q7[i].2.2];decide) λs7 Bf ad af ax ah _ _=>?_;have ab:=aa.q7 ax;have u:=ab.lz;have U:∀b∈Bf,w.heap.size<=b:=λb hb=>by have h1:(Pt.gS w8 l Bz).heap.size<=b:=ah b hb;have:=aa.fr.size;omega
 have V:∀b∈Bf,b∉[r,l,Dm,rb,r5,r3,r1]:=λb hb hm=>by
  have h1:(Pt.gS w8 l Bz).heap.size<=b:=ah b hb;have h2:∀p∈[r,l,Dm,rb,r5,r3,r1],p<(Pt.gS w8 l Bz).heap.size:=λp hp=>by have C:=λ(k:Nat) (q:Nat×Obj) (hq:_[k]?=some q)=>eX (aa.at (i:=k) hq);simp only[zG,xW,or_false] at hp;rcases hp with rfl|rfl|rfl|rfl|rfl|rfl|rfl;exact C 0 _ rfl;exact C 1 _ rfl;exact C 2 _ rfl;exact C 3 _ rfl;exact C 4 _ rfl;exact C 5 _ rfl;exact C 6 _ rfl
  have:=h2 b hm;omega
 refine oH u 5 rfl _ rfl rfl rfl λa7 u _=>oH u 4 rfl _ rfl rfl rfl λa8 u _=>⟨u.at (i:=1) rfl,?_⟩;have u:=u.gS (o':=J 0) 1 rfl;refine HK rfl<|.inr ⟨0,_,rfl,u.at (i:=1) rfl,?_⟩;have u:=u.gS (o':=E 0) 1 rfl;exact dR.eH u 2 rfl λa9 u=>Ii u 5 rfl s7<|Ii u 4 rfl 0<|aL ag ab af U V u.fr;have au:D.Q7[i].1≠n:=(oP hm);refine⟨aa.at (i:=1) rfl,?_⟩;have a':=aa.gS (o':=R) 1 rfl;refine HM rfl ?_;rw[gi _ oJ];refine hX _ _ ⟨i,oJ,oJ,qvJ D.Q7 i aq ak au,a'.sub (H0 _ _)⟩ oJ;have C:=ap;obtain rfl:i=0:=by omega
 rw[xE] at ak;refine .inl ⟨ae.at (i:=0) rfl,?_⟩;have I:=(ae.gS (o':=E0) 0 rfl).drew;have ag:eE D n=((D.Q6.getD n.toNat .zero).1,0):=(by rw[aG,ak]);have aN:n.toNat<D.Q6.length:=oJ;have ba:D.Q6[n.toNat]?=some (D.Q6.getD n.toNat .zero):=(by rw[yQ,zA aN];rfl);refine fu (io (ai I.fr) ⟨pW sb,D.Q6.length,c⟩ rfl ?_);refine Ii I 5 rfl n<|ur aW aX<|qs9 oM ?_;have aw:en [] (Pt.gS w7 l E0).drew ⟨some ⟨sb,0+n.toNat*512,none⟩,512,512⟩ (D.Q6.getD n.toNat .zero).1:=
  qr9 (aB I.fr) (by rw[xR];exact qtE D.Q6 n.toNat _ ba) oL
 refine An (s:=⟨some ⟨sb,0+n.toNat*512,none⟩,512,512⟩) aw (by rw[(D.Q6.getD n.toNat .zero).2];decide) λs7 Bf ad af ax ah _ _=>?_;have ab:=I.q7 ax;have u:=ab.lz;have U:∀b∈Bf,w.heap.size<=b:=λb hb=>by have h1:(Pt.gS w7 l E0).drew.heap.size<=b:=ah b hb;have:=I.fr.size;omega
 have V:∀b∈Bf,b∉[l,Dm,rb,r5,r3,r1]:=λb hb hm=>by
  have h1:(Pt.gS w7 l E0).drew.heap.size<=b:=ah b hb;have h2:∀p∈[l,Dm,rb,r5,r3,r1],p<(Pt.gS w7 l E0).drew.heap.size:=λp hp=>by have C:=λ(k:Nat) (q:Nat×Obj) (hq:_[k]?=some q)=>eX (I.at (i:=k) hq);simp only[zG,xW,or_false] at hp;rcases hp with rfl|rfl|rfl|rfl|rfl|rfl;exact C 0 _ rfl;exact C 1 _ rfl;exact C 2 _ rfl;exact C 3 _ rfl;exact C 4 _ rfl;exact C 5 _ rfl
  have:=h2 b hm;omega
 exact oH u 4 rfl _ rfl rfl rfl λa7 u _=>oH u 3 rfl _ rfl rfl rfl λa8 u _=>dR.eH u 1 rfl λa9 u=>Ii u 4 rfl s7<|Ii u 3 rfl 0<|aL ag ab af U V u.fr
def Dn{db:Nat}{K:It->WP}(h:eQ w db F D)(C:D.Ok)(E:∀u B w',fR w' u (eE D n).1 B->Fr [] w w'->(∀b∈B,w.heap.size<=b)->K (u,(eE D n).2) w'): cW 156 [dG db,.i n] dm w K:=qwn h.z C E
abbrev gE (n:Int):Prop:=0<=n/\n<4294967296
def DD(h:gE n)(r:Il):fv (be n 4++r)=n:=by rw[BI h.1];exact qyt h
def qqj:∀(c:Il) (i:Nat),(c.flatMap (be · 4)).drop (4*i)=(c.drop i).flatMap (be · 4)
 | [],i=>by simp
 | a::c,0=>by simp
 | a::c,i+1=>by rw[yG,drop_succ_cons,<- qqj c i,drop_append,ko,vD (by rw[ko];omega),xH];congr 1
def qyL(c:Il):(c.flatMap (be · 4)).length=4*c.length:=by
 induction c with
 | nil=>rfl
 | cons a c ih=>rw[yG,zF,ko,ih,yH];omega
def qmg{i:Nat}(h:i<c.length)(u:∀x∈c,gE x):fv ((c.flatMap (be · 4)).drop (4*i))=c[i]:=by rw[qqj,zX h,yG];exact DD (u _ (zW h)) _
def Ds(next:Int)(c:Il):(iL next c).length=6+4*c.length:=by rw[iL,zF,zF,ko,qyL];rfl
def qsh(c:Il):eI (c.flatMap (be · 4)):=by
 induction c with
 | nil=>exact λx h=>by cases h
 | cons a c ih=>rw[yG];exact (sR _ _).append ih
def qAD(x:Int):0<=wrap .u8 x/\wrap .u8 x<256:=by rw[Aq];omega
def qp0(next:Int)(c:Il):eI (iL next c):=by refine ((sR _ _).append λx h=>?_).append (qsh c);simp only[zG,xW,or_false] at h;rcases h with rfl|rfl<;>exact qAD _
def qsP{next:Int}(C:gE next)(I:next≠1)(J:∀x∈c,gE x)(R:iD 1 c=true)(hl:c.length<=123):ic (iL next c)=(next,c,0):=by
 have E:=Ds next c;have e:iL next c=be next 4++([wrap .u8 (Int.fdiv c.length (2^8)),wrap .u8 c.length]++c.flatMap (be · 4)):=by rw[iL,zV]
 have G:fv (iL next c)=next:=by rw[e];exact DD C _
 have h:kK (iL next c)=c.length:=(by have U:(iL next c).getD 4 0=wrap .u8 (Int.fdiv c.length (2^8)):=(by rw[e,BI C.1];rfl);have V:(iL next c).getD 5 0=wrap .u8 c.length:=(by rw[e,BI C.1];rfl);have hd:Int.fdiv (c.length:Int) (2^8)=0:=(by rw[Int.fdiv_eq_ediv_of_nonneg _ oM];omega);rw[kK,U,V,Aq,Aq,hd];omega);have u:jZ (iL next c) c.length=c:=by
  apply ext_getElem;simp[jZ];intro i I h2;have:(iL next c).drop (6+4*i)=(c.flatMap (be · 4)).drop (4*i):=by have h6:(iL next c).drop 6=c.flatMap (be · 4):=(by rw[e,BI C.1];rfl);rw[<- h6,xC]
  simp only[jZ,getElem_map,getElem_range,this];exact qmg h2 J
 rw[ic,iN,iN (by rw[G,h];omega),h,zJ,u,iP R,G]
def ws(x:Int)(h:0<=x/\x<18446744073709551616):wrap .u64 x=x:=by unfold wrap;have:(IntKind.u64.signed)=false:=rfl;simp only[this,Bool.false_and,Bool.false_eq_true,if_false];exact Int.emod_eq_of_lt h.1 h.2
def qqJ{A B:Int}(k:Nat)(G:0<=A)(C:A%2^k=0)(I:0<=B)(h:B<2^k)(J:A+B<18446744073709551616):bits .or .u64 A B=A+B:=by
 obtain⟨a,rfl⟩:∃a:Nat,A=a:=⟨A.toNat,oJ⟩;obtain⟨b,rfl⟩:∃b:Nat,B=b:=⟨B.toNat,oJ⟩;have E:a%2^k=0:=by have:((a:Int)%((2^k:Nat):Int))=0:=(by rw[Int.natCast_pow];exact C);omega
 have u:b<2^k:=(by have:(b:Int)<((2^k:Nat):Int):=(by rw[Int.natCast_pow];exact h);omega);obtain⟨q,rfl⟩:∃q,a=2^k*q:=⟨a / 2^k,by have:=Nat.div_add_mod a (2^k);omega⟩;show wrap .u64 ((BitVec.ofInt 64 ((2^k*q:Nat):Int)||| BitVec.ofInt 64 (b:Int)).toNat:Nat)=_;rw[BitVec.toNat_or,BitVec.ofInt_natCast,BitVec.ofInt_natCast,BitVec.toNat_ofNat,BitVec.toNat_ofNat,Nat.mod_eq_of_lt (show 2^k*q<2^64 by omega),Nat.mod_eq_of_lt (show b<2^64 by omega),<- Nat.two_pow_add_eq_or_of_lt u];rw[ws _ oJ];omega
abbrev nf (n:Int):Prop:=0<=n/\n<18446744073709551616
def Cp:gr q t=be (wrap .u32 (Int.fdiv q (2^32))) 4++(be (wrap .u32 q) 4++t.flatMap (be · 4)):=by rw[gr,zV]
def qjE(I:nf q):iu (gr q t)=q:=by have h:Int.fdiv q (2^32)=q / 4294967296:=(by rw[Int.fdiv_eq_ediv_of_nonneg _ oM];rfl);have u:fv (gr q t)=q / 4294967296:=(by rw[Cp,h,nD _ oJ];exact DD (by constructor<;>omega) _);have C:(gr q t).drop 4=be (wrap .u32 q) 4++t.flatMap (be · 4):=(by rw[Cp,drop_append,ko,vD (by rw[ko];exact zM _)];rfl);have E:wrap .u32 q=q%4294967296:=(by unfold wrap;have:(IntKind.u32.signed)=false:=rfl;simp only[this,Bool.false_and,Bool.false_eq_true,if_false];rfl);have G:fv ((gr q t).drop 4)=q%4294967296:=(by rw[C,E];exact DD (by constructor<;>omega) _);rw[iu,u,G,ws (q / 4294967296) oJ,ws (q%4294967296) oJ,ws (q / 4294967296*2^32) oJ];rw[qqJ 32 oJ oJ oJ oJ oJ];omega
def qwh(q:Int)(t:Il):eI (gr q t):=by rw[Cp];exact (sR _ _).append ((sR _ _).append (qsh t))
def qrr(h:t.length=27)(u:∀x∈t,gE x):lE (gr q t)=t:=by
 apply ext_getElem;rw[tf,h];intro i G C;have E:(gr q t).drop 8=t.flatMap (be · 4):=by rw[Cp,<- zV,drop_append,zF,ko,ko,vD (by rw[zF,ko,ko];exact zM _)];rfl
 have:(gr q t).drop (8+4*i)=(t.flatMap (be · 4)).drop (4*i):=(by rw[<- E,xC]);simp only[lE,getElem_map,getElem_range,this];exact qmg C u
def qtV{place:Int}(h:nf q)(u:t.length=27)(G:∀x∈t,gE x)(E:Int.tmod q 2=place):eZ place (eG place 1 (gr q t))=((q,t),0):=by have C:gE place:=(by rw[<- E,Int.tmod_eq_emod_of_nonneg h.1];constructor<;>omega);have I:=Fm (kind:=1) (body:=gr q t) C (by rw[zu u];decide);rw[eZ,I,iN oL,iN (by simp[zu u]),iN (by rw[qjE h,E];simp),qjE h,qrr u G]
end
section
open Go Go.Pt List
open Go.IntKind (wrap)
open Classical
def qyu{a b:Int}(h:eI [a,b]):be (gW [a,b]) 2=[a,b]/\gW [a,b]=a*256+b:=by
 have u:=h a oL;have C:=h b oL;have e:gW [a,b]=a*256+b:=by rw[CS h (zO rfl)];show ((0*256+a)*256+b)=_;omega
 refine⟨?_,e⟩;rw[e,be2 oJ];congr 1;omega;congr 1;omega
end
end Go.Proofs.YtpcmehldpoljfaaGreatDoor
