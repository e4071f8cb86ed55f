/- Conditions: those that stand in each line. -/
import Derived.Test.YtcnddmfogfebiaaGreatDoorCLBT2
import Derived.Sort.LotC
import Derived.Sort.LotA
import Derived.Sort.LotD1
import Derived.Laws.Bits64b
import Derived.Laws.Closers25b
import Derived.KernelRfl
import Derived.Sort.LotD2
import Derived.Sort.LotB
import Derived.Sort.LotD3
import Derived.Test.YtcnddmfogfebiaaGreatDoorCLBT1
import Derived.Shelf.Bytes.SlCountOne
import Derived.Laws.CopyRow
import Derived.Laws.IdiomCopy
import Derived.Test.YtcnddmfogfebiaaGreatDoorTie
import Derived.LaidMore
import Derived.MakeChecks
import Derived.OpenShut
import Derived.ProofKit
import Derived.Lib.Bytealg
import Derived.Lib.BytesEntry
import Derived.Laws.IdiomStrings
import Derived.Laws.BytesString
set_option linter.unusedVariables false
set_option linter.unusedSimpArgs false
set_option linter.defProp false
namespace Go.Proofs.YtcnddmfogfebiaaGreatDoor
open Go.Proofs.Tryz (prog)
section
open Go Go.Pt Go.Sort List
attribute [local irreducible] ld dP st new idx kz gi jH nD gV nn call dU inv run eO jt join loop held IntKind.wrap
variable {F:Mk} {d:Array Int} {l:Ml} {pb:Nat} {w:Md}
def ins (x:Int):Ml->Ml
 | []=>[x]
 | a::l=>if x<a then x::a::l else if x=a then a::l else a::ins x l
def Cp{x:Int}:∀ {l:Ml},x∉l->(ins x l).Perm (x::l)
 | [],_=>.refl _
 | a::l,h=>by simp only[zG,not_or] at h;simp only[ins];split;exact .refl _;rw[iN h.1];exact ((Cp h.2).cons a).trans (.swap x a l)
def qwU{x y:Int}:∀ {l:Ml},y∈ins x l->y=x\/y∈l
 | [],h=>by simp[ins] at h;exact .inl h
 | a::l,h=>by simp only[ins] at h;split at h;simp only[zG] at h⊢;exact h;split at h;exact .inr h;simp only[zG] at h⊢;rcases h with h|h;exact .inr (.inl h);rcases qwU h with h|h;exact .inl h;exact .inr (.inr h)
def EK{x:Int}:∀ {l:Ml},l.Pairwise (· < ·)->(ins x l).Pairwise (· < ·)
 | [],_=>by simp[ins]
 | a::l,h=>by have G:=yJ.1 h;simp only[ins];split;rename_i I;refine yJ.2 ⟨λb E=>?_,h⟩;rcases zG.1 E with rfl|E;exact I;exact Int.lt_trans I (G.1 b E);split;exact h;rename_i J O;refine yJ.2 ⟨λb E=>?_,EK G.2⟩;rcases qwU E with rfl|E;omega;exact G.1 b E
def quD{x:Int}:∀ {l:Ml},l.Pairwise (· < ·)->x∈l->ins x l=l
 | a::l,h,E=>by
  have G:=yJ.1 h;simp only[ins];rcases zG.1 E with rfl|E;rw[iN (Int.lt_irrefl _),iP rfl];have:=G.1 x E;rw[iN,iN,quD G.2 E]
def CR{b:Nat}(h:b<w.z)(o:Obj):Fr [b] w (jA w b o):=
 ⟨rfl,rfl,rfl,by rw[Af];exact zM _,λj G E=>by rw[sO _ _ _ _ h,iN (oS E)]⟩
def nW.j0{w':Md}{m:Me}{R S:Mk}{n:Nat}(h:nW w pb m R d n)(k:Fr S w w')(E:pb∉S)(G:∀r∈R,r∉S):nW w' pb m R d n:=by rcases h with ⟨a,b,c,e⟩|⟨rb,T,a,b,c,e,f⟩;exact .inl ⟨a,b,c,by rw[k.block pb (gg e) E];exact e⟩;exact .inr ⟨rb,T,a,by rw[k.block pb (gg b) E];exact b,by rw[k.block rb (gg c) (G rb (by rw[a];simp))];exact c,e,f⟩
def Kh{α:Type}[DecidableEq α]{kv:α->Me}{w':Md}{b:Nat}{S:Mk}{f:List (α×Me)}(h:nX kv w b f)(k:Fr S w w')(G:b∉S):nX kv w' b f:=by obtain⟨I,c,E,J⟩:=h;exact⟨I,c,by rw[k.block b (gg E) G];exact E,J⟩
def nW.yv{mb:Nat}{m:Me}{R:Mk}{n:Nat}{f:List (Int×Me)}(h:nW w pb m R d n)(O:nX lZ w mb f):pb≠mb/\∀r∈R,r≠mb:=by obtain⟨U,c,E,_⟩:=O;rcases h with ⟨_,_,I,e⟩|⟨rb,T,a,b,I,e,_⟩;refine⟨λG=>?_,by simp[I]⟩;subst G;rw[e] at E;cases E;refine⟨λG=>?_,λr J G=>?_⟩;subst G;rw[b] at E;cases E;rw[a] at J;simp at J;subst J G;rw[I] at E;cases E
def ie.j0{w w':Md}{pb:Nat}{F S:Mk}{l:Ml}(h:ie w pb F l)(k:Fr S w w')(E:∀b∈F,b∉S):ie w' pb F l:=by obtain⟨⟨mb,R,d,f,rfl,G,I,J,O,U,V⟩,hs⟩:=h;exact⟨⟨mb,R,d,f,rfl,G.j0 k (E _ oN) (λr G=>E r (by simp[G])),Kh I k (E _ oN),J,O,U,V⟩,hs⟩
def ie.lt(h:ie w pb F l):∀b∈F,b<w.z:=by obtain⟨⟨mb,R,d,f,rfl,J,⟨O,c,I,_⟩,_⟩,_⟩:=h;intro b E;simp only[zG] at E;rcases J with ⟨_,_,G,e⟩|⟨rb,T,a,b',G,e,_⟩;rcases E with rfl|rfl|E;exact gg e;exact gg I;rw[G] at E;cases E;rcases E with rfl|rfl|E;exact gg b';exact gg I;rw[a] at E;simp at E;subst E;exact gg G
def HJ{n:Int}{K:Bool->WP}(h:ie w pb F l)(hl:l.length<=1000000)(hk:∀F' w',ie w' pb F' (ins n l)->Fr F w w'->(∀b∈F',b∈F\/w.z<=b)->K (decide (n∉l)) w'): cW 186 [dM pb,.u n] dk w K:=by
 refine qoK<|JH h ?_;by_cases hx:n∈l;refine LJ (oS hx) ?_;have:=hk F w (by rw[quD h.rS hx];exact h) (.refl _ _) (λb U=>.inl U);simpa[hx] using this;refine LK (oS hx) ?_;obtain⟨s,I,E,_,_⟩:=h.cells;have ab:=h.rS;obtain⟨mb,R,d,f,rfl,hr,hm,O,hh,hf,h1⟩:=h.ex;have al:I=mb:=by rcases hr with ⟨_,_,_,e⟩|⟨rb,T,_,b,_⟩;have h3:=Ma (λo=>match o with|some (Obj.cells cs _ _)=>cs[1]? | _=>none) (E.symm.trans e);simpa using h3;have h3:=Ma (λo=>match o with|some (Obj.cells cs _ _)=>cs[1]? | _=>none) (E.symm.trans b);simpa[vr] using h3
 subst al;refine fH<|iH E (some I) rfl ?_;have ae:posOf n f=none:=by rcases Fy h1 with ⟨O,_⟩|⟨j,_,ap,_⟩;exact O;exact absurd (hf.mem_iff.1 ap) hx
 obtain⟨o,af,aq⟩:=qyC (et:=3) oM A4 hm n ae;refine HP _ af ?_;obtain⟨V,aa⟩:=hr.yv hm;have ag:I<w.z:=(by obtain⟨es,c,U,_⟩:=hm;exact gg U);have ah:=CR ag o;have ar:=hr.j0 ah (oS V) (λr hr=>by simpa using aa r hr);refine fH<|qBs ar hl hh λR' d' w2 au av aw ai ax=>?_;have G:=Cp hx;have J:(ins n l).length=l.length+1:=(by have:=G.length_eq;simpa using this);have ay:=Kh aq ai (by simp only[zG,not_or];exact⟨λe=>V e.symm,λe=>aa _ e rfl⟩)
 have:=hk (pb::I::R') w2 ⟨⟨I,R',d',f++[(n,.i 1)],rfl,by rw[J];exact au,ay,?_,by rw[J];exact av,?_,?_⟩,EK ab⟩
  ((ah.mono (λi hi _=>by simp at hi;simp[hi])).trans (ai.mono (λi hi _=>by simp at hi;rcases hi with rfl|hi<;>simp[*]))) (λb U=>?_)
 simpa[hx] using this;rw[J];exact aw.trans (((O.append_right [n]).trans (LN _ _)).trans G.symm);rw[xL];exact ((hf.append_right _).trans (LN _ _)).trans G.symm;intro p O;rcases zD.1 O with O|O;exact h1 p O;simp at O;rw[O];simp only[zG] at U;rcases U with rfl|rfl|U;exact .inl oN;exact .inl oN;rcases ax b U with h'|h';exact .inl (by simp[h']);rw[Af] at h';exact .inr h'
def qgD{α:Type}:∀(l:List α) (i:Nat) (h:i<l.length),(l[i]::l.eraseIdx i).Perm l
 | a::l,0,_=>.refl _
 | a::l,i+1,h=>by exact (List.Perm.swap _ _ _).trans ((qgD l i (oS h)).cons a)
def yw:Ml->Mz×Ml
 | []=>((0,false),[])
 | x::r=>((x,true),r)
def qDs{K:Mz->WP}(h:ie w pb F l)(hl:l.length<=1000000)(hk:∀F' w',ie w' pb F' (yw l).2->Fr F w w'->(∀b∈F',b∈F\/w.z<=b)->K (yw l).1 w'): cW 284 [dM pb] dJ w K:=by
 refine qm2 ?_;have G:=h.rS;have E:=h;obtain⟨mb,R,d,f,rfl,hr,hm,U,hh,hf,h1⟩:=h.ex;rcases hr with ⟨h0,hd,hR,I⟩|⟨rb,T,hR,I,ae,af,J⟩;have ax:=LX h0;subst ax;exact fH<|iH I dN rfl<|y_<|hk _ w E (.refl _ _) λb I=>.inl I;subst hR;refine fH<|iH I ⟨pW rb,l.length,d.size⟩ rfl ?_;match l,hl,hk,G,E,I,U,hh,hf,J with
 | [],hl,hk,G,E,I,U,hh,hf,J=>
  exact y_<|hk _ w E (.refl _ _) (λb I=>.inl I)
 | x::r,hl,hk,G,E,I,U,hh,hf,J=>
  simp only[yI] at I U hh J hl⊢;refine LK oQ<|fH ?_;have O:=(show nW w pb (.map (some mb)) [rb] d (r.length+1) from .inr ⟨rb,T,rfl,I,ae,af,J⟩).yv hm;have ay:d[0]! = x:=by
   have ag:=U.mem_iff.1 (by
    have:=EL rfl (show 0<r.length+1 by omega) J;exact yF this)
   have hx:x∈d.toList.take (r.length+1):=U.mem_iff.2 oN;obtain⟨i,V,az⟩:=getElem_of_mem hx;have ah:i<r.length+1:=(by simp at V;omega);have h2:=EL rfl ah J;rw[zA V,az] at h2;have ai:=hh.min i ah;rw[<- yO h2] at ai;rcases zG.1 ag with e|e;exact e;have:=(yJ.1 G).1 _ e;omega
  refine qDk I ae af J oL hh λd2 w2 aj aA ak al=>?_;rw[ay] at ak⊢;have ta:(Instr.typeAssert (.iface 35 (.u x)) 20 35 true).run prog w2=.ok (.tuple #[.u x,.bool true]) w2:=oM;refine tf (x,true) ta ?_;have an:=Kh hm al (by simp only[zG,xW,or_false,not_or];exact⟨λe=>O.1 e.symm,λe=>O.2 rb oN e.symm⟩);obtain⟨s2,aB⟩:∃s:Sl,w2.heap[pb]?=some (.c #[s.v,.map (some mb)] PT):=by rcases aj with ⟨_,_,_,aa⟩|⟨aC,T',_,aa,_⟩;exact⟨dN,aa⟩;exact⟨⟨pW aC,_,_⟩,aa⟩
  refine fH<|iH aB (some mb) rfl ?_;obtain⟨o,ao,ap⟩:=qyB (et:=3) (kt:=35) (ty:=0) oM A4 an x;refine qAS (ts:=[]) () _ ao ?_;rcases Fy (x:=x) h1 with ⟨_,aD⟩|⟨j,aq,_,hj⟩;exact absurd (hf.mem_iff.2 oN) aD;rw[aq] at ap;have ar:mb<w2.z:=(by obtain⟨es,c,I,_⟩:=an;exact gg I);have au:=CR ar o;refine hk [pb,mb,rb] (jA w2 mb o) ⟨⟨mb,[rb],d2,f.eraseIdx j,rfl,aj.j0 au (oS O.1) (λr hr=>by simpa using O.2 r hr),ap,(ak.trans U).cons_inv,aA,?_,λp U=>h1 p (mem_of_mem_eraseIdx U)⟩,(yJ.1 G).2⟩
   ((al.mono (T:=[pb,mb,rb]) (λi V _=>by simp at V;rcases V with rfl|rfl<;>simp)).trans (au.mono (λi V _=>by simp at V;simp[V]))) (λb I=>.inl I)
  show ((f.eraseIdx j).map (·.1)).Perm r;rw[As];obtain⟨aE,aF⟩:=zP.1 hj;have:=qgD _ _ aE;rw[aF] at this;exact (this.trans hf).cons_inv
section
section
variable {iX:Nat} {T:mI} {w0 w:Md} {d:Array Int} {len cap:Nat}
end
end
section
section
variable {iX:Nat} {T:mI} {w0 w:Md} {d:Array Int} {len cap:Nat}
end
end
section
section
variable {iX:Nat} {T:mI} {w0 w:Md} {d:Array Int} {len cap:Nat}
end
end
end
section
open Go Go.Pt Go.Sort List
attribute [local irreducible] ld dP st new idx kz gi jH nD gV nn call dU inv run eO jt join loop held IntKind.wrap
end
section
open Go Go.Pt Go.Sort List
attribute [local irreducible] ld dP st new idx kz gi jH nD gV nn call dU inv run eO jt join loop held IntKind.wrap
variable {l:Ml} {w:Md}
structure Lx (iX:Nat) (T:mI) (w0 w:Md) (d:Array Int) (sb:Nat) (k:IntKind) (v:Int):Prop where
 arr:pS iX T w0 w d
 cell:∃ T2,w.heap[sb]?=some (.c #[.int k v] T2)
 ne:sb≠iX
 new:w0.z<=sb
section
variable {iX:Nat} {T:mI} {w0 w:Md} {d:Array Int} {len cap sb:Nat} {k:IntKind} {v:Int}
end
section
section
variable {iX:Nat} {T:mI} {w0 w:Md} {d:Array Int} {len cap sb:Nat} {k:IntKind} {v:Int}
end
end
section
section
variable {iX:Nat} {T:mI} {len cap:Nat}
end
end
def Ki:∀ {E l2:Ml},E.Perm l2->E.Pairwise (·<=·)->l2.Pairwise (·<=·)->E=l2
 | [],l2,h,_,_=>h.nil_eq
 | a::E,[],h,_,_=>absurd h.symm.nil_eq oN
 | a::E,b::l2,h,U,V=>by
  have G:=yJ.1 U;have I:=yJ.1 V;have J:a=b:=by
   have m1:a∈b::l2:=h.mem_iff.1 oN;have m2:b∈a::E:=h.mem_iff.2 oN;rcases zG.1 m1 with e|e;exact e;rcases zG.1 m2 with O|O;exact O.symm;have:=I.1 a e;have:=G.1 b O;omega
  subst J;rw[Ki h.cons_inv G.2 I.2]
abbrev jS:Int->List Me:=λn=>[Value.int .u32 n]
abbrev Rd (S:Mk) (w:Md) (s:Sl) (l:Ml):Prop:=eT jS 1 S w s l
abbrev tW (w:Md) (s:Sl) (l:Ml) (B:Mk):Prop:=eZ jS 1 w s l B
def wR:∀x,(jS x).length=1:=λ_=>rfl
def Rd.at{S:Mk}{s:Sl}(h:Rd S w s l)(n:Nat){i x:Int}{K:Int->Prop}(hi:i=n)(E:l[n]?=some x)(k:K x):idx s i 1 λa=>ld .u a w K:=
 eT.get (y:=x) h n hi E rfl k
def qDa{s:Sl}{B:Mk}{x:Int}{T:Mf}{K:Sl->WP}(h:tW w s l B)(V:l.length<=1000000)(J:∀I B' w',tW w' I (l++[x]) B'->Fr B w w'->(∀b∈B',b∈B\/w.z<=b)->K I w'): Pt.new (.cells #[.u x] T) w λr w1=>Pt.run di ((Builtin.append_ #[117,117] 117 #[s.v,.slice (pW r) 1 1]).run prog w1) K:=by obtain⟨i,O,U,E,G⟩:=Cb;exact eZ.push h wR (by simp[Value.oneCell']) oM O U E rfl rfl (by rw[G];omega) oL J
def fp (n:Int) (acc:List Int×Bool) (x:Int):List Int×Bool:=
 let a1:=if !acc.2&&decide (x>=n) then (acc.1++[n],true) else acc
 (if x≠n then a1.1++[x] else a1.1,a1.2)
def qsS(h:l.Pairwise (· < ·)):l.Pairwise (·<=·):=h.imp Int.le_of_lt
def Fg{w0:Md}{F F':Mk}(E:∀b∈F,w0.z<=b)(I:w0.z<=w.z)(h:∀b∈F',b∈F\/w.z<=b):∀b∈F',w0.z<=b:=by intro b G;rcases h b G with h|h;exact E b h;omega
def qwt{pb:Nat}{F:Mk}{K:Option Addr->WP}(h:ie w pb F l)(hl:l.length<=1000000)(hk:∀ad F' w',ie w' ad F' l->Fr [] w w'->(∀b∈F',w.z<=b)->K (pW ad) w'): cW 265 [dM pb] dp w K:=by
 refine qm1<|CB λnb F0 w1 h1 f1 U=>?_;have aq:=h.j0 f1 (λ_ _ h=>by cases h);have I:=h.rS;refine fH ?_;obtain⟨mb,R,d,f,rfl,hr,hm,hp,hh,hf,hv⟩:=aq.ex;rcases hr with ⟨h0,hd,hR,hb⟩|⟨rb,T,hR,hb,au,aL,V⟩;have av:=LX h0;subst av;exact iH hb dN rfl<|vV λX hX=>x_<|hk nb F0 w1 h1 f1 U;refine iH hb ⟨pW rb,l.length,d.size⟩ rfl ?_;dsimp only;have aH:=h.lt rb (by rw[hR];simp);have O:Rd F0 w1 ⟨pW rb,l.length,d.size⟩ (d.toList.take l.length):=by
  refine⟨by rw[yL,Mc];exact (xP V).symm,V,.inr ⟨rb,0,_,T,_,rfl,au,λhm=>by have:=U rb hm;omega,λi x hx=>?_⟩⟩;have hi:=(zP.1 hx).1;rw[yL,Mc] at hi;have J:i<l.length:=yD hi (Nat.min_le_left _ _);have ax:i<d.size:=yD hi (Nat.min_le_right _ _);have ay:=EL rfl J V;rw[ay] at hx;rw[xQ,xR];have hc:(lV d)[i]?=some (.u x):=by unfold lV;rw[Array.getElem?_map];rw[<- yO hx];simp[ax]
  apply ext_getElem?;intro j;rw[xB,xA];match j with|0=>simpa using hc|j+1=>simp
 have ag:(d.toList.take l.length).length=l.length:=oQ;have G:=hp.symm.nodup (I.imp λh=>Int.ne_of_lt h);generalize hL:d.toList.take l.length=L at O ag G hp;refine lD (λx w'=>∃(i:Nat) (l':Ml) (F':Mk),x=i/\i<=l.length/\ie w' nb F' l'/\l'.Perm (L.take i)/\Fr [] w w'/\Rd F' w' ⟨pW rb,l.length,d.size⟩ L/\∀b∈F',w.z<=b) (λx _=>((l.length:Int)-x).toNat)
  ⟨0,[],F0,rfl,oL,h1,oN,f1,O,U⟩ ?_
 rintro x w2 ⟨i,l',F',rfl,hi,h2,E,f2,ah,aa⟩ X hX;have aB:l'.length=i:=(by rw[E.length_eq,yL];omega);apply cD<;>intro hc;have J:i<l.length:=oL;have ab:i<L.length:=oL;refine Rd.at ah i rfl (zA ab)<|HJ h2 oL λF3 w3 h3 f3 ai=>?_;rw[wi _ oL];have aj:L[i]∉l':=by
  intro hm;have aC:=E.mem_iff.1 hm;have e:=yG ab;have ak:(L.take (i+1)).Nodup:=(take_sublist _ _).nodup G;rw[e] at ak;have:=(yM.1 ak).2.2 _ aC L[i] oN;exact this rfl
 refine hX _ _ ⟨i+1,ins L[i] l',F3,oL,oL,h3,?_,f2.j8 f3 λb hb=>.inr (aa b hb),ah.j0 f3 ai,Fg aa f2.size ai⟩ oL;rw[yG ab];exact ((Cp aj).trans (E.cons _)).trans (LN _ _).symm;have J:i=l.length:=oL;subst J;rw[zS oL] at E;have:=Ki (E.trans hp) (qsS h2.rS) (qsS I);subst this;exact hk nb F' w2 h2 f2 aa
end
open Go Go.Pt List
open Go.IntKind (wrap)
attribute [local irreducible] ld dP iA qg kO eX st new idx kz gi jH nD gV nn call dU inv run eO jt join loop held ext mn fc IntKind.wrap
abbrev encB:Int->List Me:=λn=>[Value.int .u8 n]
abbrev eY (S:Mk) (w:Md) (s:Sl) (l:Ml):Prop:=eT encB 1 S w s l
abbrev ip (w:Md) (s:Sl) (l:Ml) (B:Mk):Prop:=eZ encB 1 w s l B
def mW:∀x,(encB x).length=1:=λ_=>rfl
def gP (l:Ml):Array Me:=(l.map (Value.int .u8)).toArray
def DW(l:Ml):(gP l).size=l.length:=by simp[gP]
def u4(l:Ml):l.flatMap encB=l.map (Value.int .u8):=by
 induction l with|nil=>rfl|cons a l ih=>rw[yH,ih];rfl
def AF:∃i,prog.info? 5=some i/\i.zero=some (.b 0)/\i.size=1/\i.bytes=1:=yy oM
variable {S:Mk} {w w0:Md} {s:Sl} {l:Ml} {x n:Int} {T:Mf} {b o h:Nat} {K:Sl->Prop} {L:Mq}
def eY.at(h:eY S w s l)(n:Nat){i:Int}{K:Int->Prop}(hi:i=n)(E:l[n]?=some x)(k:K x):idx s i 1 λa=>ld .b a w K:=
 eT.get (y:=x) h n hi E rfl k
def Cl{n cap:Nat}{L:Ml}{E:Mu}(G:w.heap[b]?=some (.cells (gP L) T E))(U:o+n<=L.length)(I:n<=cap)(J:b∉S):eY S w ⟨some (dh b o),n,cap⟩ ((L.drop o).take n):=by
 refine⟨by rw[yL,yC];dsimp only;omega,I,.inr ⟨b,o,_,T,_,rfl,G,J,λi x h=>?_⟩⟩;have O:=(zP.1 h).1;rw[yL,yC] at O;rw[xB,iP,xA] at h;rw[xR];apply ext_getElem?;intro j;rw[xB,xA];match j with|0=>simp[gP,h]|j+1=>simp
def HV{len cap:Nat}{lo hi:Int}(E:0<=lo)(G:lo<=hi)(I:hi<=cap)(J:lo<cap)(k:K ⟨some ⟨b,o+lo.toNat*h,none⟩,hi.toNat-lo.toNat,cap-lo.toNat⟩):gi ⟨some (dh b o),len,cap⟩ (some lo) (some hi) none h K:=by unfold gi;refine⟨by simpa using ⟨E,G,I⟩,?_⟩;simp only[xU,xT,zJ];rw[iN];simp only[Option.map_some,Addr.j1];exact k
def FJ{len cap:Nat}{lo:Int}(E:0<=lo)(G:lo<=len)(I:len<=cap)(J:lo<cap)(k:K ⟨some ⟨b,o+lo.toNat*h,none⟩,len-lo.toNat,cap-lo.toNat⟩):gi ⟨some (dh b o),len,cap⟩ (some lo) none none h K:=by unfold gi;refine⟨by simp;omega,?_⟩;simp only[xU,xT,zJ];rw[iN];simp only[Option.map_some,Addr.j1];exact k
def eT.part{α:Type}{enc:α->List Me}{k:Nat}{l:List α}(h:eT enc k S w s l){lo hi:Option Int}(a b:Nat)(E:lo.getD 0=a)(G:hi.getD s.len=b)(ac:a<=b)(hb:b<=l.length)(kk:∀I,I.len=b-a->eT enc k S w I ((l.take b).drop a)->(s.a.isNone=true->I.a.isNone=true)->K I):gi s lo hi none k K:=by
 obtain⟨h1,h2,O⟩:=h;unfold gi;refine⟨by rw[E,G];simp;omega,kk _ ?_ ⟨?_,?_,?_⟩ ?_⟩;rw[E,G];simp;rw[E,G];simp;omega;rw[E,G];simp;omega;by_cases he:(l.take b).drop a=[];exact .inl he;right;have ae:a<b:=by rcases Nat.lt_or_ge a b with h|h;exact h;exact absurd (by rw[vB];simp;omega) he
 rcases O with O|⟨bl,o,cs,T,fr,ha,U,V,hc⟩;rw[O] at hb;simp at hb;omega;refine⟨bl,o+a*k,cs,T,fr,?_,U,V,λi x J=>?_⟩;rw[E];simp only[xU,zJ];rw[iN,ha];simp[Addr.j1];rw[xA,xB] at J;split at J;have:=hc (a+i) x J;rw[<- this,xS,Nat.add_assoc];cases J;intro hn;rw[Option.isNone_iff_eq_none] at hn;rw[hn];simp
def iy (n:Int) (j:Nat):Int:=wrap .u8 (Int.fdiv n (2^min (8*j) 32))
def be (n:Int) (k:Nat):Ml:=(List.range k).map λi=>iy n (k-1-i)
def mw(n:Int)(k:Nat):(be n k).length=k:=by simp[be]
def gJ(n:Int)(h:-1000000000000000<=n/\n<=1000000000000000):wrap .i64 n=n:=by rw[IntWalk.i64_in];omega
def KE{k cap:Nat}{A X Z:Ml}{K:Unit->WP}(h:dY S w0 w L)(i:Nat)(hi:L[i]?=some (b,.c (gP (A++X++Z)) T))(ho:A.length=o)(hX:X.length=k)(ab:k<=4)(hk:∀w',dY S w0 w' (L.set i (b,.c (gP (A++be n k++Z)) T))->K () w'): cW 232 [.slice (some (dh b o)) k cap,.u n] [] w K:=by
 refine qv9 (b:=⟨some (dh b o),k,cap⟩)<|lD (λx w'=>∃j:Nat,x=j/\j<=k/\dY S w0 w' (L.set i (b,.c (gP (A++((be n k).take j++X.drop j)++Z)) T))) (λx _=>((k:Int)-x).toNat) ⟨0,rfl,oL,?_⟩ ?_;have:L.set i (b,.c (gP (A++((be n k).take 0++X.drop 0)++Z)) T)=L:=by
  apply ext_getElem?;intro j;rw[xV];by_cases hij:i=j;subst hij;rw[iP rfl,hi];have:=(zP.1 hi).1;simp[this];rw[iN hij]
 rw[this];exact h;rintro x w1 ⟨j,rfl,hj,G⟩ Y hY;have U:=(zP.1 hi).1;dsimp only;apply cD<;>intro V;have I:j<k:=oL;have e1:wrap .i64 (8*wrap .i64 (wrap .i64 ((k:Int)-1)-j))=((8*(k-1-j):Nat):Int):=by rw[gJ ((k:Int)-1) oL,gJ ((k:Int)-1-j) oL,gJ (8*((k:Int)-1-j)) oL];omega
 rw[e1,gJ _ oL];refine nc oL<|ur oL oL ?_;rw[zJ,xR,zJ];have J:X.drop j=X[j]::X.drop (j+1):=zX oL;have aa:(be n k).take (j+1)=(be n k).take j++[iy n (k-1-j)]:=by rw[yG (by rw[mw];exact I)];simp[be]
 have E:((be n k).take j).length=j:=(by rw[yL,mw];omega);refine oJ G i (by rw[xV,iP rfl,iP U]) (gP (A++((be n k).take (j+1)++X.drop (j+1))++Z)) ?_ rfl ?_ λw2 O _=>?_;rw[Pt.d7,Pt.d7];apply Array.ext';rw[Array.toList_setIfInBounds];show (gP _).toList.set _ _=(gP _).toList;unfold gP;rw[<- map_set,J,aa,zV A,set_append_right _ _ oL];rw[show o+j-A.length=j by omega,zV ((be n k).take j),set_append_right _ _ oL,E,Nat.sub_self,xI,set_cons_zero];simp only[zV,xI,xH,iy];refine Nat.ble_eq_true_of_le ?_;rw[DW,J];simp only[zF,yI,xJ,E];omega;refine hY _ _ ⟨j+1,oL,oL,?_⟩ oL;rw[set_set] at O;exact O;have I:j=k:=oL;subst I;rw[zS (by rw[mw];exact zM _),LV oL,xG] at G;exact hk _ G
def jn (l:Ml):Int:=l.foldl (λr x=>bits .or .u32 (wrap .u32 (r*2^8)) (wrap .u32 x)) 0
variable {K:Int->WP} {w':Md} {l' body:Ml} {number kind:Int}
def JE(h:eY S w s l)(hl:l.length<=100000)(O:K (jn l) w):cW 190 [s.v] dm w K:=by refine qv8 ?_;have J:=h.1;refine lD (λx w'=>w'=w/\∃i:Nat,x.2=i/\i<=l.length/\x.1=jn (l.take i)) (λx _=>((l.length:Int)-x.2).toNat) ⟨rfl,0,rfl,oL,rfl⟩ ?_;rintro⟨r,ii⟩ w' ⟨rfl,i,G,hi,U⟩ X V;subst G U;apply cD<;>intro I;have E:i<l.length:=oL;refine eY.at h i rfl (zA E) ?_;rw[gJ _ oL];refine V _ _ ⟨rfl,i+1,oN,oL,?_⟩ oP;rw[yG E,jn,jn,foldl_append];rfl;have E:i=l.length:=oL;subst E;rw[xY];exact O
def qnn{K:Sl->Md->Prop}(h:eY S w s l)(hl:l.length<=1000000)(hk:∀s' B w',ip w' s' l B->Fr [] w w'->(∀b∈B,w.z<=b)->(s.a.isNone=true->s'=dN)->(s.a.isNone=false->s'.a.isNone=false)->K s' w'): cond (Option.isNone s.a) (K dN w) (new (.cells #[] 5) w λr w1=>Pt.run di ((Builtin.append_ #[79,79] 79 #[.slice (some (dh r)) 0 0,.slice s.a s.len s.cap]).run prog w1) λs' w'=>K s' w'):=by
 obtain⟨i5,hi,hz,hsz,hby⟩:=AF;apply eF<;>intro hc;have hl0:l=[]:=by rcases h.2.2 with h3|⟨b,o,cs,T,fr,ha,_⟩;exact h3;rw[ha] at hc;cases hc
 subst hl0;exact hk _ [] w (.nil _ _ _) (.refl _ _) oN (λ_=>rfl) (λh=>by rw[hc] at h;cases h);obtain⟨a,ha⟩:∃a,s.a=some a:=by cases hs:s.a with|none=>rw[hs] at hc;cases hc|some a=>exact⟨a,rfl⟩
 have ho:=oG [] w;refine dY.new ho λr w1 e1 s1 ho=>?_;have h1:=h.q9 ho.fr;have hb:ip w1 ⟨some (dh r),0,0⟩ [] [r]:=eZ.fresh mW (ho.at (i:=0) rfl) rfl (zM _) oN oN;have hlen:=h.1;rw[ha];refine eZ.j2 (s:=⟨some (dh r),0,0⟩) hb mW oM hi hz hsz rfl (.ofSlice _ (e':=5) oM a s.len s.cap _ ?_ (h1.cells mW ha) ?_) hlen (by rw[hby,hlen];simp;omega) (by rw[hlen];simp;omega) λs' B w' g1 g2 g3 g4=>?_;rw[u4];simp[hlen];intro u hu;rw[u4] at hu;obtain⟨x,_,rfl⟩:=List.mem_map.1 hu;rfl;have hBn:∀b∈B,w.z<=b:=λb hb=>by rcases g3 b hb with h|h;simp at h;omega;omega
 refine hk s' B w' (oS g1) (ho.fr.j8 g2 (λb hb=>by simp at hb;subst hb;exact .inr oL)) hBn (λh=>by rw[hc] at h;cases h) λ_=>?_;rcases g4 with hn|hn;exact hn;simp at hn
def Dd{K:Sl->WP}(h:eY S w s l)(G:l.length<=1000000)(I:∀E B w',ip w' E l B->Fr [] w w'->(∀b∈B,w.z<=b)->(s.a.isNone=true->E=dN)->(s.a.isNone=false->E.a.isNone=false)->K E w'): cW 133 [s.v] di w K:=by exact qoW<|qnn h G I
def DB{K:Sl->WP}(h:eY S w s l)(G:l.length<=1000000)(I:∀E B w',ip w' E l B->Fr [] w w'->(∀b∈B,w.z<=b)->(s.a.isNone=true->E=dN)->(s.a.isNone=false->E.a.isNone=false)->K E w'): cW 49 [s.v] di w K:=by exact qqN<|qnn h G I
def mN:Ml:=[0,274646895,549293790,820201905,1098587580,1361435347,1640403810,1905808397,2197175160,2460548119,2722870694,2987750089,3280807620,3553878443,3811616794,4084100981]
abbrev HG:Nat:=1
def Hv (w:Md):Prop:=∃T h,w.heap[HG]?=some (.cells (mN.map (Value.int .u32)).toArray T h)
def Hv.j0(h:Hv w)(f:Fr S w w')(G:HG∉S):Hv w':=by obtain⟨T,I,E⟩:=h;exact⟨T,I,by rw[f.block HG (gg E) G];exact E⟩
def Hv.q9(h:Hv w)(f:Fr [] w w'):Hv w':=h.j0 f oN
def Hv.lt(h:Hv w):HG<w.z:=by obtain⟨T,G,E⟩:=h;exact gg E
def Jj(x:Int):0<=bits .and .u32 x 15/\bits .and .u32 x 15<16:=by have h:(BitVec.ofInt 32 x&&& BitVec.ofInt 32 15).toNat<16:=(by rw[BitVec.toNat_and];exact Nat.lt_of_le_of_lt Nat.and_le_right oO);have E:bits .and .u32 x 15=((BitVec.ofInt 32 x&&& BitVec.ofInt 32 15).toNat:Int):=(by show wrap .u32 _=_;unfold wrap;have:(IntKind.u32.signed)=false:=rfl;simp only[this,Bool.false_and,Bool.false_eq_true,if_false];have e:((2:Int)^IntKind.u32.bits)=4294967296:=rfl;rw[e];exact Int.emod_eq_of_lt oL (by have:(BitVec.ofInt IntKind.u32.bits x&&& BitVec.ofInt IntKind.u32.bits 15).toNat<16:=h;omega));rw[E];omega
def half (x:Int):Int:=mN.getD x.toNat 0
def BI (r:Int):Int:=bits .xor .u32 (Int.fdiv r (2^4)) (half (bits .and .u32 r 15))
def wn (r x:Int):Int:=BI (BI (bits .xor .u32 r (wrap .u32 x)))
def zm (h:Int) (l:Ml):Int:=bits .xor .u32 (l.foldl wn (bits .xor .u32 h 4294967295)) 4294967295
def rK (l:Ml):Int:=zm 0 l
def qwQ{K:Int->Prop}(h:Hv w)(k:K (half (bits .and .u32 x 15))):ld .u (Addr.add (dh HG) (Int.toNat (bits .and .u32 x 15)*1)) w K:=by obtain⟨T,O,G⟩:=h;obtain⟨I,J⟩:=Jj x;rw[Addr.j1];refine iH G _ ?_ k;generalize bits .and .u32 x 15=y at I J;have E:y.toNat<mN.length:=(by show y.toNat<16;omega);rw[xQ,xR];simp only[List.getElem?_toArray,zQ,zA E,Option.map_some,half,yR,xT];rfl
def qD8{G:Int}(h:eY S w s l)(O:Hv w)(hl:l.length<=100000)(V:K (zm G l) w): cW 239 [.u G,s.v] dm w K:=by refine qvM ?_;have U:=h.1;refine lD (λx w'=>w'=w/\∃i:Nat,x.2=i/\i<=l.length/\x.1=(l.take i).foldl wn (bits .xor .u32 G 4294967295)) (λx _=>((l.length:Int)-x.2).toNat) ⟨rfl,0,rfl,oL,rfl⟩ ?_;rintro⟨r,ii⟩ w' ⟨rfl,i,I,hi,hr⟩ X hX;subst I hr;apply cD<;>intro J;have E:i<l.length:=oL;refine eY.at h i rfl (zA E)<|nc (Jj _)<|qwQ O<|nc (Jj _)<|qwQ O ?_;rw[gJ _ oL];refine hX _ _ ⟨rfl,i+1,oN,oL,?_⟩ oP;rw[yG E,foldl_append];rfl;have E:i=l.length:=oL;subst E;rw[xY];exact V
def qAZ(h:eY S w s l)(E:Hv w)(G:l.length<=100000)(I:K (rK l) w): cW 191 [s.v] dm w K:=by exact qxT<|qD8 h E G I
def Kw{α:Type}(A X Y Z:List α)(h:X.length=Y.length):(A++X++Z).take A.length++Y++(A++X++Z).drop (A.length+Y.length)=A++Y++Z:=by have E:(A++X++Z).take A.length=A:=(by rw[zV,LO (zM _),zS (zM _)]);have G:(A++X++Z).drop (A.length+Y.length)=Z:=(by rw[<- h,<- zF,LW (zM _),LV (zM _),xH]);rw[E,G]
def qlS{A X Y Z:Ml}(h:X.length=Y.length):d7 (gP (A++X++Z)) A.length (Y.map (Value.int .u8))=gP (A++Y++Z):=by
 apply Array.ext';rw[tM _ _ _ (by rw[DW];simp only[zF,zK];omega)];have:=Kw (A.map (Value.int .u8)) (X.map (Value.int .u8)) (Y.map (Value.int .u8)) (Z.map (Value.int .u8)) (oS h);simpa only[gP,xL,toList_toArray,zK] using this
def zs (n:Nat):Ml:=List.replicate n 0
def rM(n:Nat):(zs n).length=n:=length_replicate
def Dr(a b:Nat):zs (a+b)=zs a++zs b:=replicate_append_replicate.symm
def qFq:zs 1=[0]:=rfl
def qvC(n:Nat):(List.replicate n (Value.int .u8 0)).toArray=gP (zs n):=by unfold gP zs;rw[map_replicate]
def dY.bytes(h:dY S w0 w ((b,.c (gP l) T)::L))(e:l=l'):dY S w0 w ((b,.c (gP l') T)::L):=by rw[<- e];exact h
def nj (number kind:Int) (body:Ml):Ml:=be number 4++[kind]++be (wrap .u32 body.length) 2++[0]++body++zs (500-body.length)
def gd (number kind:Int) (body:Ml):Ml:=be (rK (nj number kind body)) 4++nj number kind body
def Hq(h:body.length<=500):(nj number kind body).length=508:=by simp only[nj,mw,rM,zF,yI,xJ];omega
def E5(h:body.length<=500):(gd number kind body).length=512:=by rw[gd,zF,mw,Hq h]
def qxb{K:Mr->WP}(h:eY S w s l)(U:Hv w)(hl:l.length<=100000)(J:500<l.length->K (dN,3) w)(hk:l.length<=500->∀b T w',w'.heap[b]?=some (.c (gP (gd number kind l)) T)->Fr [] w w'->w.z<=b->K (⟨pW b,512,512⟩,0) w'): cW 181 [.u number,.b kind,s.v] dl w K:=by
 refine quX ?_;have I:=h.1;refine eF (λV=>J (by have:=zC V;omega)) λV=>?_;have G:l.length<=500:=(by have:=zB V;omega);refine dY.Kk (oG [] w) oO oO oO oO λb w1 eb E=>?_;rw[qvC] at E;replace E:=dY.bytes (l':=zs 4++zs 4++zs 504) E (by rw[<- Dr,<- Dr];rfl);refine HV oO oO oO oO<|KE (k:=4) E 0 rfl (rM 4) (rM 4) oO λw2 E=>?_;replace E:=dY.bytes (l':=(zs 4++be number 4)++zs 1++zs 503) E (by rw[show (504:Nat)=1+503 from rfl,Dr,zV,zV,zV]);refine ur oL oN<|oJ E 0 rfl _ (qlS (Y:=[kind]) rfl) rfl (by rw[DW];simp only[zF,rM,mw];rfl) λw3 E _=>?_;replace E:=dY.bytes (l':=(zs 4++be number 4++[kind])++zs 2++zs 501) E (by rw[show (503:Nat)=2+501 from rfl,Dr,zV,zV,zV,zV,zV]);refine HV oL oL oN oN<|KE (k:=2) E 0 rfl (by simp only[zF,rM,mw];rfl) (rM 2) oO λw4 E=>?_;replace E:=dY.bytes (l':=(zs 4++be number 4++[kind]++be (wrap .u32 s.len) 2++[0])++zs l.length++zs (500-l.length)) E (by rw[show (501:Nat)=1+(l.length+(500-l.length)) by omega,Dr,Dr,qFq];simp only[zV]);refine FJ oL oN oN oN ?_;have h4:=h.q9 E.fr;have e6:(zs 4++be number 4++[kind]++be (wrap .u32 s.len) 2++[0]).length=12:=(by simp only[zF,rM,mw];rfl);refine dY.A2 (el:=5) (vs:=l.map (Value.int .u8)) E 0 rfl oM oM (by rw[zK,I];exact (xP (by show l.length<=500;omega)).symm) (λO=>?_) (λv U=>by obtain⟨x,_,rfl⟩:=mem_map.1 U;rfl) (by rw[DW,zF,zF,e6,rM,rM,zK];omega) λw5 E=>?_;rcases h4.2.2 with h3|⟨bb,o,cs,T,fr,ha,_⟩;rw[h3] at O;exact absurd rfl O;refine⟨_,ha,?_⟩
 have:=h4.cells mW ha;rw[u4] at this;exact this;have e5:=qlS (A:=zs 4++be number 4++[kind]++be (wrap .u32 s.len) 2++[0]) (X:=zs l.length) (Y:=l) (Z:=zs (500-l.length)) (rM _);rw[e6] at e5;have e7:(0:Nat)+Int.toNat 12*1=12:=rfl;rw[e7,e5] at E;replace E:=dY.bytes (l':=[]++zs 4++nj number kind l) E (by simp only[nj,I,zV,xH]);refine Dk ⟨oL,oN⟩<|FJ oL oN oN oN ?_;have hd:=E.drew;have hr:eY [] w5.drew ⟨some ⟨b,0+Int.toNat 4*1,none⟩,(512:Int).toNat-Int.toNat 4,(512:Int).toNat-Int.toNat 4⟩ (nj number kind l):=by
  have:=Cl (S:=[]) (o:=4) (n:=508) (cap:=508) (hd.at (i:=0) rfl) (by rw[zF,zF,rM,Hq G];simp) (zM _) oN;rw[xH,LW (by rw[rM];exact zM _),LV (by rw[rM];exact zM _),xH,zS (by rw[Hq G];exact zM _)] at this;exact this
 have ab:Hv w5.drew:=U.q9 hd.fr;refine qAZ hr ab (by rw[Hq G];decide)<|KE (k:=4) hd 0 rfl rfl (rM 4) oO λw6 E=>hk G b _ w6 (E.at (i:=0) rfl) E.fr oL
def fj (l:Ml):Prop:=∀x∈l,0<=x/\x<256
def fj.take(h:fj l)(n:Nat):fj (l.take n):=λx E=>h x (yV E)
def fj.drop(h:fj l)(n:Nat):fj (l.drop n):=λx E=>h x (yU E)
def qzq(h:fj l):((Lib.countByte (Lib.bytesOf l) (0:Int).toNat.toUInt8:Nat):Int)=l.length↔∀x∈l,x=0:=by
 have key:∀l:Ml,fj l->((Lib.bytesOf l).count (0:UInt8)<=l.length/\((Lib.bytesOf l).count (0:UInt8)=l.length↔∀x∈l,x=0)):=by
  intro l;induction l with
  | nil=>intro _;simp[Lib.bytesOf]
  | cons a l ih=>
   intro E;obtain⟨U,G⟩:=ih λx I=>E x (zN _ I);have V:=E a oN;have e:Lib.bytesOf (a::l)=UInt8.ofNat a.toNat::Lib.bytesOf l:=rfl;rw[e,count_cons];have J:(UInt8.ofNat a.toNat==0)=decide (a=0):=by
    by_cases h0:a=0;subst h0;rfl;rw[zU h0,zR];intro O;have:=Ma UInt8.toNat O;simp at this;omega
   rw[J];by_cases h0:a=0;subst h0;simp only[decide_true,if_true,yI,zG,forall_eq_or_imp,true_and];exact⟨oL,by rw[<- G];omega⟩;simp only[h0,decide_false,Bool.false_eq_true,if_false,yI,zG,forall_eq_or_imp,false_and,iff_false];omega
 have:=(key l h).2
 show (((Lib.bytesOf l).count _:Nat):Int)=_↔_;rw[<- this];exact Int.ofNat_inj
def qqP{b2 cap2:Nat}{K:Int->Md->Prop}(h:eY S w s l)(hB:fj l)(hc2:w.cell? (dh b2)=some (.int .u8 0))(hk:∀c:Int,(c=l.length↔∀x∈l,x=0)->K c w): call prog 192 [.slice s.a s.len s.cap,.slice (some (dh b2)) 1 cap2] [.one (.int .i64)] w K:=by
 refine qqO (sep:=⟨some (dh b2),1,cap2⟩) ?_;have hlen:=h.1;refine LK (by rfl)<|LJ (by rfl)<|ur oL oN<|sU 0 hc2 ?_;have hcount:(Extern.BytealgCount.count #[.slice s.a s.len s.cap,.int .u8 0]).run prog w=.ok (.int .i64 (Lib.countByte (Lib.bytesOf l) (0:Int).toNat.toUInt8)) w:=by
  cases ha:s.a with
  | none=>
   have hl0:l=[]:=by rcases h.2.2 with h3|⟨b,o,cs,T,fr,ha',_⟩;exact h3;rw[ha] at ha';cases ha'
   subst hl0;exact Lib.run_countNil w _ _ _
  | some a=>
   refine Lib.run_countAt w a s.len s.cap l hlen.symm (λi hi=>?_) 0;have:=h.cells mW ha i (.int .u8 (l.getD i 0)) ?_;exact this;rw[u4,zQ,yR,zA oL];rfl
 exact CE Tryz.func241 oM oM oM oM (((Lib.countByte (Lib.bytesOf l) (0:Int).toNat.toUInt8:Nat):Int)) w hcount<|hk _ (qzq hB)
def fX (number:Int) (b:Ml):Int×List Int×Int:=
 if b.length≠512 then (0,[],1)
 else if jn (b.take 4)≠rK (b.drop 4) then (0,[],8)
 else if jn ((b.take 8).drop 4)≠number then (0,[],4)
 else if jn ((b.take 11).drop 9)>500\/b.getD 11 0≠0 then (0,[],2)
 else if ∃x∈b.drop (12+(jn ((b.take 11).drop 9)).toNat),x≠0 then (0,[],2)
 else (b.getD 8 0,(b.take (12+(jn ((b.take 11).drop 9)).toNat)).drop 12,0)
def qj(x:Int)(h:0<=x/\x<4294967296):wrap .u32 x=x:=by unfold wrap;have:(IntKind.u32.signed)=false:=rfl;exact Int.emod_eq_of_lt h.1 h.2
def CH(x:Int):0<=wrap .u32 x/\wrap .u32 x<4294967296:=by unfold wrap;have:(IntKind.u32.signed)=false:=rfl;exact⟨Int.emod_nonneg _ oO,Int.emod_lt_of_pos _ oO⟩
def Hj(h:BinOp)(x y:Int):0<=bits h .u32 x y/\bits h .u32 x y<4294967296:=CH _
def qx2(l:Ml):0<=jn l/\jn l<4294967296:=by
 unfold jn;have:∀(l:Ml) (a:Int),0<=a/\a<4294967296->0<=l.foldl (λr x=>bits .or .u32 (wrap .u32 (r*2^8)) (wrap .u32 x)) a/\l.foldl (λr x=>bits .or .u32 (wrap .u32 (r*2^8)) (wrap .u32 x)) a<4294967296:=by
  intro l;induction l with|nil=>intro a h;exact h|cons x l ih=>intro a _;exact ih _ (Hj _ _ _)
 exact this l 0 oO
def KV{K:Mx->WP}(h:eY S w s l)(hv:Hv w)(hB:fj l)(hl:l.length<=100000)(hk:∀s' B w',ip w' s' (fX number l).2.1 B->Fr [] w w'->(∀b∈B,w.z<=b)->K ((fX number l).1,s',(fX number l).2.2) w'): cW 136 [.u number,s.v] du w K:=by
 refine quW ?_;have O:=h.1;have G:∀ {e:Int} {w':Md},fX number l=(0,[],e)->Fr [] w w'->K (0,dN,e) w':=by
  intro e w' he hf;have:=hk dN [] w' (by rw[he];exact .nil _ _ _) hf oN;rw[he] at this;exact this
 apply eF<;>intro E;refine G ?_ (.refl _ _);have:l.length≠512:=(by simp at E;omega);simp[fX,this];have U:l.length=512:=(by simp at E;omega);refine eT.part h 0 4 rfl rfl oL oL λs1 l1 r1 _=>eT.part h 4 512 rfl (by rw[O,U];rfl) oL oL λs2 l2 r2 _=>?_;rw[zS oL] at r2;rw[xE] at r1;have fd:Fr [] w w.drew:=(Fr.refl _ _).drew;have al:=hv.q9 fd;refine JE r1 (by rw[yL];omega)<|qAZ r2 al (by rw[yC];omega) ?_;have h0:¬l.length≠512:=oL;apply eF<;>intro E;refine G ?_ fd;have:jn (l.take 4)≠rK (l.drop 4):=(oS E);rw[fX,iN h0,iP this];have h1:¬jn (l.take 4)≠rK (l.drop 4):=(oS E);have hd:eY S w.drew s l:=h;refine eT.part hd 4 8 rfl rfl oL oL λs3 l3 r3 _=>JE r3 (by rw[yC,yL];omega) ?_;apply eF<;>intro E;refine G ?_ fd;have:jn ((l.take 8).drop 4)≠number:=(oS E);rw[fX,iN h0,iN h1,iP this];have h2:¬jn ((l.take 8).drop 4)≠number:=(oS E);refine eT.part hd 9 11 rfl rfl oL oL λs4 l4 r4 _=>JE r4 (by rw[yC,yL];omega) ?_;have hn:=qx2 ((l.take 11).drop 9);have ao:l[11]?=some (l.getD 11 0):=(by rw[yR,zA oL];rfl);have g8:l[8]?=some (l.getD 8 0):=(by rw[yR,zA oL];rfl);refine jd (λb w'=>b=decide (jn ((l.take 11).drop 9)>500\/l.getD 11 0≠0)/\w'=w.drew) ?_ ?_;apply eF<;>intro E;exact⟨by rw[yA (Or.inl (zC E))],rfl⟩;refine eY.at hd 11 rfl ao ⟨?_,rfl⟩;have:=zB E;generalize l.getD 11 0=z;by_cases hz:z=0<;>simp[this,hz];rintro b w1 ⟨rfl,rfl⟩;apply eF<;>intro E;refine G ?_ fd;rw[fX,iN h0,iN h1,iN h2,iP (zC E)];have h3:=zB E;have V:jn ((l.take 11).drop 9)<=500:=by rcases Int.lt_or_le 500 (jn ((l.take 11).drop 9)) with h|h;exact absurd (Or.inl h) h3;exact h
 have ov:fX number l=if ∃x∈l.drop (12+(jn ((l.take 11).drop 9)).toNat),x≠0 then (0,[],2) else (l.getD 8 0,(l.take (12+(jn ((l.take 11).drop 9)).toNat)).drop 12,0):=by rw[fX,iN h0,iN h1,iN h2,iN h3]
 generalize jn ((l.take 11).drop 9)=n at hn V ov;obtain⟨m,rfl⟩:∃m:Nat,n=m:=⟨n.toNat,oL⟩;rw[qj _ oL];rw[zJ] at ov;refine eT.part hd (12+m) 512 oN (by rw[O,U];rfl) oL oL λs5 l5 r5 _=>?_;rw[zS oL] at r5;have ho:=oG [] w.drew;refine dY.new ho λzb w2 ez sz ho=>?_;have aq:=r5.q9 ho.fr;refine qqP aq (hB.drop _) (ho.cell 0) λc af=>?_;have J:Fr [] w w2:=fd.trans ho.fr;have ag:=r5.1;apply eF<;>intro E;refine G ?_ J;have ar:¬ ∀x∈l.drop (12+m),x=0:=by rw[<- af];intro e;rw[e,ag] at E;simp at E
 rw[ov,if_pos];exact Classical.byContradiction λau=>ar λx hx=>Classical.byContradiction λaw=>au ⟨x,hx,aw⟩;have ah:∀x∈l.drop (12+m),x=0:=by rw[<- af];rw[ag] at E;simpa using E
 rw[iN (by rintro⟨x,hx,h0⟩;exact h0 (ah x hx))] at ov;have ai:eY S w2.drew s l:=(h.q9 J).drew;obtain⟨_,b8,o8,ay,_,aj,T8,az,aa,aA⟩:=eT.at ai 8 g8;have ab:aj[o8+8]?=some (.b (l.getD 8 0)):=by
  have:=Ma (·[0]?) aA;simpa using this
 refine vD ay ⟨oL,oL⟩ ?_;have I:∀ {w':Md},w'.heap[b8]?=some (.cells aj T8 az)->w'.cell? ⟨b8,o8+Int.toNat 8*1,none⟩=some (.b (l.getD 8 0)):=λhb=>by rw[jI hb];exact ab
 refine sU (l.getD 8 0) (I aa)<|eT.part ai 12 (12+m) rfl oN oL oL λs6 l6 r6 _=>?_;have lm:((l.take (12+m)).drop 12).length=m:=(by rw[yC,yL];omega);refine DB r6 (by rw[lm];omega) λs7 B w3 aC f7 n7 _ _=>gY (I (by show _=_;rw[f7.block b8 (gg aa) oN];exact aa)) ?_;have e1:(w2.drew).z=w2.z:=rfl
 have:=hk s7 B w3 (by rw[ov];exact aC) (J.drew.trans f7) (λb hb=>by have:=n7 b hb;have:=J.size;omega);rw[ov] at this;exact this
def D6(x:Int):wrap .u8 x=x%256:=by unfold wrap;have:(IntKind.u8.signed)=false:=rfl;rfl
def qE3{r:Int}(h:0<=r/\r<16777216)(E:0<=x/\x<256):bits .or .u32 (wrap .u32 (r*2^8)) (wrap .u32 x)=r*256+x:=by rw[qj x oL,qj (r*2^8) oL];obtain⟨a,rfl⟩:∃a:Nat,r=a:=⟨r.toNat,oL⟩;obtain⟨b,rfl⟩:∃b:Nat,x=b:=⟨x.toNat,oL⟩;have e1:((a:Int)*2^8)=((2^8*a:Nat):Int):=oL;rw[e1];show wrap .u32 ((BitVec.ofInt 32 ((2^8*a:Nat):Int)||| BitVec.ofInt 32 (b:Int)).toNat:Nat)=_;rw[BitVec.toNat_or,BitVec.ofInt_natCast,BitVec.ofInt_natCast,BitVec.toNat_ofNat,BitVec.toNat_ofNat,Nat.mod_eq_of_lt (show 2^8*a<2^32 by omega),Nat.mod_eq_of_lt (show b<2^32 by omega),<- Nat.two_pow_add_eq_or_of_lt (show b<2^8 by omega)];rw[qj _ oL];omega
def re (l:Ml):Int:=l.foldl (λr x=>r*256+x) 0
def FU:∀ {l:Ml},fj l->l.length<=4->jn l=re l:=by
 have key:∀(l:Ml) (r:Int) (k:Nat),fj l->l.length<=k->k<=4->0<=r->r<256^(4-k)->
   l.foldl (λr x=>bits .or .u32 (wrap .u32 (r*2^8)) (wrap .u32 x)) r=l.foldl (λr x=>r*256+x) r:=by
  intro l;induction l with
  | nil=>intros;rfl
  | cons x l ih=>
   intro r k E h G J I;have O:=E x oN;simp only[yI] at h;have U:r<16777216:=by
    have:(256:Int)^(4-k)<=256^3:=by
     match k,G,h with|1,_,_=>decide|2,_,_=>decide|3,_,_=>decide|4,_,_=>decide
    omega
   rw[foldl_cons,foldl_cons,qE3 ⟨J,U⟩ O];match k,G,h,I with
   | k+1,G,h,I=>
    refine ih _ k (λy V=>E y (zN _ V)) oL oL oL ?_;have e:4-k=(4-(k+1))+1:=oL;rw[e,Int.pow_succ];omega
 intro l E h;exact key l 0 4 E h oO oO oO
def C0(h:0<=n)(j:Nat)(E:j<=3):iy n j=n / 256^j%256:=by
 unfold iy;rw[D6,Int.fdiv_eq_ediv_of_nonneg _ (by exact Int.pow_nonneg oO)];match j,E with|0,_=>rfl|1,_=>rfl|2,_=>rfl|3,_=>rfl
def E1(h:0<=n):be n 4=[n / 16777216%256,n / 65536%256,n / 256%256,n%256]:=by have e:be n 4=[iy n 3,iy n 2,iy n 1,iy n 0]:=rfl;rw[e,C0 h 3 oO,C0 h 2 oO,C0 h 1 oO,C0 h 0 oO];simp
def be2(h:0<=n):be n 2=[n / 256%256,n%256]:=by have e:be n 2=[iy n 1,iy n 0]:=rfl;rw[e,C0 h 1 oO,C0 h 0 oO];simp
def xb(n:Int)(k:Nat):fj (be n k):=by intro x h;obtain⟨i,_,rfl⟩:=mem_map.1 h;unfold iy;rw[D6];omega
def Jc(h:0<=n/\n<4294967296):jn (be n 4)=n:=by rw[FU (xb _ _) (by rw[mw];exact zM _),E1 h.1];show (((0*256+_)*256+_)*256+_)*256+_=n;omega
def quv(h:0<=n/\n<65536):jn (be n 2)=n:=by rw[FU (xb _ _) (by rw[mw];decide),be2 h.1];show (0*256+_)*256+_=n;omega
def qyJ(l:Ml):0<=rK l/\rK l<4294967296:=by unfold rK zm;exact Hj _ _ _
variable {b a c:Ml}
def fj.append(h:fj a)(k:fj b):fj (a++b):=λx G=>by rcases zD.1 G with E|E;exact h x E;exact k x E
def fj.zs(n:Nat):fj (zs n):=λx h=>by
 have:=eq_of_mem_replicate h;omega
def fj.one(h:0<=x/\x<256):fj [x]:=λy E=>by simp at E;subst E;exact h
def qAL(h:0<=kind/\kind<256)(E:fj body):fj (nj number kind body):=
 (((((xb _ _).append (.one h)).append (xb _ _)).append (.one oO)).append E).append (.zs _)
def JC(h:0<=kind/\kind<256)(E:fj body):fj (gd number kind body):=(xb _ _).append (qAL h E)
def qnO(O:0<=number/\number<4294967296)(U:body.length<=500):fX number (gd number kind body)=(kind,body,0):=by
 have E:wrap .u32 (body.length:Int)=(body.length:Int):=qj _ oL;have e0:gd number kind body=be (rK (nj number kind body)) 4++(be number 4++([kind]++(be body.length 2++([0]++(body++zs (500-body.length)))))):=by
  rw[gd];conv=>lhs;rhs;rw[nj]
  rw[E];simp only[zV]
 have e1:(gd number kind body).take 4=be (rK (nj number kind body)) 4:=(by rw[gd,LO (by rw[mw];exact zM _),zS (by rw[mw];exact zM _)]);have V:(gd number kind body).drop 4=nj number kind body:=(by rw[gd,LW (by rw[mw];exact zM _),LV (by rw[mw];exact zM _),xH]);have J:∀n,∃a b c d,be n 4=[a,b,c,d]:=λn=>⟨_,_,_,_,rfl⟩;have b2:∀n,∃a b,be n 2=[a,b]:=λn=>⟨_,_,rfl⟩;obtain⟨a0,a1,a2,a3,ha⟩:=J (rK (nj number kind body));obtain⟨n0,n1,n2,n3,G⟩:=J number;obtain⟨l0,l1,I⟩:=b2 body.length;have h:gd number kind body=a0::a1::a2::a3::n0::n1::n2::n3::kind::l0::l1::0::(body++zs (500-body.length)):=(by rw[e0,ha,G,I];rfl);have g1:jn ((gd number kind body).take 4)=rK ((gd number kind body).drop 4):=(by rw[e1,V,Jc (qyJ _)]);have g2:jn (((gd number kind body).take 8).drop 4)=number:=(by have:((gd number kind body).take 8).drop 4=be number 4:=(by rw[h,G];rfl);rw[this,Jc O]);have g3:jn (((gd number kind body).take 11).drop 9)=body.length:=(by have:((gd number kind body).take 11).drop 9=be body.length 2:=(by rw[h,I];rfl);rw[this,quv oL]);have g4:(gd number kind body).getD 11 0=0:=(by rw[h];rfl);have g5:(gd number kind body).getD 8 0=kind:=(by rw[h];rfl);have g6:(gd number kind body).drop (12+body.length)=zs (500-body.length):=(by rw[h,Nat.add_comm];show (body++zs (500-body.length)).drop body.length=_;rw[LW (zM _),drop_length,xH]);have g7:((gd number kind body).take (12+body.length)).drop 12=body:=(by rw[h,Nat.add_comm];show (body++zs (500-body.length)).take body.length=_;rw[LO (zM _),xY]);rw[fX,iN (by rw[E5 U];simp),iN (by rw[g1];simp),iN (by rw[g2];simp),g3,g4,iN oQ,zJ,g6,if_neg,g5,g7];rintro⟨x,hx,h0⟩;exact h0 (eq_of_mem_replicate hx)
def cmpL:Ml->Ml->Int
 | [],[]=>0
 | [],_::_=>-1
 | _::_,[]=>1
 | a::r,b::s=>if a<b then -1 else if b<a then 1 else cmpL r s
abbrev gX (a b:Ml):Prop:=cmpL a b<0
def qpq:∀a b:Ml,cmpL a b=-1\/cmpL a b=0\/cmpL a b=1
 | [],[]=>.inr (.inl rfl)
 | [],_::_=>.inl rfl
 | _::_,[]=>.inr (.inr rfl)
 | a::r,b::s=>by rw[cmpL];split;exact .inl rfl;split;exact .inr (.inr rfl);exact qpq r s
def Jy:∀a:Ml,cmpL a a=0
 | []=>rfl
 | a::r=>by rw[cmpL,iN,iN];exact Jy r
def KJ:∀ {a b:Ml},cmpL a b=0->a=b
 | [],[],_=>rfl
 | [],_::_,h=>by simp[cmpL] at h
 | _::_,[],h=>by simp[cmpL] at h
 | a::r,b::s,h=>by rw[cmpL] at h;split at h;cases h;split at h;cases h;rw[KJ h,show a=b by omega]
def AV:∀a b:Ml,cmpL b a =-cmpL a b
 | [],[]=>rfl
 | [],_::_=>rfl
 | _::_,[]=>rfl
 | a::r,b::s=>by rw[cmpL,cmpL];by_cases h1:a<b;rw[iN (show ¬b<a by omega),iP h1,iP h1];rfl;by_cases h2:b<a;rw[iP h2,iN h1,iP h2];rw[iN h2,iN h1,iN h1,iN h2];exact AV r s
def uL:¬gX a a:=by unfold gX;rw[Jy];decide
def t8:∀ {a b c:Ml},gX a b->gX b c->gX a c
 | [],[],_,h,_=>by simp[gX,cmpL] at h
 | [],_::_,[],_,h=>by simp[gX,cmpL] at h
 | [],_::_,_::_,_,_=>by simp[gX,cmpL]
 | _::_,[],_,h,_=>by simp[gX,cmpL] at h
 | _::_,_::_,[],_,h=>by simp[gX,cmpL] at h
 | a::r,b::s,c::t,h,g=>by unfold gX at h g⊢;rw[cmpL] at h g⊢;by_cases h1:a<b;by_cases g1:b<c;rw[iP];decide;rw[iN g1] at g;by_cases g2:c<b;rw[iP g2] at g;omega;rw[iP];decide;rw[iN h1] at h;by_cases h2:b<a;rw[iP h2] at h;omega;rw[iN h2] at h;by_cases g1:b<c;rw[iP];decide;rw[iN g1] at g;by_cases g2:c<b;rw[iP g2] at g;omega;rw[iN g2] at g;rw[iN,iN];exact t8 (a:=r) (b:=s) (c:=t) h g
def wu(h:gX a b):¬gX b a:=λg=>uL (t8 h g)
def C5(h:gX a b):a≠b:=λe=>by rw[e] at h;exact uL h
def qAc(a b:Ml):gX a b\/a=b\/gX b a:=by rcases qpq a b with h|h|h;exact .inl (by unfold gX;omega);exact .inr (.inl (KJ h));refine .inr (.inr ?_);unfold gX;rw[AV];omega
def Ef:¬gX a b↔a=b\/gX b a:=by constructor;intro h;rcases qAc a b with E|E|E;exact absurd E h;exact .inl E;exact .inr E;rintro (rfl|h);exact uL;exact wu h
abbrev pr (a b:Ml):Prop:=¬gX b a
def Ec(h:pr a b)(g:gX b c):gX a c:=by rcases Ef.1 h with E|E;rw[<- E];exact g;exact t8 E g
def vY(h:gX a b)(g:pr b c):gX a c:=by rcases Ef.1 g with E|E;rw[E];exact h;exact t8 h E
def Dv(h:pr a b)(g:pr b c):pr a c:=λk=>by rcases Ef.1 h with E|E;subst E;exact g k;exact g (t8 k E)
abbrev Key:=Ml
abbrev iF:=List (List Int×List Int)
def eh (l:List Key) (k:Key):Nat:=(l.takeWhile λa=>decide (gX a k)).length
def ga (l:List Key) (k:Key):Nat:=(l.takeWhile λa=>decide (pr a k)).length
def gQ (l:List Key):Prop:=l.Pairwise gX
def qgc{α:Type}(p:α->Bool)(l:List α):(l.takeWhile p).length<=l.length:=(takeWhile_sublist p).length_le
def qAu(l:List Key)(k:Key):eh l k<=l.length:=qgc _ l
def FN(l:List Key)(k:Key):ga l k<=l.length:=qgc _ l
variable {l:iF}
def Jn{α:Type}(p:α->Bool):∀l:List α,l.take (l.takeWhile p).length=l.takeWhile p
 | []=>rfl
 | a::r=>by
  rw[takeWhile_cons];cases h:p a with|true=>simp[Jn p r]|false=>simp
def H6{α:Type}{p:α->Bool}:∀ {l:List α} {x:α},x∈l.takeWhile p->p x=true
 | a::r,x,h=>by
  rw[takeWhile_cons] at h;cases E:p a with
  | true=>
   rw[E] at h;rcases zG.1 h with rfl|h;exact E;exact H6 h
  | false=>rw[E] at h;cases h
def ID{α:Type}{p:α->Bool}:∀ {l:List α} {x:α} {r:List α},l.drop (l.takeWhile p).length=x::r->p x=false
 | a::s,x,r,h=>by
  rw[takeWhile_cons] at h;cases E:p a with
  | true=>
   rw[E] at h;exact ID (l:=s) (oS h)
  | false=>
   rw[E] at h;simp at h;rw[<- h.1];exact E
variable {l:List Key} {k:Key}
def qu1{a:Key}(h:a∈l.take (eh l k)):gX a k:=by unfold eh at h;rw[Jn] at h;exact zC (H6 (p:=λa=>decide (gX a k)) h)
def qyb{a:Key}(h:a∈l.take (ga l k)):pr a k:=by unfold ga at h;rw[Jn] at h;exact zC (H6 (p:=λa=>decide (pr a k)) h)
def CX{x:Key}{r:List Key}(h:gQ (x::r)):∀a∈r,gX x a:=(yJ.1 h).1
def gQ.drop(h:gQ l)(n:Nat):gQ (l.drop n):=List.Pairwise.sublist (drop_sublist n l) h
def gQ.take(h:gQ l)(n:Nat):gQ (l.take n):=List.Pairwise.sublist (take_sublist n l) h
def qtv{a:Key}(I:gQ l)(h:a∈l.drop (eh l k)):pr k a:=by
 have E:=I.drop (eh l k);cases e:l.drop (eh l k) with
 | nil=>rw[e] at h;cases h
 | cons x r=>
  have G:pr k x:=zB (ID (p:=λa=>decide (gX a k)) e);rw[e] at h E;rcases zG.1 h with rfl|h;exact G;exact Dv G (wu (CX E a h))
def qv0{a:Key}(I:gQ l)(h:a∈l.drop (ga l k)):gX k a:=by
 have E:=I.drop (ga l k);cases e:l.drop (ga l k) with
 | nil=>rw[e] at h;cases h
 | cons x r=>
  have G:=Classical.not_not.1 (zB (ID (p:=λa=>decide (pr a k)) e));rw[e] at h E;rcases zG.1 h with rfl|h;exact G;exact t8 G (CX E a h)
def gF (k v:Key):iF->iF
 | []=>[(k,v)]
 | x::r=>if gX k x.1 then (k,v)::x::r else if k=x.1 then (k,v)::r else x::gF k v r
def iG (k:Key) (l:iF):iF:=l.filter λx=>decide (x.1≠k)
abbrev eE (l:iF):List Key:=l.map (·.1)
def gq (l:iF):Prop:=gQ (eE l)
variable {l:iF}
def EM{k v:Key}:∀ {a:iF} {l:iF},(∀x∈a,gX x.1 k)->gF k v (a++l)=a++gF k v l
 | [],l,_=>rfl
 | x::a,l,h=>by have E:=h x oN;rw[xI,gF,iN (wu E),iN λe=>C5 E e.symm,EM λy G=>h y (zN _ G),xI]
def qnA{k v:Key}{b:iF}(h:∀x∈b,gX k x.1):∀l:iF,gF k v (l++b)=gF k v l++b
 | []=>by
  cases b with
  | nil=>rfl
  | cons x r=>
   show gF k v (x::r)=(k,v)::x::r;rw[gF,iP (h x oN)]
 | x::l=>by rw[xI,gF,gF];split;rfl;split;rfl;rw[qnA h l,xI]
variable {a:iF} {v:Key}
def Kv{w:Key}{r:iF}(h:∀x∈a,gX x.1 k):gF k v (a++(k,w)::r)=a++(k,v)::r:=by rw[EM h,gF,iN uL,iP rfl]
def qz4{b:iF}(h:∀x∈a,gX x.1 k)(E:∀x∈b,gX k x.1):gF k v (a++b)=a++(k,v)::b:=by
 rw[EM h];cases b with|nil=>rfl|cons x r=>rw[gF,iP (E x oN)]
def EQ{k v:Key}{x:Key×Key}:∀ {l:iF},x∈gF k v l->x=(k,v)\/x∈l
 | [],h=>.inl (by simpa[gF] using h)
 | y::l,h=>by rw[gF] at h;split at h;rcases zG.1 h with h|h;exact .inl h;exact .inr h;split at h;rcases zG.1 h with h|h;exact .inl h;exact .inr (zN _ h);rcases zG.1 h with h|h;exact .inr (by rw[h];simp);rcases EQ h with h|h;exact .inl h;exact .inr (zN _ h)
def HC{k v:Key}:∀ {l:iF},gq l->gq (gF k v l)
 | [],_=>pairwise_singleton _ _
 | x::l,h=>by have G:=yJ.1 (show (x.1::eE l).Pairwise gX from h);rw[gF];split;rename_i I;refine yJ.2 ⟨λa E=>?_,h⟩;rcases zG.1 E with rfl|E;exact I;exact t8 I (G.1 a E);split;rename_i I;refine yJ.2 ⟨λa E=>?_,G.2⟩;show gX k a;rw[I];exact G.1 a E;rename_i J O;refine yJ.2 ⟨λa E=>?_,HC G.2⟩;obtain⟨y,U,rfl⟩:=mem_map.1 E;rcases EQ U with rfl|U;rcases Ef.1 J with e|e;exact absurd e O;exact e;exact G.1 _ (zY U)
def HM{k v:Key}:∀ {l:iF},k∉eE l->(gF k v l).length=l.length+1
 | [],_=>rfl
 | x::l,h=>by rw[gF];split;rfl;split;rename_i e;exact absurd (by rw[e];simp) h;rw[yI,HM λE=>h (zN _ E),yI]
def HO{k v:Key}:∀ {l:iF},gq l->k∈eE l->(gF k v l).length=l.length
 | x::l,I,h=>by have G:=yJ.1 (show (x.1::eE l).Pairwise gX from I);rw[gF];split;rename_i E;rcases zG.1 h with e|e;rw[e] at E;exact absurd E uL;exact absurd E (wu (G.1 k e));split;rfl;rename_i E;rcases zG.1 h with e|e;exact absurd e E;rw[yI,HO G.2 e,yI]
def qpx(h:∀x∈a,gX x.1 k):iG k (a++l)=a++iG k l:=by unfold iG;rw[filter_append,filter_eq_self.2];intro x E;exact yA (C5 (h x E))
def qnp{b:iF}(h:∀x∈b,gX k x.1):iG k (l++b)=iG k l++b:=by unfold iG;rw[filter_append];congr 1;rw[filter_eq_self];intro x E;exact yA λe=>C5 (h x E) e.symm
def qB3{w:Key}{b:iF}(h:∀x∈a,gX x.1 k)(E:∀x∈b,gX k x.1):iG k (a++(k,w)::b)=a++b:=by rw[qpx h,show (k,w)::b=[(k,w)]++b from rfl,qnp E];unfold iG;simp
def qrR(h:gq l):gq (iG k l):=List.Pairwise.sublist (List.Sublist.map _ filter_sublist) h
def Ib{x:Key×Key}:x∈iG k l↔x∈l/\x.1≠k:=by unfold iG;rw[L9];simp
def gq.xq{b:iF}:gq (a++b)↔gq a/\gq b/\∀x∈a,∀y∈b,gX x.1 y.1:=by unfold gq gQ eE;rw[xL,pairwise_append];constructor;rintro⟨h,E,G⟩;exact⟨h,E,λx I y J=>G _ (zY I) _ (zY J)⟩;rintro⟨h,E,G⟩;refine⟨h,E,λa O b U=>?_⟩;obtain⟨x,I,rfl⟩:=mem_map.1 O;obtain⟨y,J,rfl⟩:=mem_map.1 U;exact G x I y J
def Hp(E:gq l):(∀x∈l.take (eh (eE l) k),gX x.1 k)/\∀x∈l.drop (eh (eE l) k),pr k x.1:=by refine⟨λx h=>qu1 (l:=eE l) ?_,λx h=>qtv E ?_⟩;rw[<- xN];exact zY h;rw[<- xO];exact zY h
def qx6(hs:gq l):gF k v l=if (eE l)[eh (eE l) k]?=some k then l.set (eh (eE l) k) (k,v) else l.take (eh (eE l) k)++[(k,v)]++l.drop (eh (eE l) k):=by
 obtain⟨I,h2⟩:=Hp hs;have J:gq (l.drop (eh (eE l) k)):=(by unfold gq eE;rw[xO];exact gQ.drop hs _);generalize hi:eh (eE l) k=i at I h2 J;have O:=(xD i l).symm;cases e:l.drop i with
 | nil=>
  have hn:=drop_eq_nil_iff.1 e;rw[iN (by rw[yS (by rw[zK];exact hn)];simp)];conv=>lhs;rw[O,e]
  rw[EM I];simp[gF]
 | cons x r=>
  have hx:=h2 x (by rw[e];simp);have E:i<l.length:=by rcases Nat.lt_or_ge i l.length with h|h;exact h;rw[vB h] at e;cases e
  have hg:l[i]=x:=by
   have:=zX E;rw[e] at this;exact (List.cons.inj this).1.symm
  have hr:l.drop (i+1)=r:=by
   have:=zX E;rw[e] at this;exact (List.cons.inj this).2.symm
  have U:(eE l)[i]?=some x.1:=(by rw[zQ,zA E,hg];rfl);rw[U];by_cases hk:x.1=k
  ·rw[iP (by rw[hk])];conv=>lhs;rw[O,e]
   obtain⟨a,w⟩:=x;subst hk;rw[Kv I,set_eq_take_append_cons_drop,iP E,hr]
  ·rw[iN λh=>hk (yO h)];have G:gX k x.1:=by rcases Ef.1 hx with h|h;exact absurd h hk;exact h
   conv=>lhs;rw[O,e]
   rw[qz4 I];simp;intro y V;rcases zG.1 V with rfl|V;exact G;rw[e] at J;exact t8 G (CX J y.1 (zY V))
def CO(I:gq l):(eE l)[eh (eE l) k]?=some k↔k∈eE l:=by
 constructor;exact λh=>yF h;intro U;obtain⟨V,h2⟩:=Hp (k:=k) I;obtain⟨x,G,rfl⟩:=mem_map.1 U;have E:x∈l.drop (eh (eE l) x.1):=by rw[<- xD (eh (eE l) x.1) l,zD] at G;rcases G with G|G;exact absurd (V x G) uL;exact G
 have J:gq (l.drop (eh (eE l) x.1)):=(by unfold gq eE;rw[xO];exact gQ.drop I _);cases e:l.drop (eh (eE l) x.1) with
 | nil=>rw[e] at E;cases E
 | cons y r=>
  have hy:=h2 y (by rw[e];simp);rw[e] at E J;have he:y.1=x.1:=by rcases zG.1 E with rfl|E;rfl;exact absurd (CX J x.1 (zY E)) hy
  have O:(l.drop (eh (eE l) x.1))[0]?=some y:=(by rw[e];rfl);rw[xA] at O;rw[zQ,show l[eh (eE l) x.1]?=some y by simpa using O,<- he];rfl
def qpy(G:gq l)(U:k∈eE l):iG k l=l.take (eh (eE l) k)++l.drop (eh (eE l) k+1):=by
 have E:=(CO G).2 U;obtain⟨J,V⟩:=Hp G;generalize eh (eE l) k=i at J V E;have h:i<l.length:=by
  have:=(zP.1 E).1;simpa using this
 have hl:l=l.take i++l[i]::l.drop (i+1):=(by rw[<- zX h,xD]);have O:l[i].1=k:=(by rw[zQ,zA h] at E;exact yO E);have I:gq (l.drop i):=(by unfold gq eE;rw[xO];exact gQ.drop G _);rw[zX h] at I;conv=>lhs;rw[hl]
 obtain⟨a,w,e⟩:∃a w,l[i]=(a,w):=⟨_,_,rfl⟩;rw[e] at O I⊢;subst O;exact qB3 J λy hy=>CX I y.1 (zY hy)
def vj (t:Int):Mo:=
 if t=0 then (16,88) else if t=1 then (16,108) else if t=2 then (16,1) else if t=3 then (16,16)
 else if t=4 then (24,16) else if t=5 then (24,16) else if t=6 then (24,65) else if t=7 then (1,8) else (0,0)
def qAU(t:Int):t=0\/t=1\/t=2\/t=3\/t=4\/t=5\/t=6\/t=7\/(t≠0/\t≠1/\t≠2/\t≠3/\t≠4/\t≠5/\t≠6/\t≠7):=by omega
def qtY{K:Mo->WP}{t:Int}(h:K (vj t) w):cW 75 [.i t] dv w K:=by apply qty;rcases qAU t with rfl|rfl|rfl|rfl|rfl|rfl|rfl|rfl|⟨E,G,I,J,O,U,V,h7⟩<;>simpa[vj, *] using h
def ye (k v:Int):Mo:=if k<1\/k>24\/v<0\/v>108 then (0,0) else (498 / (k+v),(498+k) / (4+k))
def qDe{K:Mo->WP}{k v:Int}(h:∀w',sD w w'->K (ye k v) w'):cW 76 [.i k,.i v] dv w K:=by
 apply quO;by_cases hc:k<1\/k>24\/v<0\/v>108;refine qW true w (λM E=>?_) ?_;by_cases h1:k<1;simpa[h1] using E;by_cases h2:k>24;simpa[h1,h2] using E;by_cases h3:v<0;simpa[h1,h2,h3] using E;have G:v>108:=oL;simpa[h1,h2,h3,G] using E;have:=h w (.refl w);simpa[ye,hc] using this;refine qW false w (λM E=>?_) ?_;simpa[show ¬k<1 by omega,show ¬k>24 by omega,show ¬v<0 by omega,show ¬v>108 by omega] using E;have:=h w.drew (sD.refl w).drew;simp only[ye,hc,if_false] at this;have e1:IntKind.i64.wrap (k+v)=k+v:=IntWalk.i64_in _ oL;have I:IntKind.i64.wrap (4+k)=4+k:=IntWalk.i64_in _ oL;have J:IntKind.i64.wrap (498+k)=498+k:=IntWalk.i64_in _ oL;have O:(498:Int).tdiv (k+v)=498 / (k+v):=LZ oL;have U:(498+k).tdiv (4+k)=(498+k) / (4+k):=LZ oL;have V:498 / (k+v)<=498:=Int.ediv_le_self _ oL;have b2:(498+k) / (4+k)<=498+k:=Int.ediv_le_self _ oL;have b3:0<=498 / (k+v):=Int.ediv_nonneg oL oL;have b4:0<=(498+k) / (4+k):=Int.ediv_nonneg oL oL;rw[e1,I,J,O,U,IntWalk.i64_in _ ⟨oL,oL⟩,IntWalk.i64_in _ ⟨oL,oL⟩];unfold gV;exact⟨oL,oL,this⟩
abbrev wy (t:Int):Prop:=0<=t/\t<=7
attribute [local irreducible] pZ
def gM (n:Nat):Nat:=if n=0 then 0 else (n-1) / 124+1
def qBp{n:Nat}(I:n<=1000000)(h:K (gM n) w):cW 127 [.i n] dj w K:=by
 refine qoq ?_;apply cD<;>intro E;have:=E;have G:n=0:=oL;subst G;exact h;have:=E;have G:n≠0:=oL;rw[gM,iN G] at h;rw[gJ ((n:Int)-1) oL];have e:Int.tdiv ((n:Int)-1) 124=(((n-1) / 124:Nat):Int):=(by rw[LZ oL];omega);rw[e,gJ (((n-1) / 124:Nat):Int) oL,gJ ((((n-1) / 124:Nat):Int)+1) oL];exact h
def jP:Int->Ml->Bool
 | _,[]=>true
 | a,x::r=>decide (a<x)&&jP x r
variable {l numbers y6 t:Ml} {r k j db:Nat} {B S' F:Mk} {sl sn:Sl} {q:Int} {f:Nat->Int} {P:Mg} {offs:Array (Mu)} {cs:Array Me}
def qvd{K:Bool->WP}(h:Rd S w s l)(hl:l.length<=1000000)(I:K (jP 1 l) w): cW 229 [s.v] dk w K:=by
 refine qmT ?_;have V:=h.1;refine lD (λx w'=>w'=w/\∃i:Nat,x.2=i/\i<=l.length/\jP x.1 (l.drop i)=jP 1 l) (λx _=>((l.length:Int)-x.2).toNat) ⟨rfl,0,rfl,oL,oN⟩ ?_;rintro⟨a,ii⟩ w' ⟨rfl,i,J,hi,G⟩ X hX;subst J;apply cD<;>intro O;have E:i<l.length:=oL;refine Rd.at h i rfl (zA E) ?_;rw[zX E,jP] at G;apply cD<;>intro U;have:=U;rw[show decide (a<l[i])=false by rw[L7];omega,Bool.false_and] at G;rw[<- G] at I;exact I;have:=U;rw[show decide (a<l[i])=true by rw[yN];omega,Bool.true_and] at G;rw[gJ _ oL];exact hX _ _ ⟨rfl,i+1,oN,oL,G⟩ oP;have E:i=l.length:=oL;subst E;rw[drop_length] at G;rw[<- G] at I;exact I
def qDA(n:Int):iy n 0=wrap .u8 n:=by
 unfold iy;have:Int.fdiv n (2^min (8*0) 32)=n:=by show Int.fdiv n (2^0)=n;simp
 rw[this]
def qsA{K:Sl->WP}(h:ip w s l B)(hl:l.length<=1000000)(hk:∀E B' w',ip w' E (l++be n 4) B'->Fr B w w'->(∀b∈B',b∈B\/w.z<=b)->K E w'): new (.cells #[.b (wrap .u8 (Int.fdiv n (2^24))),.b (wrap .u8 (Int.fdiv n (2^16))),.b (wrap .u8 (Int.fdiv n (2^8))),.b (wrap .u8 n)] 5) w λr w2=> Pt.run di ((Builtin.append_ #[79,79] 79 #[s.v,.slice (pW r) 4 4]).run prog w2) λE w'=>K E w':=by obtain⟨i5,G,hz,I,J⟩:=AF;refine oD (oG [] w) λr w1 e1 O ho=>?_;have U:be n 4=[iy n 3,iy n 2,iy n 1,iy n 0]:=rfl;have af:=O.size;refine eZ.j2 (h.q9 O) mW oM G hz I rfl (.ofSlice _ (e':=5) oM _ 4 4 _ (by rw[u4];simp[mw]) (λj u hj=>?_) λu hu=>?_) (mw n 4).symm (by rw[J];omega) oL λE B' w' g1 g2 g3 _=>?_;rw[Addr.j1,jI (ho.at (i:=0) rfl),xQ];rw[u4,U,qDA] at hj;rw[List.getElem?_toArray];exact hj;rw[u4] at hu;obtain⟨x,_,rfl⟩:=mem_map.1 hu;rfl;refine hk E B' w' g1 ((O.mono λi G _=>by cases G).j8 g2 λb V=>.inl V) λb V=>?_;rcases g3 b V with h|h;exact .inl h;exact .inr oL
def qwO{K:Sl->WP}(h:ip w s l B)(G:l.length<=1000000)(I:∀E B' w',ip w' E (l++be n 4) B'->Fr B w w'->(∀b∈B',b∈B\/w.z<=b)->K E w'): cW 231 [s.v,.u n] di w K:=by exact qpI<|qsA h G I
def KO{A B:Int}(k:Nat)(J:0<=A)(G:A%2^k=0)(O:0<=B)(h:B<2^k)(U:A+B<4294967296):bits .or .u32 A B=A+B:=by
 obtain⟨a,rfl⟩:∃a:Nat,A=a:=⟨A.toNat,oL⟩;obtain⟨b,rfl⟩:∃b:Nat,B=b:=⟨B.toNat,oL⟩;have I:a%2^k=0:=by have:((a:Int)%((2^k:Nat):Int))=0:=(by rw[Int.natCast_pow];exact G);omega
 have E:b<2^k:=(by have:(b:Int)<((2^k:Nat):Int):=(by rw[Int.natCast_pow];exact h);omega);obtain⟨q,rfl⟩:∃q,a=2^k*q:=⟨a / 2^k,by have:=Nat.div_add_mod a (2^k);omega⟩;show wrap .u32 ((BitVec.ofInt 32 ((2^k*q:Nat):Int)||| BitVec.ofInt 32 (b:Int)).toNat:Nat)=_;rw[BitVec.toNat_or,BitVec.ofInt_natCast,BitVec.ofInt_natCast,BitVec.toNat_ofNat,BitVec.toNat_ofNat,Nat.mod_eq_of_lt (show 2^k*q<2^32 by omega),Nat.mod_eq_of_lt (show b<2^32 by omega),<- Nat.two_pow_add_eq_or_of_lt E];rw[qj _ oL];omega
def rC (a b c d:Int):Int:=bits .or .u32 (bits .or .u32 (bits .or .u32 (wrap .u32 (wrap .u32 a*2^24)) (wrap .u32 (wrap .u32 b*2^16))) (wrap .u32 (wrap .u32 c*2^8))) (wrap .u32 d)
def quu{a b c d:Int}(h:0<=a/\a<256)(E:0<=b/\b<256)(G:0<=c/\c<256)(I:0<=d/\d<256):rC a b c d=((a*256+b)*256+c)*256+d:=by unfold rC;rw[qj a oL,qj b oL,qj c oL,qj d oL,qj (a*2^24) oL,qj (b*2^16) oL,qj (c*2^8) oL];rw[KO (A:=a*2^24) 24 oL oL oL oL oL];rw[KO (B:=c*2^8) 16 oL oL oL oL oL];rw[KO 8 oL oL oL oL oL];omega
def qBS(h:0<=n/\n<4294967296):rC (n / 16777216%256) (n / 65536%256) (n / 256%256) (n%256)=n:=by rw[quu oL oL oL oL];omega
def gw (l:Ml):Int:=rC (l.getD 0 0) (l.getD 1 0) (l.getD 2 0) (l.getD 3 0)
def getD_some{n:Nat}(h:n<l.length):l[n]?=some (l.getD n 0):=by rw[yR,zA h];rfl
def qzQ(h:eY S w s l)(U:4<=l.length)(E:K (gw l) w): (idx s 0 1 λa=>ld .b a w λG=>idx s 1 1 λa=>ld .b a w λI=>idx s 2 1 λa=>ld .b a w λJ=>idx s 3 1 λa=>ld .b a w λO=>K (rC G I J O) w):=by exact eY.at h 0 rfl (getD_some oL)<|eY.at h 1 rfl (getD_some oL)<|eY.at h 2 rfl (getD_some oL)<|eY.at h 3 rfl (getD_some oL)<|E
def qwM(h:eY S w s l)(E:4<=l.length)(G:K (gw l) w.drew):cW 235 [s.v] dm w K:=by exact qpH<|qzQ h E G
def quU{A B:Int}(k:Nat)(J:0<=A)(G:A%2^k=0)(O:0<=B)(h:B<2^k)(U:A+B<4294967296):bits .or .i64 A B=A+B:=by
 obtain⟨a,rfl⟩:∃a:Nat,A=a:=⟨A.toNat,oL⟩;obtain⟨b,rfl⟩:∃b:Nat,B=b:=⟨B.toNat,oL⟩;have I:a%2^k=0:=by have:((a:Int)%((2^k:Nat):Int))=0:=(by rw[Int.natCast_pow];exact G);omega
 have E:b<2^k:=(by have:(b:Int)<((2^k:Nat):Int):=(by rw[Int.natCast_pow];exact h);omega);obtain⟨q,rfl⟩:∃q,a=2^k*q:=⟨a / 2^k,by have:=Nat.div_add_mod a (2^k);omega⟩;show wrap .i64 ((BitVec.ofInt 64 ((2^k*q:Nat):Int)||| BitVec.ofInt 64 (b:Int)).toNat:Nat)=_;rw[BitVec.toNat_or,BitVec.ofInt_natCast,BitVec.ofInt_natCast,BitVec.toNat_ofNat,BitVec.toNat_ofNat,Nat.mod_eq_of_lt (show 2^k*q<2^64 by omega),Nat.mod_eq_of_lt (show b<2^64 by omega),<- Nat.two_pow_add_eq_or_of_lt E];rw[gJ _ oL];omega
def mG (l:Ml):Int:=l.getD 4 0*256+l.getD 5 0
def mj (l:Ml) (n:Nat):Ml:=(List.range n).map λi=>gw (l.drop (6+4*i))
def jo (l:Ml):Int×List Int×Int:=
 if l.length<6 then (0,[],2) else
 if gw l=1\/mG l>123\/(l.length:Int)≠6+4*mG l then (0,[],2) else
 if jP 1 (mj l (mG l).toNat) then (gw l,mj l (mG l).toNat,0) else (0,[],2)
def qyZ{K:Mx->WP}(h:eY S w s l)(hB:fj l)(hl:l.length<=100000)(hk:∀s' B w',tW w' s' (jo l).2.1 B->Fr [] w w'->(∀b∈B,w.z<=b)->K ((jo l).1,s',(jo l).2.2) w'): cW 184 [s.v] dL w K:=by
 refine qmR ?_;have J:=h.1;have O:∀ {e:Int} {w':Md},jo l=(0,[],e)->Fr [] w w'->K (0,dN,e) w':=by
  intro e w' he hf;have:=hk dN [] w' (by rw[he];exact .nil _ _ _) hf oN;rw[he] at this;exact this
 apply eF<;>intro E;have:=zC E;exact O (by rw[jo,iP]) (.refl _ _);have h6:¬l.length<6:=(by have:=zB E;omega);have fd:Fr [] w w.drew:=(Fr.refl _ _).drew;have G:=fd.drew;obtain⟨_,b4,o4,ak,aL,al,T4,aM,ab,an⟩:=eT.at h 4 (getD_some oL);obtain⟨_,b5,o5,ao,aN,ap,T5,aO,ac,aq⟩:=eT.at h 5 (getD_some oL);have g4:al[o4+4]?=some (.b (l.getD 4 0)):=(by have:=Ma (·[0]?) an;simpa using this);have g5:ap[o5+5]?=some (.b (l.getD 5 0)):=(by have:=Ma (·[0]?) aq;simpa using this);have c4:∀ {w':Md},Fr [] w w'->w'.cell? ⟨b4,o4+Int.toNat 4*1,none⟩=some (.b (l.getD 4 0)):=λf=>by rw[jI (by rw[f.block b4 (gg ab) oN];exact ab)];exact g4
 have c5:∀ {w':Md},Fr [] w w'->w'.cell? ⟨b5,o5+Int.toNat 5*1,none⟩=some (.b (l.getD 5 0)):=λf=>by rw[jI (by rw[f.block b5 (gg ac) oN];exact ac)];exact g5
 refine vD ak ⟨oL,oL⟩<|sU (l.getD 4 0) (c4 fd)<|vD ao ⟨oL,oL⟩<|sU (l.getD 5 0) (c5 fd)<|qwM h oL<|jU (c5 G) (c4 G) ?_;have r4:0<=l.getD 4 0/\l.getD 4 0<256:=hB _ (yF (getD_some oL));have r5:0<=l.getD 5 0/\l.getD 5 0<256:=hB _ (yF (getD_some oL));have ad:bits .or .i64 (wrap .i64 (wrap .i64 (l.getD 4 0)*2^8)) (wrap .i64 (l.getD 5 0))=mG l:=by rw[gJ (l.getD 4 0) oL,gJ (l.getD 5 0) oL,gJ (l.getD 4 0*2^8) oL,quU 8 oL oL oL oL oL];rfl
 have aJ:0<=mG l/\mG l<65536:=(by unfold mG;omega);rw[ad];refine jd (λb w'=>b=decide (gw l=1\/mG l>123\/(l.length:Int)≠6+4*mG l)/\w'=w.drew.drew) ?_ ?_;apply eF<;>intro E;exact⟨by rw[yA (Or.inl (oS E))],rfl⟩;have ar:¬gw l=1:=(oS E);apply cD<;>intro U;exact⟨by rw[yA (Or.inr (Or.inl (U)))],rfl⟩;have ae:¬mG l>123:=U;refine⟨?_,rfl⟩;rw[gJ (4*mG l) oL,gJ (6+4*mG l) oL,J];by_cases h3:(l.length:Int)=6+4*mG l<;>simp[ar,ae,h3];rintro b w1 ⟨rfl,rfl⟩;refine eF (λE=>O (by rw[jo,iN h6,iP (zC E)]) G) λE=>?_;have V:=zB E;have af:mG l<=123:=by rcases Int.lt_or_le 123 (mG l) with h|h;exact absurd (Or.inr (Or.inl h)) V;exact h
 have au:(l.length:Int)=6+4*mG l:=Classical.byContradiction λh=>V (Or.inr (Or.inr h));have pv:jo l=if jP 1 (mj l (mG l).toNat) then (gw l,mj l (mG l).toNat,0) else (0,[],2):=by rw[jo,iN h6,iN V]
 obtain⟨n,hn⟩:∃n:Nat,mG l=n:=⟨(mG l).toNat,oL⟩;rw[hn] at af au pv⊢;rw[zJ] at pv;refine lD (λx w'=>∃(i:Nat) (B:Mk),x.2=i/\i<=n/\tW w' x.1 (mj l i) B/\Fr [] w w'/\∀b∈B,w.z<=b) (λx _=>((n:Int)-x.2).toNat)
  ⟨0,[],rfl,oL,.nil _ _ _,G,oN⟩ ?_
 rintro⟨s1,ii⟩ w2 ⟨i,B,av,hi,hb,f2,n2⟩ X hX;subst av;apply cD<;>intro E;have ag:i<n:=oL;rw[gJ (4*(i:Int)) oL,gJ (6+4*(i:Int)) oL];have h2:eY S w2 s l:=h.q9 f2;refine eT.part h2 (6+4*i) l.length oN (by rw[J];rfl) oL oL λs3 l3 r3 _=>?_;rw[xY] at r3;refine qwM r3 (by rw[yC];omega) ?_;have ah:Fr [] w w2.drew:=f2.drew;refine qDa hb (by simp[mj];omega) λs4 B4 w4 g1 g2 g3=>?_;rw[gJ _ oL];have aZ:=ah.size;refine hX _ _ ⟨i+1,B4,oN,oL,?_,ah.j8 g2 λb hb=>.inr (n2 b hb),λb hb=>?_⟩ oP;have:mj l (i+1)=mj l i++[gw (l.drop (6+4*i))]:=(by simp[mj,range_succ]);rw[this];exact g1;rcases g3 b hb with h|h;exact n2 b h;omega;have ag:i=n:=oL;subst ag;refine qvd (S:=[]) (hb.ju wR oN) (by simp[mj];omega) ?_;apply eF<;>intro hr;have I:¬jP 1 (mj l i)=true:=(oS hr);exact O (by rw[pv,iN I]) f2;have I:jP 1 (mj l i)=true:=by simpa using hr
 have:=hk s1 B w2 (by rw[pv,iP I];exact hb) f2 n2;rw[pv,iP I] at this;exact this
def Ci:Sl->List Me:=λs=>[s.v]
def quh:∀x,(Ci x).length=1:=λ_=>rfl
def qFw:∃i,prog.info? 79=some i/\i.zero=some (.slice none 0 0)/\i.size=1/\i.bytes=24:=yy oM
def mA (S:Mk) (w:Md) (s:Sl) (E:List (Ml)) (B:Mk):Prop:=
 ∃h:List Sl,eZ Ci 1 w s h B/\h.length=E.length/\∀(i:Nat) sl l,h[i]?=some sl->E[i]?=some l->eY (S++B) w sl l
def mA.nil(S:Mk)(w:Md):mA S w dN [] []:=⟨[],.nil _ _ _,rfl,λi sl l h=>by simp at h⟩
def mA.j0{J:List (Ml)}(h:mA S w s J B)(f:Fr S w w')(O:∀b∈B,b∉S)(G:∀b∈S',b∈S\/w.z<=b):mA S' w' s J B:=by obtain⟨I,U,V,h3⟩:=h;refine⟨I,U.j0 f O,V,λi sl l hi hl=>(h3 i sl l hi hl).j0 (f.mono λb E _=>zH _ E) λb E=>?_⟩;rcases zD.1 E with E|E;rcases G b E with h|h;exact .inl (zH _ h);exact .inr h;exact .inl (zI _ E)
def mA.push{U:List (Ml)}{K:Sl->WP}(h:mA S w s U B)(hr:eY (S++B) w sl l)(hl:U.length<=1000000)(kk:∀O B' w',mA S w' O (U++[l]) B'->Fr B w w'->(∀b∈B',b∈B\/w.z<=b)->K O w'): Pt.new (.cells #[sl.v] T) w λr w1=>Pt.run di ((Builtin.append_ #[116,116] 116 #[s.v,.slice (pW r) 1 1]).run prog w1) K:=by
 obtain⟨i,hi,hz,V,aa⟩:=qFw;obtain⟨J,h1,h2,h3⟩:=h;refine eZ.push h1 quh (by simp[Ci,Value.oneCell']) oM hi hz V rfl rfl (by rw[aa];omega) oL λO B' w' b' f' n'=>kk O B' w' ⟨_,b',by simp[h2],λj sj lj G E=>?_⟩ f' n';have hw:∀b∈S++B',b∈S++B\/w.z<=b:=λb I=>by rcases zD.1 I with I|I;exact .inl (zH _ I);rcases n' b I with h|h;exact .inl (zI _ h);exact .inr h
 have hf:Fr (S++B) w w':=f'.mono λb I _=>zI _ I;by_cases hjl:j<J.length;rw[yZ hjl] at G;rw[yZ oL] at E;exact (h3 j sj lj G E).j0 hf hw;by_cases hje:j=J.length;subst hje;rw[yY (zM _),Nat.sub_self] at G;rw[h2,yY (zM _),Nat.sub_self] at E;simp at G E;subst G E;exact hr.j0 hf hw;rw[yS (by rw[zF];simp;omega)] at G;cases G
def k9 (next:Int) (c:Ml):Ml:=be next 4++[wrap .u8 (Int.fdiv c.length (2^8)),wrap .u8 c.length]++c.flatMap (be · 4)
def jC (numbers y6:Ml) (k:Nat):List (Ml):=(List.range k).map λi=>k9 (y6.getD (i+1) 0) ((numbers.drop (123*i)).take 123)
def ik (numbers y6:Ml):List (Ml)×Int:=
 if jP 1 numbers=false\/numbers.length>123*y6.length then ([],1) else if ∃p∈y6,p<2 then ([],1) else (jC numbers y6 y6.length,0)
def qBD{K:Me->WP}(I:∀E G w',Fr [] w w'->(∀S w0 L,dY S w0 w L->dY S w0 w' ((E,.c #[.i n] 3)::(G,.c #[s.v] 117)::L))->K (.func (.func 273) #[] #[dM E,dM G]) w'): cW 230 [s.v,.i n] dx w K:=by exact qmS<|Pt.Fg<|Pt.Fg<|I _ _ _ (((Fr.refl [] w).alloc _).alloc _) λS w0 L h=>(h.alloc _).alloc _
def Fe:∀l:Ml,(l.flatMap (be · 4)).length=l.length*4
 | []=>rfl
 | x::l=>by rw[yH,zF,mw,Fe l,yI];omega
def qEt(a b:Int):([a,b]:Ml).length=2:=rfl
def qxp{G:Mk}{sp:Sl}{K:Mr->WP}(hn:Rd S w sn numbers)(hp:Rd S w sp y6)(bY:numbers.length<=100000)(bZ:y6.length<=100000)(hG:∀b∈G,b<w.z)(hk:∀s' B w',mA G w' s' (ik numbers y6).1 B->Fr [] w w'->(∀b∈B,w.z<=b)->K (s',(ik numbers y6).2) w'): cW 180 [sn.v,sp.v] dl w K:=by
 refine qla ?_;have bh:=hn.1;have bi:=hp.1;have aV:∀ {w':Md},ik numbers y6=([],1)->Fr [] w w'->K (dN,1) w':=by
  intro w' he hf;have:=hk dN [] w' (by rw[he];exact .nil _ _) hf oN;rw[he] at this;exact this
 refine oD (oG [] w) λr1 w1 e1 f1 ho=>?_;have bj:=hn.q9 ho.fr;have bk:=hp.q9 ho.fr;refine jd (λb w'=>b=decide (jP 1 numbers=false\/numbers.length>123*y6.length)/\w'=w1) ?_ ?_;refine qvd bj oL ?_;apply eF<;>intro hc;have hr:jP 1 numbers=false:=(oS hc);exact⟨by rw[yA (Or.inl hr)],rfl⟩;have hr:jP 1 numbers=true:=(oS hc);refine Mi ho 0 sp ⟨?_,rfl⟩;rw[gJ (123*(sp.len:Int)) oL,bh,bi];have e:decide ((numbers.length:Int)>123*(y6.length:Int))=decide (numbers.length>123*y6.length):=by by_cases h:numbers.length>123*y6.length;rw[yA h,yA];omega;rw[zU h,zU];omega
 rw[e];by_cases h:numbers.length>123*y6.length<;>simp[hr,h];rintro b w2 ⟨rfl,rfl⟩;refine eF (λhc=>aV (by rw[ik,iP (zC hc)]) ho.fr) λhc=>?_;have aW:=zB hc;refine Mi ho 0 sp<|lD (λx w'=>w'=w2/\∃i:Nat,x.2.2=i/\i<=y6.length/\∀p∈y6.take i,¬p<2) (λx _=>((y6.length:Int)-x.2.2).toNat) ⟨rfl,0,rfl,oL,oN⟩ ?_;rintro⟨sx,ex,ii⟩ w3 ⟨rfl,i,bm,hi,al⟩ X hX;subst bm;dsimp only;apply cD<;>intro hc;have an:i<y6.length:=oL;refine Rd.at bk i rfl (zA an) ?_;apply cD<;>intro hx;exact aV (by rw[ik,iN aW,iP ⟨y6[i],zW an,hx⟩]) ho.fr;rw[gJ _ oL];refine hX _ _ ⟨rfl,i+1,oN,oL,λp hp=>?_⟩ oP;rw[yG an] at hp;rcases zD.1 hp with hp|hp;exact al p hp;simp at hp;subst hp;exact hx;have an:i=y6.length:=oL;subst an;rw[xY] at al;have bp:ik numbers y6=(jC numbers y6 y6.length,0):=by rw[ik,iN aW,if_neg];rintro⟨p,hp,h2⟩;exact al p hp h2
 rw[bp] at hk;refine oD ho λro w4 eo fo ho=>Mi ho 1 sp<|qBD λrp rl w5 f5 aX=>?_;have br:=aX _ _ _ ho;refine dY.mn br rfl oM λDm l R Bz J E E0 w6 el eD b1 aY hy=>qi9<|Mi aY 2 sp.len<|lD (λx w'=>∃(j:Nat) (cl so:Sl) (Bo:Mk),x=j/\j<=y6.length/\Rd [] w cl (numbers.drop (123*j))/\mA ([l,Dm,rp,rl,ro,r1]++G) w' so (jC numbers y6 j) Bo/\(∀b∈Bo,w.z<=b/\b∉[l,Dm,rp,rl,ro,r1])/\
   dY [] w w' [(l,R),(Dm,.deferred (some [])),(rp,.c #[.i sp.len] 3),(rl,.c #[cl.v] 117),(ro,.c #[so.v] 116),(r1,.c #[sp.v] 117)]) (λx _=>((y6.length:Int)-x).toNat)
  ⟨0,sn,dN,[],rfl,oL,hn.j6 (λb I=>by cases I),.nil _ _,oN,aY⟩ ?_
 rintro x w7 ⟨j,cl,so,Bo,rfl,hj,aJ,ao,ai,ab⟩ X hX;have af:∀b∈Bo,b∉[l,Dm,rp,rl,ro,r1]++G:=λb I O=>by
  rcases zD.1 O with O|O;exact (ai b I).2 O;have:=hG b O;have:=(ai b I).1;omega
 have bs:=aJ.1;rw[yC] at bs;apply cD<;>intro hc
 ·have b3:j<y6.length:=oL;refine Mi ab 3 cl<|Mi ab 3 cl ?_;obtain⟨m,O,ap⟩:∃m:Nat,(if (123:Int)<(cl.len:Int) then 123 else (cl.len:Int))=m/\m=Nat.min 123 cl.len:=(by by_cases h:123<cl.len;exact⟨123,by rw[iP];rfl,(xP oL).symm⟩;exact⟨cl.len,by rw[iN],(Nat.min_eq_right oL).symm⟩);rw[O];refine eT.part aJ 0 m rfl rfl oL (by rw[yC];omega) λcs bQ aK _=>?_;rw[xE] at aK;have ag:(numbers.drop (123*j)).take m=(numbers.drop (123*j)).take 123:=(by by_cases h:123<cl.len;rw[ap];congr 1;exact xP oL;have:m=cl.len:=(by rw[ap];exact Nat.min_eq_right oL);rw[this,zS (by rw[yC];omega),zS (by rw[yC];omega)]);generalize bt:(numbers.drop (123*j)).take m=chunk at aK ag;have a0:chunk.length=m:=(by rw[<- bt,yL,yC];omega);have aF:cs.len=m:=oL;refine hy ((j:Int),cs) w7 _ (ab.at (i:=0) rfl)<|⟨ab.at (i:=0) rfl,?_⟩;have U:=ab.jA (o':=Bz) 0 rfl;have V:=U.AW [];have a1:Rd [] (Pt.jA w7 l Bz) sp y6:=(hp.j6 λb I=>by cases I).q9 U.fr;have aq:=ao.j0 ((AU (gg (ab.at (i:=0) rfl)) Bz).mono λb I _=>by simp at I;subst I;simp) af λb I=>.inl I;have a2:=ao.choose_spec.1.lt;refine jd (λx w'=>x=y6.getD (j+1) 0/\w'=Pt.jA w7 l Bz) ?_ ?_;refine Mi V 5 sp ?_;rw[gJ ((j:Int)+1) oL];apply cD<;>intro aL;have h2:j+1<y6.length:=oL;exact Mi V 5 sp<|Rd.at a1 (j+1) oL (getD_some h2)<|⟨rfl,rfl⟩;have h2:¬j+1<y6.length:=oL;exact⟨by rw[yR,yS oL];rfl,rfl⟩;rintro x w8 ⟨rfl,rfl⟩;generalize bu:y6.getD (j+1) 0=next
  have hW:(Pt.jA w7 l Bz).z=w7.z:=Af _ _ _;generalize b5:Pt.jA w7 l Bz=w8 at U V a1 hW aq;have ah:∀p∈[l,Dm,rp,rl,ro,r1],p<w8.z:=λp hp=>by have aj:=λ(k:Nat) (q:Nat×Obj) (hq:_[k]?=some q)=>gg (U.at hq);simp only[zG,xW,or_false] at hp;rcases hp with rfl|rfl|rfl|rfl|rfl|rfl;exact aj 0 _ rfl;exact aj 1 _ rfl;exact aj 2 _ rfl;exact aj 3 _ rfl;exact aj 4 _ rfl;exact aj 5 _ rfl
  obtain⟨i5,bv,bx,a3,a4⟩:=AF;refine qwO (.nil _ _ _) oN λs9 B9 w9 b9 f9 n9=>?_;rw[xH] at b9;have V:=V.q9 f9;refine oD V λr2 b8 ca a5 V=>?_;have aM:∀b∈B9,w8.z<=b:=λb I=>by rcases n9 b I with h|h;cases h;exact h
  refine eZ.j2 (ys:=[wrap .u8 (Int.fdiv chunk.length (2^8)),wrap .u8 chunk.length]) (b9.q9 a5) mW oM bv bx a3 rfl (.ofSlice _ (e':=5) oM _ 2 2 _ (by rw[u4];rfl) (λq u hq=>?_) λu hu=>?_) rfl (by rw[a4,mw];decide) (by rw[mw];decide) λcc a6 cd bz bA bB _=>?_;rw[Addr.j1,jI (V.at (i:=0) rfl),xQ,aF,<- a0];rw[u4] at hq;rw[List.getElem?_toArray];exact hq;rw[u4] at hu;obtain⟨x,_,rfl⟩:=mem_map.1 hu;rfl;have ce:=f9.size;have bU:=a5.size;have V:=(V.sub (L5 _ _)).j0 bA (λb I=>.inr (aM b I)) (λp hp I=>by have h1:=ah p.1 (zY hp);have h2:=aM _ I;omega);have a7:∀b∈a6,w8.z<=b:=λb I=>by rcases bB b I with h|h;exact aM b h;omega
  refine lD (λx w'=>∃(q:Nat) (Bq:Mk),x.2=q/\q<=m/\ip w' x.1 (be next 4++[wrap .u8 (Int.fdiv chunk.length (2^8)),wrap .u8 chunk.length]++(chunk.take q).flatMap (be · 4)) Bq/\(∀b∈Bq,w8.z<=b)/\
    dY ([l,Dm,rp,rl,ro,r1]++[]) w8 w' [(l,Bz),(Dm,.deferred (some [])),(rp,.c #[.i sp.len] 3),(rl,.c #[cl.v] 117),(ro,.c #[so.v] 116),(r1,.c #[sp.v] 117)]) (λx _=>((m:Int)-x.2).toNat)
   ⟨0,a6,rfl,oL,by simpa using bz,a7,V⟩ ?_
  rintro⟨cf,qq⟩ cg ⟨q,Bq,bD,ch,bq,nq,hq⟩ Y hY;subst bD;rw[aF];apply cD<;>intro aN
  ·have ar:q<chunk.length:=oL;have aO:=aK.q9 (U.BO oN hq.fr);refine Rd.at aO q rfl (zA ar) ?_;have aP:(be next 4++[wrap .u8 (Int.fdiv chunk.length (2^8)),wrap .u8 chunk.length]++(chunk.take q).flatMap (be · 4)).length<=1000000:=(by rw[zF,zF,mw,Fe,yL,qEt];omega);refine qwO bq aP λa8 aB aC aQ aR aT=>?_;rw[gJ _ oL];refine hY _ _ ⟨q+1,aB,oN,oL,?_,λb I=>?_,hq.j0 aR (λb I=>.inr (nq b I)) λp hp I=>?_⟩ oP;rw[yG ar,yQ,flatMap_singleton,<- zV];exact aQ;rcases aT b I with h|h;exact nq b h;exact zL hq.fr.size h;have h1:=ah p.1 (zY hp);have h2:=nq _ I;omega
  ·have bF:q=m:=oL;subst bF;rw[zS oL] at bq;refine Mi hq 4 so ?_;have a9:=bq.ju mW λb I O=>by
    have h2:=nq _ I;rcases zD.1 O with O|O;rcases zD.1 O with O|O;have:=ah b O;omega;have:=hG b O;have:=U.fr.size;omega;have:=a2 b O;omega
   have aD:=aq.j0 (hq.fr.mono λb I _=>by rw[xG] at I;exact zH _ I) af λb I=>.inl I;refine mA.push aD a9 (by rw[jC,zK,length_range];omega) λa8 aB aC aQ aR aT=>?_;have au:=(U.BX oN hq).j0 aR (λb I=>.inr (ai b I).1) λp hp I=>(ai _ I).2 (zY hp);refine oF au 4 rfl _ λcj au bG=>⟨au.at (i:=0) rfl,?_⟩;have ar:=au.jA (o':=R) 0 rfl;refine x_<|Mi ar 3 cl<|eT.part aJ q (numbers.drop (123*j)).length rfl (by rw[yC];show (cl.len:Int)=_;omega) (by rw[yC];omega) (zM _) λcr bW a' _=>oF ar 3 rfl _ λbH bI bJ=>?_;rw[gJ _ oL];have av:∀b∈aB,w.z<=b/\b∉[l,Dm,rp,rl,ro,r1]:=λb I=>by
    rcases aT b I with h|h;exact ai b h;have h1:=hq.fr.size;refine⟨?_,λO=>?_⟩;have:=U.fr.size;omega;have:=ah b O;omega
   have ff:Fr [l,Dm,rp,rl,ro,r1] aC bH:=
    (bG.mono λb I _=>by simp at I;subst I;simp).j8 ((AU (gg (au.at (i:=0) rfl)) R).mono λb I _=>by simp at I;subst I;simp) (λb I=>.inl I) |>.j8 (bJ.mono λb I _=>by simp at I;subst I;simp) (λb I=>.inl I)
   have aE:=aQ.j0 (ff.mono λb I _=>zH _ I) (λb I O=>by
    rcases zD.1 O with O|O;exact (av b I).2 O;have:=hG b O;have:=(av b I).1;omega) (λb I=>.inl I)
   have ba:((numbers.drop (123*j)).take (numbers.drop (123*j)).length).drop q=numbers.drop (123*(j+1)):=(by rw[xY,xC];by_cases h:123<cl.len;rw[show q=123 by rw[ap];exact xP oL,Nat.mul_add];rw[vB oL,vB oL]);rw[ba] at a';have aP:jC numbers y6 (j+1)=jC numbers y6 j++[k9 next chunk]:=(by rw[jC,range_succ,xL,map_singleton,bu,<- ag];rfl);refine hX _ _ ⟨j+1,cr,a8,aB,oN,oL,a',by rw[aP];exact aE,av,bI⟩ oL
 have bK:j=y6.length:=oL;subst bK;refine .inl ⟨ab.at (i:=0) rfl,?_⟩;have U:=ab.jA (o':=E0) 0 rfl;refine Mi U 4 so<|dY.fc U.nI 1 rfl λaC hd=>?_;have bL:=ao.j0 ((AU (gg (ab.at (i:=0) rfl)) E0).mono λb I _=>by simp at I;subst I;simp) af λb I=>.inl I;exact hk so Bo aC (bL.j0 (S':=G) (hd.fr.mono λb I _=>zH _ I) af λb I=>.inl (zI _ I)) (U.back hd.fr) (λb I=>(ai b I).1)
def gh (q:Int) (t:Ml):List Me:=.w q::t.map (Value.int .u32)
def iJ (q:Int) (t:Ml):Ml:=be (wrap .u32 (Int.fdiv q (2^32))) 4++be (wrap .u32 q) 4++t.flatMap (be · 4)
def Dh(h:t.length=27):(iJ q t).length=116:=by rw[iJ,zF,zF,mw,mw,Fe,h]
def u7(h:t.length=27):(gh q t).length=28:=by simp[gh,h]
def Ey(n:Nat)(h:n<t.length):(gh q t).toArray[n+1]?=some (.u (t.getD n 0)):=by simp[gh,yR,zA h]
def qvp(q:Int)(t:Ml):((gh q t).all Value.oneCell')=true:=by rw[LY];intro v h;rcases zG.1 h with rfl|h;rfl;obtain⟨x,_,rfl⟩:=mem_map.1 h;rfl
def qt5{α:Type}{enc:α->List Me}{l:List α}(h:eZ enc k w s l B):eZ enc k w.drew s l B:=h
def qB (w0:Md) (L:Mq) (B:Mk):Prop:=∀b∈B,w0.z<=b/\b∉L.map (·.1)
def qB.cons{o:Obj}(h:qB w0 L B)(I:r∉B):qB w0 ((r,o)::L) B:=λb E=>⟨(h b E).1,λG=>by rcases zG.1 G with rfl|G;exact I E;exact (h b E).2 G⟩
def qB.tail{p:Nat×Obj}(h:qB w0 (p::L) B):qB w0 L B:=λb E=>⟨(h b E).1,λG=>(h b E).2 (zN _ G)⟩
def Lk(h:j+3<=l.length):l.drop j=l.getD j 0::l.getD (j+1) 0::l.getD (j+2) 0::l.drop (j+3):=by rw[zX oL,zX oL,zX oL];simp only[yR];rw[zA (show j<l.length by omega),zA (show j+1<l.length by omega),zA (show j+2<l.length by omega)];rfl
def uF(h:j+3<=l.length):l.take (j+3)=l.take j++[l.getD j 0,l.getD (j+1) 0,l.getD (j+2) 0]:=by rw[take_add,Lk h];rfl
def qFN(h:j+3<=l.length):(l.map (Value.int .u32)).extract j (j+3)=[.u (l.getD j 0),.u (l.getD (j+1) 0),.u (l.getD (j+2) 0)]:=by rw[extract_eq_take_drop,<- xO,Lk h,show j+3-j=3 by omega];rfl
def Ba{K:Sl->WP}(I:dY [] w0 w L)(h:ip w s l B)(J:qB w0 L B)(V:l.length<=1000000)(hk:∀G B' w',dY [] w0 w' L->ip w' G (l++be n 4) B'->qB w0 L B'->K G w'): cW 233 [s.v,.u n] di w K:=by
 refine qvq<|qsA h V λG B' w' b' f' n'=>hk G B' w' (I.j0 f' (λb E=>.inr (J b E).1) λp O E=>(J _ E).2 (zY O)) b' λb E=>?_;rcases n' b E with U|U;exact J b U;refine⟨zL I.fr.size U,λhm=>?_⟩;obtain⟨p,O,rfl⟩:=mem_map.1 hm
 have:=gg (I.iX p O);omega
def qzg{K:Sl->WP}(hv:Hv w)(O:t.length=27)(hk:∀b T w',w'.heap[b]?=some (.c (gP (gd (wrap .u32 (Int.tmod q 2)) 1 (iJ q t))) T)->Fr [] w w'->w.z<=b->K ⟨pW b,512,512⟩ w'): cW 182 [.agg (gh q t).toArray] di w K:=by
 refine qrx<|oD (oG [] w) λr1 w1 e1 f1 G=>?_;have c0:(gh q t).toArray[0]?=some (.w q):=rfl;have J:=λn (h:n<27)=>Ey (q:=q) (t:=t) n oL;refine oB G.drew 0 rfl q c0<|oB G.drew 0 rfl q c0<|Ba G.drew (.nil _ _ _) (λb I=>by cases I) oN λs5 B5 w6 G b5 U=>gY (G.cell 0 rfl c0)<|Ba G b5 U (by simp[mw]) λs8 B8 w9 G b8 n8=>oB G.drew 0 rfl (t.getD 0 0) (J 0 oO)<|oB G.drew 0 rfl (t.getD 1 0) (J 1 oO)<|oB G.drew 0 rfl (t.getD 2 0) (J 2 oO)<|Ba G.drew (qt5 b8) n8 (by simp[mw]) λaC aD aE G ac ad=>jU (G.cell 0 rfl (J 2 oO)) (G.cell 0 rfl (J 1 oO))<|Ba G ac ad (by simp[mw]) λaF aG aH G ae af=>gY (G.cell 0 rfl (J 2 oO))<|Ba G ae af (by simp[mw]) λaI ag aJ G V ah=>?_;have hr:((gh q t).toArray.toList.drop 4).take 24=(t.drop 3).map (Value.int .u32):=by show (List.drop 3 (t.map (Value.int .u32))).take 24=_;rw[xO,zS (by rw[yC,zK,O];decide)]
 refine lW (G.at (i:=0) rfl) ((t.drop 3).map (Value.int .u32)) (by rw[zK,yC,O]) hr ?_;have ai:(t.drop 3).length=24:=(by rw[yC,O]);have aj:t=[t.getD 0 0,t.getD 1 0,t.getD 2 0]++t.drop 3:=by
  have:=Lk (l:=t) (j:=0) oL;rw[xE] at this;exact this
 have base:[]++be (wrap .u32 (Int.fdiv q (2^32))) 4++be (wrap .u32 q) 4++be (t.getD 0 0) 4++be (t.getD 1 0) 4++be (t.getD 2 0) 4=be (wrap .u32 (Int.fdiv q (2^32))) 4++be (wrap .u32 q) 4++[t.getD 0 0,t.getD 1 0,t.getD 2 0].flatMap (be · 4):=oN;rw[base] at V;refine lD (λx w'=>∃(i:Nat) (B:Mk),x.2=i/\i<=8/\ip w' x.1 (be (wrap .u32 (Int.fdiv q (2^32))) 4++be (wrap .u32 q) 4++[t.getD 0 0,t.getD 1 0,t.getD 2 0].flatMap (be · 4)++((t.drop 3).take (3*i)).flatMap (be · 4)) B/\dY [] w w' [(r1,.c (gh q t).toArray 130)]/\qB w [(r1,.c (gh q t).toArray 130)] B) (λx _=>(8-x.2).toNat)
  ⟨0,ag,rfl,oL,by simpa using V,G,ah⟩ ?_
 rintro⟨s,ii⟩ w2 ⟨i,B,ak,aL,bb,G,nb⟩ X hX;subst ak;have ao:(be (wrap .u32 (Int.fdiv q (2^32))) 4++be (wrap .u32 q) 4++[t.getD 0 0,t.getD 1 0,t.getD 2 0].flatMap (be · 4)++((t.drop 3).take (3*i)).flatMap (be · 4)).length<=200:=by rw[zF,zF,zF,mw,mw,Fe,Fe,yL,ai];show 4+4+3*4+_<=200;omega
 apply cD<;>intro hc;have hi:i<8:=oL;refine nc ⟨oL,oL⟩ ?_;have h3:3*i+3<=(t.drop 3).length:=oL;refine qDK ((t.drop 3).getD (3*i) 0,(t.drop 3).getD (3*i+1) 0,(t.drop 3).getD (3*i+2) 0) ?_ ?_;have:=qFN h3;rw[show Int.toNat (i:Int)*3=3*i by simp;omega];exact this;refine oD G λr2 w3 e3 f3 E=>oF E 0 rfl _ λw4 E f4=>?_;have an:=bb.lt;have aa:r2∉B:=λI=>by have:=an _ I;omega
 have bb:=(bb.q9 f3).j0 f4 (λb I hm=>by simp only[zE] at hm;subst hm;exact aa I);refine Mi E.drew 0 ((t.drop 3).getD (3*i) 0)<|Mi E.drew 0 ((t.drop 3).getD (3*i+1) 0)<|Mi E.drew 0 ((t.drop 3).getD (3*i+2) 0)<|Ba E.drew (qt5 bb) (nb.cons aa) oL λs5 B5 w5 E b5 U=>jU (E.cell 0) (E.cell 0)<|Ba E b5 U (by rw[zF,mw];omega) λs6 B6 w6 E b6 n6=>gY (E.cell 0)<|Ba E b6 n6 (by rw[zF,zF,mw,mw];omega) λs7 B7 w7 E b7 n7=>?_;rw[gJ _ oL];refine hX _ _ ⟨i+1,B7,oN,oL,?_,E.sub (L5 _ _),n7.tail⟩ oP;rw[show 3*(i+1)=3*i+3 by omega,uF h3,yQ];have e:([(t.drop 3).getD (3*i) 0,(t.drop 3).getD (3*i+1) 0,(t.drop 3).getD (3*i+2) 0]:Ml).flatMap (be · 4)=be ((t.drop 3).getD (3*i) 0) 4++be ((t.drop 3).getD (3*i+1) 0) 4++be ((t.drop 3).getD (3*i+2) 0) 4:=oN;rw[e];simpa only[zV] using b7;obtain rfl:i=8:=by omega
 rw[zS oL,zV,<- yQ,<- aj] at bb;refine oB G 0 rfl q c0 ?_;have I:=bb.ju (S:=[]) mW oN;refine qxb I (hv.q9 G.fr) (by show (iJ q t).length<=_;rw[Dh O];decide) (λh=>?_) λ_ b T w5 h5 f5 U=>?_;have h':500<(iJ q t).length:=h;rw[Dh O] at h';exact absurd h' oO;exact hk b T w5 h5 (G.fr.j8 f5 oN) (zL G.fr.size U)
def Bj(O:dY [] w0 w L)(i:Nat)(hi:L[i]?=some (r,.c #[s.v] 79))(h:eY [] w0 s l)(U:4<=l.length)(V:∀G w',eY [] w0 G (l.drop 4)->dY [] w0 w' (L.set i (r,.c #[G.v] 79))->K (gw l) w'): dU prog (.func (.func 293) #[] #[dM r]) [] dm w K:=by refine nM rfl oM<|qnd ?_;have E:=O.drew;have I:=h.q9 E.fr;exact oB E i hi s rfl<|eY.at I 0 rfl (getD_some oL)<|oB E i hi s rfl<|eY.at I 1 rfl (getD_some oL)<|oB E i hi s rfl<|eY.at I 2 rfl (getD_some oL)<|oB E i hi s rfl<|eY.at I 3 rfl (getD_some oL)<|oB E i hi s rfl<|eT.drop h 4 rfl U oL λG h'=>oJ E i hi _ rfl rfl rfl λw' J _=>V G w' h' J
def jy (l:Ml):Int:=bits .or .u64 (wrap .u64 (wrap .u64 (gw l)*2^32)) (wrap .u64 (gw (l.drop 4)))
def nQ (l:Ml):Ml:=(List.range 27).map λi=>gw (l.drop (8+4*i))
def xw(l:Ml):(nQ l).length=27:=by simp[nQ]
def m8 (q:Int) (f:Nat->Int) (n:Nat):Array Me:=(gh q ((List.range n).map f++zs (27-n))).toArray
def qyH{y:Int}{A Z:Ml}:d7 (gh q (A++x::Z)).toArray (A.length+1) [.u y]=(gh q (A++y::Z)).toArray:=by
 apply Array.ext';have:=Kw (.w q::A.map (Value.int .u32)) [Value.int .u32 x] [Value.int .u32 y] (Z.map (Value.int .u32)) rfl;rw[tM _ _ _ (by simp[gh])];simpa[gh] using this
def DZ{n:Nat}(h:n<27):d7 (m8 q f n) (n+1) [.u (f n)]=m8 q f (n+1):=by
 have E:zs (27-n)=0::zs (27-(n+1)):=by rw[show 27-n=(27-(n+1))+1 by omega];rfl
 have:=qyH (q:=q) (x:=0) (y:=f n) (A:=(List.range n).map f) (Z:=zs (27-(n+1)));rw[zK,length_range] at this;rw[m8,E,this,m8,range_succ,xL,zV];rfl
def qA1{h:Int}{n:Nat}:d7 (m8 q f n) 0 [.w h]=m8 h f n:=by apply Array.ext';rw[tM _ _ _ (by simp[m8,gh])];simp[m8,gh]
def C7{n:Nat}(h:n<=27):(m8 q f n).size=28:=by simp[m8,gh,rM];omega
def qA0:m8 q f 27=(gh q ((List.range 27).map f)).toArray:=by show (gh q ((List.range 27).map f++[])).toArray=_;rw[xG]
def qzf{K:List Me->WP}(h:eY S w s l)(hl:l.length=116)(hk:∀w',Fr [] w w'->K (gh (jy l) (nQ l)) w'): cW 274 [s.v] dz w K:=by
 refine qry ?_;have h0:eY [] w s l:=h.j6 oN;have V:((prog.info? 130).bind (·.zero)).map (λz=>z.cells.toList)=some (gh 0 (zs 27)):=oM;refine oD (oG [] w) λr1 w1 e1 f1 E=>oK E V λr3 w2 e3 E=>oK E V λI w3 e5 E=>Bj E 2 rfl h0 oL λs1 w4 h1 E=>?_;have J:∀(q:Int),(gh q (zs 27)).toArray=m8 q (λi=>gw (l.drop (8+4*i))) 0:=λq=>rfl;refine oI E 0 rfl (m8 (wrap .u64 (wrap .u64 (gw l)*2^32)) (λi=>gw (l.drop (8+4*i))) 0) ?_ rfl ?_ λw5 E _=>?_;rw[J 0];exact qA1;exact zO rfl;refine oB E.drew 0 rfl (wrap .u64 (wrap .u64 (gw l)*2^32)) rfl<|Bj E.drew 2 rfl h1 (by rw[yC];omega) λs2 w6 h2 E=>gY (E.cell 0)<|oI E 0 rfl (m8 (jy l) (λi=>gw (l.drop (8+4*i))) 0) qA1 rfl (zO rfl) λw7 E _=>?_;rw[xC] at h2;refine Bj E 2 rfl h2 (by rw[yC];omega) λs3 w8 h3 E=>oI E 0 rfl (m8 (jy l) (λi=>gw (l.drop (8+4*i))) 1) (DZ oO) rfl (by show 1+1<=_;rw[C7 oO];decide) λw9 E _=>?_;rw[xC] at h3;refine Bj E 2 rfl h3 (by rw[yC];omega) λs4 ak h4 E=>oI E 0 rfl (m8 (jy l) (λi=>gw (l.drop (8+4*i))) 2) (DZ oO) rfl (by show 2+1<=_;rw[C7 oO];decide) λal E _=>?_;rw[xC] at h4;refine Bj E 2 rfl h4 (by rw[yC];omega) λs5 ao h5 E=>oI E 0 rfl (m8 (jy l) (λi=>gw (l.drop (8+4*i))) 3) (DZ oO) rfl (by show 3+1<=_;rw[C7 oO];decide) λap E _=>?_;rw[xC] at h5;refine lD (λx w'=>∃(i:Nat) (O:Sl),x=i/\i<=8/\eY [] w O (l.drop (20+12*i))/\
   dY [] w w' [(I,.c (m8 (jy l) (λi=>gw (l.drop (8+4*i))) (3+3*i)) 130),(r3,.c (gh 0 (zs 27)).toArray 130),(r1,.c #[O.v] 79)]) (λx _=>(8-x).toNat)
  ⟨0,s5,rfl,oL,h5,E⟩ ?_
 rintro x aq ⟨i,O,rfl,ar,hx,E⟩ X hX;apply cD<;>intro U;have hi:i<8:=oL;refine nc ⟨oL,oL⟩ ?_;simp only[Addr.j1];refine Bj E 2 rfl hx (by rw[yC];omega) λs6 G h6 E=>?_;show Pt.st ⟨I,4+Int.toNat (i:Int)*3+0,none⟩ _ _ _;refine oI E 0 rfl (m8 (jy l) (λi=>gw (l.drop (8+4*i))) (3+3*i+1)) ?_ rfl ?_ λaw E _=>?_;rw[show 20+12*i=8+4*(3+3*i) by omega,show 4+Int.toNat (i:Int)*3+0=(3+3*i)+1 by omega];exact DZ oL;rw[C7 oL];show _+1<=28;omega;rw[xC] at h6;refine Bj E 2 rfl h6 (by rw[yC];omega) λs7 ax h7 E=>?_;show Pt.st ⟨I,0+4+Int.toNat (i:Int)*3+1,none⟩ _ _ _;refine oI E 0 rfl (m8 (jy l) (λi=>gw (l.drop (8+4*i))) (3+3*i+2)) ?_ rfl ?_ λay E _=>?_;rw[show 20+12*i+4=8+4*(3+3*i+1) by omega];show d7 _ (0+4+Int.toNat (i:Int)*3+1) _=_;rw[show 0+4+Int.toNat (i:Int)*3+1=(3+3*i+1)+1 by omega];exact DZ oL;rw[C7 oL];show 0+4+Int.toNat (i:Int)*3+1+1<=28;omega;rw[xC] at h7;refine Bj E 2 rfl h7 (by rw[yC];omega) λs8 aA h8 E=>?_;show Pt.st ⟨I,0+4+Int.toNat (i:Int)*3+2,none⟩ _ _ _;refine oI E 0 rfl (m8 (jy l) (λi=>gw (l.drop (8+4*i))) (3+3*i+3)) ?_ rfl ?_ λaB E _=>?_;rw[show 20+12*i+4+4=8+4*(3+3*i+2) by omega];show d7 _ (0+4+Int.toNat (i:Int)*3+2) _=_;rw[show 0+4+Int.toNat (i:Int)*3+2=(3+3*i+2)+1 by omega];exact DZ oL;rw[C7 oL];show 0+4+Int.toNat (i:Int)*3+2+1<=28;omega;rw[xC] at h8;rw[gJ _ oL];refine hX _ _ ⟨i+1,s8,oN,oL,?_,?_⟩ oL;rw[show 20+12*(i+1)=20+12*i+4+4+4 by omega];exact h8;rw[show 3+3*(i+1)=3+3*i+3 by omega];exact E;obtain rfl:i=8:=by omega
 rw[show 3+3*8=27 from rfl,qA0] at E;refine lW (E.at (i:=0) rfl) (gh (jy l) (nQ l)) (u7 (xw l)) (by rw[xE];exact zS (Nat.le_of_eq (u7 (xw l))))<|nc (u7 (xw l))<|oI E 1 rfl (gh (jy l) (nQ l)).toArray ?_ (qvp _ _) ?_ λG E _=>?_;apply Array.ext';rw[tM _ _ _ (by rw[u7 (xw l)];decide),u7 (xw l),take_zero,xH,LV oO,xG];rw[u7 (xw l)];decide;exact lW (E.at (i:=1) rfl) (gh (jy l) (nQ l)) (u7 (xw l)) (by rw[xE];exact zS (Nat.le_of_eq (u7 (xw l))))<|hk G E.fr
def AQ:((prog.info? 130).bind (·.zero)).map (λz=>z.cells.toList)=some (gh 0 (zs 27)):=by kernel_rfl
def qyA{t:Mf}{z:Me}(E:(P.info? t).bind (·.zero)=some z)(G:P.underlying t=some (.struct (fieldsOf P t)))(h:∀w,((fieldsOf P t).mapM λf=>do pure (f.offset,<- sizeOf f.type):Sem (Array (Mu))).run P w=.ok offs w)(w:Md): (Instr.build t #[]).run P w=.ok (.agg z.cells) w:=by simp only[Instr.build,LS,AK E,LU,run_underlying G,h,Instr.fill,Sem.run_pure]
def DC{K:List Me->Prop}(k:K (gh 0 (zs 27))):eO [jV.tg] (λw'=>(Instr.build 130 #[]).run prog w') w K:=by
 obtain⟨z,E,h⟩:=yT.1 AQ;refine tf (gh 0 (zs 27)) ?_ k;have:=qyA (offs:=#[(0,1),(1,1),(2,1),(3,1),(4,24)]) E oM (λw=>oM) w;rw[this];show Result.ok (Value.agg z.cells) w=.ok (Value.agg (gh 0 (zs 27)).toArray) w;rw[<- h]
def gS{vs:List Me}(h:vs.length=cs.size):d7 cs 0 vs=vs.toArray:=by apply Array.ext';rw[tM _ _ _ oL,take_zero,xH,LV (by rw[Mc];omega),xG]
def I7(h:t.length=27):(gh q t).toArray.size=28:=by rw[size_toArray];exact u7 h
def DA{E:Mu}{K:List Me->Prop}(G:w.heap[r]?=some (.cells (gh q t).toArray T E))(h:t.length=27)(k:K (gh q t)):iA 28 (dh r) w K:=
 lW G (gh q t) (u7 h) (by rw[xE,zS (Nat.le_of_eq (u7 h))]) k
def Ep{J:Int}{G:Ml}{K:WP}(O:dY [] w0 w L)(i:Nat)(hi:L[i]?=some (r,.c (gh J G).toArray T))(I:G.length=27)(h:t.length=27)(U:∀w',dY [] w0 w' (L.set i (r,.c (gh q t).toArray T))->K w'):gV ((gh q t).length=28) (st (dh r) (gh q t) w K):=by refine nc (u7 h)<|oI O i hi (gh q t).toArray (gS (by rw[I7 I,u7 h])) (qvp _ _) (by rw[I7 I,u7 h];decide) λw' E _=>U w' E
def Ac{O:Int}{I:Ml}{K:List Me->WP}(U:dY [] w0 w L)(i:Nat)(hi:L[i]?=some (r,.c (gh O I).toArray T))(V:I.length=27)(J:t.length=27)(hk:∀w',Fr [] w0 w'->K (gh q t) w'):gV ((gh q t).length=28) (st (dh r) (gh q t) w λw'=>iA 28 (dh r) w' λvs=>K vs w'):=by
 refine Ep U i hi V J λw' E=>?_;have G:i<L.length:=by rcases Nat.lt_or_ge i L.length with h|h;exact h;rw[yS h] at hi;cases hi
 exact DA (E.at (by rw[List.getElem?_set_self G])) J (hk w' E.fr)
abbrev rH:=MD
def kB:rH:=(0,zs 27)
def fS (h:Int) (l:Ml):rH×Int:=
 if (fX h l).2.2≠0 then (kB,(fX h l).2.2)
 else if (fX h l).1≠1\/(fX h l).2.1.length≠116 then (kB,2)
 else if Int.tmod (jy (fX h l).2.1) 2≠h then (kB,2)
 else ((jy (fX h l).2.1,nQ (fX h l).2.1),0)
def CF(h:Int)(l:Ml):(fS h l).1.2.length=27:=by unfold fS;split<;>(try rfl);split<;>(try rfl);split<;>rfl
def i7 (a b:Ml):rH×Int:=
 if (fS 0 a).2≠0/\(fS 1 b).2≠0 then (kB,5)
 else if (fS 0 a).2≠0\/((fS 1 b).2=0/\(fS 1 b).1.1>(fS 0 a).1.1) then ((fS 1 b).1,0)
 else ((fS 0 a).1,0)
def qnG(a b:Ml):(i7 a b).1.2.length=27:=by unfold i7;split<;>(try rfl);split<;>exact CF _ _
def qtX{E:Int}{K:List Me×Int->WP}(h:eY S w s l)(hv:Hv w)(hB:fj l)(hl:l.length<=100000)(hp:E=0\/E=1)(hk:∀w',Fr [] w w'->K (gh (fS E l).1.1 (fS E l).1.2,(fS E l).2) w'): cW 234 [.i E,s.v] dH w K:=by
 refine qtx<|oK (oG [] w) AQ λr1 w1 e1 G=>?_;have ac:wrap .u32 E=E:=by rcases hp with rfl|rfl<;>kernel_rfl
 have ad:wrap .u64 E=E:=by rcases hp with rfl|rfl<;>kernel_rfl
 rw[ac,ad];refine jd (λb w'=>b=false/\w'=w1) ?_ ?_;rcases hp with rfl|rfl;exact x_ ⟨rfl,rfl⟩;exact y_ ⟨rfl,rfl⟩;rintro b w2 ⟨rfl,rfl⟩;refine x_ ?_;have J:∀ {e:Int} {w':Md},fS E l=(kB,e)->Fr [] w w'->K (gh 0 (zs 27),e) w':=by
  intro e w' O hf;have:=hk w' hf;rw[O] at this;exact this
 refine KV (h.q9 G.fr) (hv.q9 G.fr) hB hl λs3 B3 w3 b3 f3 n3=>?_;have G:=G.q9 f3;apply eF<;>intro I;have O:(fX E l).2.2≠0:=(oS I);exact DC<|Ac G 0 rfl rfl rfl λw4 f4=>J (by rw[fS,iP O]) f4;have O:¬(fX E l).2.2≠0:=(oS I);refine jd (λb w'=>b=decide ((fX E l).1≠1\/(fX E l).2.1.length≠116)/\w'=w3) ?_ ?_;apply eF<;>intro I;have h1:(fX E l).1≠1:=(oS I);exact⟨by simp[h1],rfl⟩;have h1:(fX E l).1=1:=(oS I);have ae:=b3.len;refine⟨?_,rfl⟩;rw[ae];by_cases hx:(fX E l).2.1.length=116;rw[hx];simp[h1];have:¬(((fX E l).2.1.length:Int)=116):=oL;simp[h1,hx,this];rintro b w4 ⟨rfl,rfl⟩;apply eF<;>intro I;exact DC<|Ac G 0 rfl rfl rfl λw5 f5=>J (by rw[fS,iN O,iP (zC I)]) f5;have U:=zB I;have V:(fX E l).2.1.length=116:=by rcases Nat.decEq (fX E l).2.1.length 116 with h|h;exact absurd (Or.inr h) U;exact h
 have ag:=b3.ju (S:=[]) mW oN;refine qzf ag V λw5 f5=>?_;have G:=G.q9 f5;refine oK G AQ λr6 w6 e6 G=>Ep G 0 rfl rfl (xw _) λw7 G=>Mi G 0 (jy (fX E l).2.1) ?_;apply eF<;>intro I;have hq:Int.tmod (jy (fX E l).2.1) 2≠E:=(oS I);exact DC<|Ac G 1 rfl rfl rfl λw8 f8=>J (by rw[fS,iN O,iN U,iP hq]) f8;have hq:¬Int.tmod (jy (fX E l).2.1) 2≠E:=(oS I);refine DA (G.at (i:=0) rfl) (xw _)<|Ac G 1 rfl rfl (xw _) λw8 f8=>?_
 have:=hk w8 f8;rw[fS,iN O,iN U,iN hq] at this;exact this
def qxF{sa sb:Sl}{a:Ml}{K:List Me×Int->WP}(ha:eY S w sa a)(hb:eY S w sb b)(hv:Hv w)(U:fj a)(V:fj b)(aa:a.length<=100000)(ab:b.length<=100000)(hk:∀w',Fr [] w w'->K (gh (i7 a b).1.1 (i7 a b).1.2,(i7 a b).2) w'): cW 183 [sa.v,sb.v] dH w K:=by
 refine qqv<|oK (oG [] w) AQ λr1 w1 e1 h=>qtX (ha.q9 h.fr) (hv.q9 h.fr) U aa (.inl rfl) λw2 f2=>?_;have h:=h.q9 f2;refine oK h AQ λr3 w3 e3 h=>Ep h 0 rfl rfl (CF _ _) λw4 h=>qtX (hb.q9 h.fr) (hv.q9 h.fr) V ab (.inr rfl) λw5 f5=>?_;have h:=h.q9 f5;refine oK h AQ λr6 w6 e6 h=>Ep h 0 rfl rfl (CF _ _) λw7 h=>jd (λc w'=>c=decide ((fS 0 a).2≠0/\(fS 1 b).2≠0)/\w'=w7) ?_ ?_;apply eF<;>intro E;have G:(fS 0 a).2≠0:=(oS E);refine⟨?_,rfl⟩;by_cases O:(fS 1 b).2=0<;>simp[G,O];have G:(fS 0 a).2=0:=(oS E);exact⟨by simp[G],rfl⟩;rintro c w8 ⟨rfl,rfl⟩;apply eF<;>intro E;refine DC<|Ac h 2 rfl rfl rfl λw9 f9=>?_
 have:=hk w9 f9;rw[i7,iP (zC E)] at this;exact this;have hn:=zB E;refine jd (λc w'=>c=decide ((fS 0 a).2≠0\/((fS 1 b).2=0/\(fS 1 b).1.1>(fS 0 a).1.1))/\w'=w8) ?_ ?_;apply eF<;>intro E;have G:(fS 0 a).2≠0:=(oS E);exact⟨by simp[G],rfl⟩;have G:(fS 0 a).2=0:=(oS E);apply eF<;>intro E;have O:(fS 1 b).2=0:=(oS E);refine oB h 0 rfl (fS 1 b).1.1 rfl<|oB h 1 rfl (fS 0 a).1.1 rfl<|⟨?_,rfl⟩;by_cases h3:(fS 1 b).1.1>(fS 0 a).1.1<;>simp[G,O,h3];have O:(fS 1 b).2≠0:=(oS E);exact⟨by simp[G,O],rfl⟩;rintro c w9 ⟨rfl,rfl⟩;apply cD<;>intro E;refine DA (h.at (i:=0) rfl) (CF _ _)<|Ac h 2 rfl rfl (CF _ _) λI J=>?_
 have:=hk I J;rw[i7,iN hn,iP (E)] at this;exact this;refine DA (h.at (i:=1) rfl) (CF _ _)<|Ac h 2 rfl rfl (CF _ _) λI J=>?_
 have:=hk I J;rw[i7,iN hn,iN (E)] at this;exact this
abbrev oi:={l:Ml // l.length=512}
def kT (b:oi):List Me:=b.1.map (Value.int .u8)
def wV(b:oi):(kT b).length=512:=by rw[kT,zK,b.2]
def pC (x:Int×oi):List Me:=Value.int .i64 x.1::kT x.2
def Ax(x:Int×oi):(pC x).length=513:=by rw[pC,yI,wV]
def oi.zero:oi:=⟨zs 512,rM 512⟩
structure dQ where
 Q6:List oi
 Q7:List (Int×oi)
 y7:Int
 down:Bool
 writes:Int
structure dQ.Ok (D:dQ):Prop where
 at_:∀ x∈D.Q7,0<=x.1/\x.1<D.Q6.length
 y7:-1<=D.y7/\D.y7<=1000000000
 Q6:D.Q6.length<=4096
 Q7:D.Q7.length<=1000000
 writes:0<=D.writes/\D.writes<=1000000000
 qS:∀ b∈D.Q6,fj b.1
 qQ:∀ x∈D.Q7,fj x.2.1
abbrev DT:Mf:=226
def lA (D:dQ) (sb:Nat) (h:Sl):Array Me:=#[.slice (pW sb) D.Q6.length D.Q6.length,h.v,.i D.y7,.bool D.down,.i D.writes]
def fO (w:Md) (db:Nat) (F:Mk) (D:dQ):Prop:=
 ∃(sb:Nat) (T:Mf) (h:Sl) (B:Mk),F=db::sb::B/\(db::sb::B).Nodup/\w.heap[db]?=some (.c (lA D sb h) DT)/\w.heap[sb]?=some (.c (D.Q6.flatMap kT).toArray T)/\eZ pC 513 w h D.Q7 B
variable {D:dQ} {Z:List Me} {i:Nat}
def fO.j0(h:fO w db F D)(f:Fr S w w')(E:∀b∈F,b∉S):fO w' db F D:=by obtain⟨sb,T,G,B,rfl,O,I,J,U⟩:=h;exact⟨sb,T,G,B,rfl,O,by rw[f.block db (gg I) (E _ oN)];exact I,by rw[f.block sb (gg J) (E _ oN)];exact J,U.j0 f λb V=>E b (by simp[V])⟩
def fO.q9(h:fO w db F D)(f:Fr [] w w'):fO w' db F D:=h.j0 f (λ_ _ h=>by cases h)
def fO.lt(h:fO w db F D):∀b∈F,b<w.z:=by obtain⟨sb,T,G,B,rfl,U,I,J,O⟩:=h;intro b E;simp only[zG] at E;rcases E with rfl|rfl|E;exact gg I;exact gg J;exact O.lt b E
def fO.cell(h:fO w db F D):∃sb E,w.heap[db]?=some (.c (lA D sb E) DT):=by obtain⟨sb,T,E,B,rfl,I,G,J,O⟩:=h;exact⟨sb,E,G⟩
def fO.mem(h:fO w db F D):db∈F:=by obtain⟨sb,T,E,B,rfl,_⟩:=h;simp
def vX (D:dQ) (sb c:Nat) (h:Sl):Array Me:=#[.slice (pW sb) D.Q6.length c,h.v,.i D.y7,.bool D.down,.i D.writes]
def BT (w:Md) (db:Nat) (F:Mk) (D:dQ) (c:Nat) (Z:List Me):Prop:=
 ∃(sb:Nat) (T:Mf) (h:Sl) (B:Mk),F=db::sb::B/\(db::sb::B).Nodup/\w.heap[db]?=some (.c (vX D sb c h) DT)/\w.heap[sb]?=some (.c (D.Q6.flatMap kT++Z).toArray T)/\eZ pC 513 w h D.Q7 B
def fO.z(h:fO w db F D):BT w db F D D.Q6.length []:=by obtain⟨sb,T,E,B,rfl,G,I,J,O⟩:=h;exact⟨sb,T,E,B,rfl,G,I,by rw[xG];exact J,O⟩
def fO.x6{D':dQ}{sb:Nat}{G:Sl}(h:fO w db F D)(hc:w.heap[db]?=some (.c (lA D sb G) DT))(f:Fr [db] w w')(hs:D'.Q6=D.Q6)(hw:D'.Q7=D.Q7)(U:w'.heap[db]?=some (.c (lA D' sb G) DT)):fO w' db F D':=by
 obtain⟨I,T,E,B,rfl,J,h1,h2,h3⟩:=h;have O:I=sb/\E=G:=by have q:=h1.symm.trans hc;have q0:=Ma (λo=>match o with|some (Obj.cells V _ _)=>(match V[0]? with|some (Value.slice (some a) _ _)=>a.block|_=>0)|_=>0) q;have q1:=Ma (λo=>match o with|some (Obj.cells V _ _)=>V[1]? | _=>none) q;refine⟨q0,?_⟩;have q2:Value.slice E.a E.len E.cap=Value.slice G.a G.len G.cap:=yO q1;cases G;cases E;obtain⟨rfl,rfl,rfl⟩:=q2;rfl
 obtain⟨rfl,rfl⟩:=O;have aa:I≠db:=λe=>by rw[e] at J;simp at J
 have hB:∀b∈B,b∉[db]:=λb hb O=>by simp at O;subst O;simp at J;exact J.1.2 hb
 exact⟨I,T,E,B,rfl,J,U,by rw[hs,f.block I (gg h2) (oS aa)];exact h2,by rw[hw];exact h3.j0 f hB⟩
def HZ(h:fO w db F D)(E:K D.Q6.length w):cW 126 [dM db] dj w K:=by refine qko ?_;obtain⟨sb,G,I⟩:=h.cell;refine fH (iH I ⟨pW sb,D.Q6.length,D.Q6.length⟩ rfl ?_);exact E
def qb (h:Nat):dQ:=⟨List.replicate h .zero,[],-1,false,0⟩
def qEa{n:Nat}(h:n<=4096):(qb n).Ok:=
 ⟨λ_ h=>(by cases h),⟨by show (-1:Int)<=-1;decide,by show (-1:Int)<=1000000000;decide⟩,by rw[qb];simpa using h,by simp[qb],by simp[qb],λb E=>by rw[eq_of_mem_replicate E];exact fj.zs 512,λ_ h=>(by cases h)⟩
def qvU(n:Nat)(b:oi):(List.replicate n (kT b)).flatten=(List.replicate n b).flatMap kT:=by rw[flatMap_def,map_replicate]
set_option maxRecDepth 100000 in
def qDg{h:Int}{K:Option Addr×Int->WP}(I:(h<8\/h>4096)->K (none,1) w)(U:8<=h->h<=4096->∀db F w',fO w' db F (qb h.toNat)->Fr [] w w'->(∀b∈F,w.z<=b)->K (pW db,0) w'): cW 72 [.i h] dI w K:=by
 refine qvN<|jd (λb w'=>b=decide (h<8\/h>4096)/\w'=w) ?_ ?_;apply eF<;>intro G;exact⟨by rw[yA (Or.inl (zC G))],rfl⟩;have:=zB G;exact⟨by simp[this],rfl⟩;rintro b w1 ⟨rfl,rfl⟩;refine eF (λG=>I (zC G)) λG=>?_;have hr:=zB G;have V:8<=h:=oL;have h4:h<=4096:=oL;obtain⟨n,rfl⟩:∃n:Nat,h=n:=⟨h.toNat,oL⟩;refine dY.mkN (zero:=kT oi.zero) (oG [] w1) (wV _) oL oL oL oL λsb w2 e2 E=>dY.new E λdb w3 e3 s3 E=>?_;have J:(List.replicate (n:Int).toNat (kT oi.zero)).flatten=((qb n).Q6).flatMap kT:=(by rw[zJ];exact qvU n _);refine U V h4 db [db,sb] w3 ⟨sb,287,dN,[],rfl,?_,?_,?_,.nil _ _ _⟩ E.fr (λb O=>?_);have:=E.nodup;simpa using this;have:=E.at (i:=0) rfl;rw[this];simp[lA,qb];have:=E.at (i:=1) rfl;rw[this,zJ,<- J,zJ];simp at O;rcases O with rfl|rfl;have:=E.own (b,_) (yF (i:=0) rfl);simpa using this;have:=E.own (b,_) (yF (i:=1) rfl);simpa using this
def ko (D:dQ):dQ×Bool:=if D.y7=0 then ({ D with down:=true },true) else if D.y7>0 then ({ D with y7:=D.y7-1 },false) else (D,false)
def qzj{K:Bool->WP}(h:fO w db F D)(hD:D.y7<=1000000000)(hk:∀w',fO w' db F (ko D).1->Fr [db] w w'->K (ko D).2 w'): cW 179 [dM db] dk w K:=by
 refine qok ?_;obtain⟨sb,J,O⟩:=h.cell;have E:dY [db] w w [(db,.c (lA D sb J) DT)]:=⟨by simpa using O,oN,.refl _ _,oN⟩;refine fH (Mi E 0 D.y7 ?_);apply eF<;>intro U;have G:D.y7=0:=(oS U);refine fH<|oJ E 0 rfl _ rfl rfl rfl λw1 E _=>?_
 have:=hk w1 (by rw[ko,iP G];exact h.x6 O E.fr rfl rfl (E.at (i:=0) rfl)) E.fr;rw[ko,iP G] at this;exact this;have G:¬D.y7=0:=(oS U);refine jd (λ_ w'=>fO w' db F (ko D).1/\Fr [db] w w') ?_ ?_;refine fH (Mi E 0 D.y7 ?_);apply cD<;>intro V;have I:D.y7>0:=V;refine fH (Mi E 0 D.y7 ?_);refine fH ?_;rw[gJ _ oL];refine oJ E 0 rfl _ rfl rfl rfl λw1 E _=>⟨?_,E.fr⟩;rw[ko,iN G,iP I];exact h.x6 O E.fr rfl rfl (E.at (i:=0) rfl);have I:¬D.y7>0:=V;refine⟨?_,.refl _ _⟩;rw[ko,iN G,iN I];exact h;rintro _ w1 ⟨h1,h2⟩;have:=hk w1 h1 h2;have e:(ko D).2=false:=(by rw[ko,iN G];split<;>rfl);rw[e] at this;exact this
def qC7:∃i,prog.info? 289=some i/\(∃z,i.zero=some z/\z.cells.size=513)/\i.size=513/\i.bytes=520:=by have h:(prog.info? 289).map (λi=>(i.zero.map λz=>z.cells.size,i.size,i.bytes))=some (some 513,513,520):=oM;obtain⟨i,I,E⟩:=yT.1 h;simp only[Prod.mk.injEq] at E;obtain⟨z,J,G⟩:=yT.1 E.1;exact⟨i,I,⟨z,J,G⟩,E.2.1,E.2.2⟩
def rJ (D:dQ) (n:Int) (b:oi):dQ:={ D with Q7:=D.Q7++[(n,b)],writes:=D.writes+1 }
def fN (D:dQ) (n:Int) (l:Ml):dQ×Int:=
 if D.down then (D,7) else if n<0\/n>=D.Q6.length then (D,4) else
 if h:l.length=512 then ((ko (rJ D n ⟨l,h⟩)).1,if (ko (rJ D n ⟨l,h⟩)).2 then 7 else 0) else (D,1)
def qvJ(n:Int)(b:oi)(w:Md):(Instr.build 289 #[(0,.i n),(1,.agg (kT b).toArray)]).run prog w=.ok (.agg (pC (n,b)).toArray) w:=by
 obtain⟨z,hz,hzs⟩:∃z,(prog.info? 289).bind (·.zero)=some z/\z.cells.size=513:=by obtain⟨i,hi,⟨z,hz,hzs⟩,_⟩:=qC7;exact⟨z,by rw[hi];exact hz,hzs⟩
 have:=qqn (a:=.i n) (b:=.agg (kT b).toArray) hz oM (λw=>oM) rfl (by show (kT b).toArray.size=512;rw[size_toArray,wV]) rfl hzs w;exact this
def qmI(l:Ml):((l.map (Value.int .u8)).all Value.oneCell')=true:=by rw[LY];intro v h;obtain⟨x,_,rfl⟩:=mem_map.1 h;rfl
def quf(b:oi):((kT b).all Value.oneCell')=true:=qmI _
def Lr(x:Int×oi):((pC x).all Value.oneCell')=true:=by rw[pC,all_cons,quf];rfl
def qAF(h:eY S w s l)(I:l≠[]):∃b o E T G,s.a=some (dh b o)/\w.heap[b]?=some (.cells E T G)/\b∉S/\(E.toList.drop o).take l.length=l.map (Value.int .u8):=by
 rcases h.2.2 with J|⟨b,o,E,T,G,O,U,V,hc⟩;exact absurd J I;refine⟨b,o,E,T,G,O,U,V,?_⟩;apply ext_getElem?;intro i;rw[xB,zQ];by_cases hi:i<l.length;rw[iP hi,xA,zA hi];have:=hc i l[i] (zA hi);rw[xR] at this;have:=Ma (·[0]?) this;simpa using this;rw[iN hi,yS oL];rfl
def qrF(h:fO w db F D)(hD:D.Ok)(hs:eY S w s l)(hk:∀F' w',fO w' db F' (fN D n l).1->Fr F w w'->(∀b∈F',b∈F\/w.z<=b)->K (fN D n l).2 w'): cW 124 [dM db,.i n,s.v] dj w K:=by
 refine qk0 ?_;have hlen:=hs.1;have hdb:=h.mem;obtain⟨sb,T,wsl,B,hF,hn,hc,hsb,hbuf⟩:=h;have h:fO w db F D:=⟨sb,T,wsl,B,hF,hn,hc,hsb,hbuf⟩;have ho:dY F w w [(db,.c (lA D sb wsl) DT)]:=⟨by simpa using hc,oN,.refl _ _,by simp[hdb]⟩;refine fH (Mi ho 0 D.down ?_);have same:∀ {e:Int},fN D n l=(D,e)->∀ {w'},w'=w->K e w':=by
  rintro e he w' rfl;have:=hk F w' (by rw[he];exact h) (.refl _ _) (λb hb=>.inl hb);rw[he] at this;exact this
 refine eF (λhd=>same (by rw[fN,iP hd]) rfl) λhd=>jd (λb w'=>b=decide (n<0\/n>=D.Q6.length)/\w'=w) ?_ ?_;apply eF<;>intro hc;exact⟨by rw[yA (Or.inl (zC hc))],rfl⟩;refine fH (Mi ho 0 ⟨pW sb,D.Q6.length,D.Q6.length⟩ ⟨?_,rfl⟩);have:=zB hc;by_cases h2:n>=D.Q6.length<;>simp[this,h2];rintro b w1 ⟨rfl,rfl⟩;refine eF (λhr=>same (by rw[fN,iN (oS hd),iP (zC hr)]) rfl) λhr=>?_;have hr':=zB hr;refine eF (λhq=>same ?_ rfl) λhq=>?_;have:¬l.length=512:=(by simp at hq;omega);rw[fN,iN (oS hd),iN hr',dif_neg this];have h512:l.length=512:=(by simp at hq;omega);obtain⟨iX,hblk⟩:∃iX:oi,iX.1=l:=⟨⟨l,h512⟩,rfl⟩;have hw:fN D n l=((ko (rJ D n iX)).1,if (ko (rJ D n iX)).2 then 7 else 0):=by rw[fN,iN (oS hd),iN hr',dif_pos h512];have:iX=⟨l,h512⟩:=Subtype.ext hblk;rw[this]
 rw[hw] at hk;have hd1:=ho.drew;refine fH (Mi hd1 0 wsl ?_);obtain⟨sbk,so,scs,sT,sfr,hsa,hsbk,hsS,hscs⟩:=qAF hs (by rw[<- length_pos_iff];omega);obtain⟨sa,slen,scap⟩:=s;simp only at hsa hlen;subst hsa;refine qFc oL<|lW hsbk (kT iX) (wV _) (by rw[<- h512,hscs,kT,hblk])<|tf (pC (n,iX)) (qvJ n iX _)<|nc (Ax _)<|oD hd1 λr w2 er fr2 ho2=>gY (ho2.cell 1) ?_;obtain⟨iW,hi,⟨z,hz,hzs⟩,hsz,hby⟩:=qC7;have hwl:=hD.Q7;have hwr:=hD.writes;have hfz:=hD.y7;have fr2':=(Fr.refl [] w1).drew.trans fr2;have hbuf2:=hbuf.q9 fr2';have hsb2:w2.heap[sb]?=some (.c (D.Q6.flatMap kT).toArray T):=(by rw[fr2'.block sb (gg hsb) oN];exact hsb);have hBF:∀b∈B,b∈F:=λb hb=>by rw[hF];simp[hb]
 have hdbB:∀b∈B,b≠db:=λb hb e=>by subst e;simp at hn;exact hn.1.2 hb
 have hsbB:∀b∈B,b≠sb:=λb hb e=>by subst e;simp at hn;exact hn.2.1 hb
 have hrB:∀b∈B,b≠r:=λb hb e=>by have:=hbuf.lt b hb;have e1:w1.drew.z=w1.z:=rfl;omega
 refine eZ.j2 (ys:=[(n,iX)]) hbuf2 Ax oM hi hz hsz hzs (.ofSlice _ (e':=289) oM _ 1 1 _ ?_ ?_ ?_) rfl (by rw[hby];omega) oL λs' B' w3 g1 g2 g3 _=>?_;simp[Ax];intro j u hj;rw[Addr.j1,jI (ho2.at (i:=0) rfl),xQ];have:(pC (n,iX))[j]?=some u:=(oS hj);simpa using this;intro u hu;have:u∈pC (n,iX):=(oS hu);exact all_eq_true.1 (Lr (n,iX)) u this;have ho3:dY F w1 w3 [(r,.c (pC (n,iX)).toArray 289),(db,.c (lA D sb wsl) DT)]:=
  ho2.j0 g2 (λb hb=>.inl (hBF b hb)) (λp hp=>by simp at hp;rcases hp with rfl|rfl;exact λhb=>hrB _ hb rfl;exact λhb=>hdbB _ hb rfl)
 have hsb3:w3.heap[sb]?=some (.c (D.Q6.flatMap kT).toArray T):=(by rw[g2.block sb (gg hsb2) λhb=>hsbB _ hb rfl];exact hsb2);have hc3:=ho3.at (i:=1) rfl;refine fH<|wU hc3 (lA { D with Q7:=D.Q7++[(n,iX)] } sb s') rfl rfl (zO rfl) λw4 hc4 f4=>fH (iH hc4 D.writes rfl ?_);refine fH ?_;rw[gJ (D.writes+1) oL];refine wU hc4 (lA (rJ D n iX) sb s') rfl rfl (zO rfl) λw5 hc5 f5=>?_;have hs2:=fr2'.size;have hne:sb≠db:=λe=>by rw[e] at hn;simp at hn
 have f35:=f4.trans f5;have hB'db:∀b∈B',b≠db:=λb hb e=>by
  rcases g3 b hb with h'|h';exact hdbB b h' e;have:=gg hc;omega
 have hB'sb:∀b∈B',b≠sb:=λb hb e=>by
  rcases g3 b hb with h'|h';exact hsbB b h' e;have:=gg hsb;omega
 have hB'n:B'.Nodup:=by rcases g1 with ⟨_,_,rfl⟩|⟨b',o',cs',T',rfl,_⟩;simp;simp
 have h5:fO w5 db (db::sb::B') (rJ D n iX):=(by refine⟨sb,T,s',B',rfl,?_,hc5,?_,?_⟩;simp only[LP,zG,not_or];exact⟨⟨λe=>hne e.symm,λhb=>hB'db _ hb rfl⟩,λhb=>hB'sb _ hb rfl,hB'n⟩;rw[f35.block sb (gg hsb3) (oS hne)];exact hsb3;exact g1.j0 f35 (λb hb=>by simpa using hB'db b hb));have hF':∀b∈db::sb::B',b∈F\/w1.z<=b:=λb hb=>by simp only[zG] at hb;rcases hb with rfl|rfl|hb;exact .inl hdb;exact .inl (by rw[hF];simp);rcases g3 b hb with h'|h';exact .inl (hBF b h');exact .inr oL
 have f15:=((fr2'.mono λi hi _=>by cases hi).j8 g2 λb hb=>.inl (hBF b hb)).j8 f35 (λb hb=>by simp at hb;subst hb;exact .inl hdb);refine qzj h5 (by show D.y7<=_;omega) λw6 h6 f6=>?_;have:=hk (db::sb::B') w6 h6 (f15.j8 f6 (λb hb=>by simp at hb;subst hb;exact .inl hdb)) hF';apply eF<;>intro ha;rw[ha] at this;exact this;rw[ha] at this;exact this
def gW (s:List oi) (x:Int×oi):List oi:=s.set x.1.toNat x.2
def E3(l:List (Int×oi)):∀s:List oi,(l.foldl gW s).length=s.length:=by
 induction l with|nil=>intro s;rfl|cons x l ih=>intro s;rw[foldl_cons,ih,gW,xF]
def i9 (D:dQ):dQ×Int:=
 if D.down then (D,7) else if (ko D).2 then ((ko D).1,7) else ({ (ko D).1 with Q6:=D.Q7.foldl gW D.Q6,Q7:=[] },0)
def EA(D:dQ):(ko D).1.Q6=D.Q6/\(ko D).1.Q7=D.Q7:=by unfold ko;split;exact⟨rfl,rfl⟩;split<;>exact⟨rfl,rfl⟩
def qtP(h:fO w db F D)(hD:D.Ok)(hk:∀F' w',fO w' db F' (i9 D).1->Fr F w w'->(∀b∈F',b∈F)->K (i9 D).2 w'): cW 125 [dM db] dj w K:=by
 refine qmK ?_;have ai:=h.mem;have aL:=hD.y7;refine jd (λb w'=>(D.down=true/\b=true/\w'=w)\/(D.down=false/\b=(ko D).2/\fO w' db F (ko D).1/\Fr [db] w w')) ?_ ?_;obtain⟨sb,G,hc⟩:=h.cell;refine fH (iH hc D.down rfl ?_);exact eF (λhd=>.inl ⟨hd,rfl,rfl⟩) λhd=>qzj h oL λw1 h1 f1=>.inr ⟨hd,rfl,h1,f1⟩;rintro b w1 (⟨hd,rfl,rfl⟩|⟨hd,rfl,h1,f1⟩);refine y_ ?_;have:=hk F w1 (by rw[i9,iP hd];exact h) (.refl _ _) (λb hb=>hb);rw[i9,iP hd] at this;exact this;have fF:=f1.mono (λi I _=>by simp at I;rw[I];exact ai);apply eF<;>intro ha;have:=hk F w1 (by rw[i9,iN (by simp[hd]),iP ha];exact h1) fF (λb hb=>hb);rw[i9,iN (by simp[hd]),iP ha] at this;exact this;have aA:i9 D=({ (ko D).1 with Q6:=D.Q7.foldl gW D.Q6,Q7:=[] },0):=(by rw[i9,iN (by simp[hd]),iN (by simp[ha])]);rw[aA] at hk;obtain⟨ab,al⟩:=EA D;generalize (ko D).1=D1 at h1 ab al hk;obtain⟨sb,T,G,B,hF,hn,hc,ao,J⟩:=h1;rw[ab] at ao;rw[al] at J;have ae:sb≠db:=λe=>by rw[e] at hn;simp at hn
 have hB:∀b∈B,b∉[sb]:=λb hb he=>by simp at he;subst he;simp at hn;exact hn.2.1 hb
 have aN:=J.len;have aB:=hD.Q7;refine fH (iH hc G rfl ?_);refine lD (λx w'=>∃i:Nat,x=i/\i<=D.Q7.length/\w'.heap[sb]?=some (.c (((D.Q7.take i).foldl gW D.Q6).flatMap kT).toArray T)/\Fr [sb] w1 w') (λx _=>((D.Q7.length:Int)-x).toNat)
  ⟨0,rfl,oL,ao,.refl _ _⟩ ?_
 rintro x w2 ⟨i,rfl,I,O,f2⟩ X hX;have af:w2.heap[db]?=some (.c (lA D1 sb G) DT):=(by rw[f2.block db (gg hc) (by simpa using λe=>ae e.symm)];exact hc);apply cD<;>intro U;have V:i<D.Q7.length:=oL;have aC:eT pC 513 [] w2 G D.Q7:=(J.j0 f2 hB).ju Ax oN;have ap:=zA V;have aP:=hD.at_ D.Q7[i] (zW V);refine aC.jn Ax i rfl ap<|dY.vR (oG [] w2) oM (Ax _) (Lr _) λr w3 er ho=>?_;have aD:w3.heap[sb]?=some (.c (((D.Q7.take i).foldl gW D.Q6).flatMap kT).toArray T):=(by rw[ho.fr.block sb (gg O) oN];exact O);have ag:w3.heap[db]?=some (.c (lA D1 sb G) DT):=(by rw[ho.fr.block db (gg af) oN];exact af);refine fH (iH ag ⟨pW sb,D1.Q6.length,D1.Q6.length⟩ rfl ?_);have ar:=ho.at (i:=0) rfl;refine iH ar D.Q7[i].1 rfl<|lW ar (kT D.Q7[i].2) (wV _) (by rw[show (pC D.Q7[i]).toArray.toList.drop 1=kT D.Q7[i].2 from rfl,zS (by rw[wV];exact zM _)]) ?_;have E:=E3 (D.Q7.take i) D.Q6;refine ur oL (by rw[ab];omega)<|nc (wV _) ?_;have ac:0+Int.toNat D.Q7[i].1*512+(kT D.Q7[i].2).length<=(((D.Q7.take i).foldl gW D.Q6).flatMap kT).toArray.size:=by rw[size_toArray,uX wV,wV,E];omega
 refine wU aD (((((D.Q7.take i).foldl gW D.Q6).set D.Q7[i].1.toNat D.Q7[i].2).flatMap kT).toArray) (by rw[xQ];exact qwj wV ((D.Q7.take i).foldl gW D.Q6) D.Q7[i].1.toNat D.Q7[i].2 (by rw[E];omega)) (quf _) ac λw4 aE f4=>?_;rw[gJ _ oL];refine hX _ _ ⟨i+1,oN,oL,?_,?_⟩ oL;rw[yG V,foldl_append];exact aE;have aF:Fr [sb] w2 w3.drew:=ho.fr.drew.mono (λi I _=>by cases I);exact f2.trans (aF.trans f4);have V:i=D.Q7.length:=oL;subst V;rw[xY] at O;refine fH ?_;have E:=E3 D.Q7 D.Q6;refine wU af (lA { D1 with Q6:=D.Q7.foldl gW D.Q6,Q7:=[] } sb dN) (by simp[Pt.d7,lA,E,ab]) rfl (zO rfl) λw3 ag f3=>?_;have aG:=(fF.trans (f2.mono (λi I _=>by simp at I;subst I;rw[hF];simp))).trans (f3.mono (λi I _=>by simp at I;subst I;exact ai));refine hk [db,sb] w3 ⟨sb,T,dN,[],rfl,by simpa using λe=>ae e.symm,ag,?_,.nil _ _ _⟩ aG (λb hb=>by rw[hF];simp at hb;rcases hb with rfl|rfl<;>simp);rw[f3.block sb (gg O) (oS ae)];exact O
def kx (n:Int):List (Int×oi)->Option oi
 | []=>none
 | x::r=>match kx n r with|some b=>some b|none=>if x.1=n then some x.2 else none
def qsj{n:Int}:∀(l:List (Int×oi)) (i:Nat) (h:i<l.length),kx n (l.drop (i+1))=none->l[i].1=n->kx n l=some l[i].2
 | x::l,0,h,E,G=>by simp only[xQ,drop_succ_cons,xE] at E;simp only[getElem_cons_zero] at G⊢;simp[kx,E,G]
 | x::l,i+1,h,E,G=>by
  have:=qsj l i (oS h) (oS E) (oS G);simp only[kx,this,getElem_cons_succ]
def qyc:∀(l:List (Int×oi)) (i:Nat) (h:i<l.length),kx n (l.drop (i+1))=none->l[i].1≠n->kx n (l.drop i)=none:=by intro l i h G E;rw[zX h,kx,G];simp[E]
def eW (D:dQ) (n:Int):List Int×Int:=
 if D.down then ([],7) else if n<0\/n>=D.Q6.length then ([],4) else
 match kx n D.Q7 with|some b=>(b.1,0)|none=>((D.Q6.getD n.toNat .zero).1,0)
def qvk{b n:Nat}{K:Sl->Prop}(E:0<n)(k:K ⟨some (dh b o),n,n⟩):jH (dh b o) n none none none h K:=by unfold jH;refine⟨oN,?_⟩;simp only[xU,zJ,Int.toNat_zero,Nat.sub_zero,Nat.zero_mul];rw[iN,Lo];exact k
def qug{b:Nat}{h:Mu}{x:oi}(J:w.heap[b]?=some (.cells cs T h))(O:(cs.toList.drop o).take 512=kT x)(U:b∉S):eY S w ⟨some (dh b o),512,512⟩ x.1:=by
 refine⟨x.2.symm,zM _,.inr ⟨b,o,cs,T,h,rfl,J,U,λi v E=>?_⟩⟩;have G:=(zP.1 E).1;rw[x.2] at G;rw[xR];have I:(kT x)[i]?=some (.b v):=(by rw[kT,zQ,E];rfl);rw[<- O,xB,iP G,xA] at I;apply ext_getElem?;intro j;rw[xB,xA];match j with|0=>simpa using I|j+1=>simp
def qvD{K:Me->WP}(E:∀rb w',(∀S w0 L,dY S w0 w L->dY S w0 w' ((rb,.c #[s.v] 224)::L))->K (.func (.func 238) #[] #[dM rb]) w'): cW 189 [s.v] dx w K:=by exact qlO<|Pt.Fg (E _ _ λS w0 L h=>h.alloc _)
def qvT(l:List oi)(i:Nat)(x:oi)(h:l[i]?=some x):((l.flatMap kT++Z).drop (i*512)).take 512=kT x:=by have G:=(zP.1 h).1;have E:=uX wV l;rw[LW (by rw[E];omega),LO (by rw[yC,E];omega)];exact JV wV l i x h
def qyY{c:Nat}{K:Mr->WP}(h:BT w db F D c Z)(hD:D.Ok)(hk:∀s' B w',ip w' s' (eW D n).1 B->Fr [] w w'->(∀b∈B,w.z<=b)->K (s',(eW D n).2) w'): cW 135 [dM db,.i n] dl w K:=by
 refine qmJ<|oD (oG [] w) λr1 w1 e1 f1 O=>oD O λr3 w2 e2 f2 O=>oD O λr5 w3 e3 f3 O=>?_;obtain⟨sb,T,ad,B,hF,hn,hc,aA,an⟩:=h;have aj:∀ {w':Md},Fr [] w w'->w'.heap[db]?=some (.c (vX D sb c ad) DT):=λf=>by rw[f.block db (gg hc) oN];exact hc
 have aB:∀ {w':Md},Fr [] w w'->w'.heap[sb]?=some (.c (D.Q6.flatMap kT++Z).toArray T):=λf=>by rw[f.block sb (gg aA) oN];exact aA
 have aC:∀ {e:Int} {w':Md} {L'},eW D n=([],e)->dY [] w w' L'->L'[1]?=some (r3,.c #[.slice none 0 0] 79)->L'[0]?=some (r5,.c #[.i e] 54)->ld Cell.slice (dh r3) w' λs=>ld .i (dh r5) w' λx=>K (s,x) w':=by
  intro e w' L' he O h1 h0;refine oB O 1 h1 dN rfl<|oB O 0 h0 e rfl ?_;have:=hk dN [] w' (by rw[he];exact .nil _ _ _) O.fr oN;rw[he] at this;exact this
 refine fH (iH (aj O.fr) D.down rfl ?_);apply eF<;>intro hd;exact oJ O 1 rfl _ rfl rfl rfl λw4 O _=>oJ O 0 rfl _ rfl rfl rfl λw5 O _=>aC (by rw[eW,iP hd]) O rfl rfl;refine jd (λb w'=>b=decide (n<0\/n>=D.Q6.length)/\w'=w3.drew) ?_ ?_;refine Mi O.drew 2 n<|eF (λhc=>?_) λaT=>?_;exact⟨by rw[yA (Or.inl (zC hc))],rfl⟩;refine Mi O.drew 2 n<|fH (iH (aj O.drew.fr) ⟨pW sb,D.Q6.length,c⟩ rfl ⟨?_,rfl⟩)
 have:=zB aT;by_cases h2:n>=D.Q6.length<;>simp[this,h2];rintro b w4 ⟨rfl,rfl⟩;apply cD<;>intro hr;exact oJ O.drew 1 rfl _ rfl rfl rfl λw4 O _=>oJ O 0 rfl _ rfl rfl rfl λw5 O _=>aC (by rw[eW,iN (oS hd),iP (hr)]) O rfl rfl;have aV:=hr;have aW:0<=n:=oL;have aX:n<D.Q6.length:=oL;have aY:=hD.Q7;have aZ:=hD.Q6;have a0:=an.len;have aG:eW D n=match kx n D.Q7 with|some b=>(b.1,0)|none=>((D.Q6.getD n.toNat .zero).1,0):=by rw[eW,iN (oS hd),iN aV]
 refine fH (iH (aj O.drew.fr) ad rfl ?_);refine qvD λrb w5 a1=>?_;have a2:=a1 _ _ _ O.drew;refine dY.mn (lb:=[dM rb]) a2 rfl oM λDm l R Bz J E E0 w6 el eD bm aK hy=>qix<|Mi aK 2 ad ?_;rw[gJ _ oL];have aL:∀ {bl:oi} {s7:Sl} {Bf:Mk} {ae wz:Md} {ak:Mq},eW D n=(bl.1,0)->dY [] w ae ak->ip ae s7 bl.1 Bf->(∀b∈Bf,w.z<=b)->(∀b∈Bf,b∉ak.map (·.1))->Fr (ak.map (·.1)) ae wz->K (s7,0) wz:=by
  intro bl s7 Bf ae wz ak he a4 ag V aa fz;have:=hk s7 Bf wz (by rw[he];exact ag.j0 fz aa) (a4.back fz) V;rw[he] at this;exact this
 refine lD (λx w'=>∃i:Nat,x=(i:Int)-1/\i<=D.Q7.length/\kx n (D.Q7.drop i)=none/\dY [] w w' [(l,R),(Dm,.deferred (some [])),(rb,.c #[ad.v] 224),(r5,.c #[.i 0] 54),(r3,.c #[.slice none 0 0] 79),(r1,.c #[.i n] 3)]) (λx _=>(x+1).toNat)
  ⟨D.Q7.length,by rw[a0],zM _,by rw[drop_length];rfl,aK⟩ ?_
 rintro x w7 ⟨i,rfl,hi,al,af⟩ X hX;apply cD<;>intro aq;have bp:=aq;obtain⟨i,rfl⟩:∃k,i=k+1:=⟨i-1,oL⟩;have ar:i<D.Q7.length:=oL;refine Mi af 2 ad ?_;have a5:eT pC 513 [] w7 ad D.Q7:=(an.q9 af.fr).ju Ax oN;refine a5.jn Ax i oL (zA ar)<|hy ((((i+1:Nat):Int)-1),pC D.Q7[i]) w7 _ (af.at (i:=0) rfl) ?_;dsimp only;refine dY.vR af oM (Ax _) (Lr _) λr w8 er U=>⟨U.at (i:=1) rfl,?_⟩;have ab:=U.jA (o':=Bz) 1 rfl;refine oB ab 0 rfl D.Q7[i].1 rfl<|Mi ab 6 n ?_;apply eF<;>intro hm;have av:D.Q7[i].1=n:=(oS hm);have aw:=qsj D.Q7 i ar al av;have ah:eW D n=(D.Q7[i].2.1,0):=(by rw[aG,aw]);refine qvk oO ?_;have ax:eY [] (Pt.jA w8 l Bz) ⟨some (dh r 1),512,512⟩ D.Q7[i].2.1:=
  qug (x:=D.Q7[i].2) (ab.at (i:=0) rfl) (by rw[show (pC D.Q7[i]).toArray.toList.drop 1=kT D.Q7[i].2 from rfl,zS (by rw[wV];exact zM _)]) oN
 refine Dd (s:=⟨some (dh r 1),512,512⟩) ax (by rw[D.Q7[i].2.2];decide) λs7 Bf ae ag ay ai _ _=>?_;have ac:=ab.q9 ay;have G:=ac.nI;have V:∀b∈Bf,w.z<=b:=λb hb=>by have h1:(Pt.jA w8 l Bz).z<=b:=ai b hb;have:=ab.fr.size;omega
 have aa:∀b∈Bf,b∉[r,l,Dm,rb,r5,r3,r1]:=λb hb hm=>by
  have h1:(Pt.jA w8 l Bz).z<=b:=ai b hb;have h2:∀p∈[r,l,Dm,rb,r5,r3,r1],p<(Pt.jA w8 l Bz).z:=λp hp=>by have I:=λ(k:Nat) (q:Nat×Obj) (hq:_[k]?=some q)=>gg (ab.at (i:=k) hq);simp only[zG,xW,or_false] at hp;rcases hp with rfl|rfl|rfl|rfl|rfl|rfl|rfl;exact I 0 _ rfl;exact I 1 _ rfl;exact I 2 _ rfl;exact I 3 _ rfl;exact I 4 _ rfl;exact I 5 _ rfl;exact I 6 _ rfl
  have:=h2 b hm;omega
 refine oJ G 5 rfl _ rfl rfl rfl λa7 G _=>oJ G 4 rfl _ rfl rfl rfl λa8 G _=>⟨G.at (i:=1) rfl,?_⟩;have G:=G.jA (o':=J 0) 1 rfl;refine y_<|.inr ⟨0,_,rfl,G.at (i:=1) rfl,?_⟩;have G:=G.jA (o':=E 0) 1 rfl;exact dY.fc G 2 rfl λa9 G=>Mi G 5 s7<|Mi G 4 0<|aL ah ac ag V aa G.fr;have av:D.Q7[i].1≠n:=(oS hm);refine⟨ab.at (i:=1) rfl,?_⟩;have a':=ab.jA (o':=R) 1 rfl;refine x_ ?_;rw[gJ _ oL];refine hX _ _ ⟨i,oL,oL,qyc D.Q7 i ar al av,a'.sub (L5 _ _)⟩ oL;have I:=aq;obtain rfl:i=0:=by omega
 rw[xE] at al;refine .inl ⟨af.at (i:=0) rfl,?_⟩;have U:=(af.jA (o':=E0) 0 rfl).drew;have ah:eW D n=((D.Q6.getD n.toNat .zero).1,0):=(by rw[aG,al]);have aN:n.toNat<D.Q6.length:=oL;have ba:D.Q6[n.toNat]?=some (D.Q6.getD n.toNat .zero):=(by rw[yR,zA aN];rfl);refine fH (iH (aj U.fr) ⟨pW sb,D.Q6.length,c⟩ rfl ?_);refine Mi U 5 n<|ur aW aX<|qvk oO ?_;have ax:eY [] (Pt.jA w7 l E0).drew ⟨some ⟨sb,0+n.toNat*512,none⟩,512,512⟩ (D.Q6.getD n.toNat .zero).1:=
  qug (aB U.fr) (by rw[xQ];exact qvT D.Q6 n.toNat _ ba) oN
 refine Dd (s:=⟨some ⟨sb,0+n.toNat*512,none⟩,512,512⟩) ax (by rw[(D.Q6.getD n.toNat .zero).2];decide) λs7 Bf ae ag ay ai _ _=>?_;have ac:=U.q9 ay;have G:=ac.nI;have V:∀b∈Bf,w.z<=b:=λb hb=>by have h1:(Pt.jA w7 l E0).drew.z<=b:=ai b hb;have:=U.fr.size;omega
 have aa:∀b∈Bf,b∉[l,Dm,rb,r5,r3,r1]:=λb hb hm=>by
  have h1:(Pt.jA w7 l E0).drew.z<=b:=ai b hb;have h2:∀p∈[l,Dm,rb,r5,r3,r1],p<(Pt.jA w7 l E0).drew.z:=λp hp=>by have I:=λ(k:Nat) (q:Nat×Obj) (hq:_[k]?=some q)=>gg (U.at (i:=k) hq);simp only[zG,xW,or_false] at hp;rcases hp with rfl|rfl|rfl|rfl|rfl|rfl;exact I 0 _ rfl;exact I 1 _ rfl;exact I 2 _ rfl;exact I 3 _ rfl;exact I 4 _ rfl;exact I 5 _ rfl
  have:=h2 b hm;omega
 exact oJ G 4 rfl _ rfl rfl rfl λa7 G _=>oJ G 3 rfl _ rfl rfl rfl λa8 G _=>dY.fc G 1 rfl λa9 G=>Mi G 4 s7<|Mi G 3 0<|aL ah ac ag V aa G.fr
def Hk{K:Mr->WP}(h:fO w db F D)(G:D.Ok)(I:∀E B w',ip w' E (eW D n).1 B->Fr [] w w'->(∀b∈B,w.z<=b)->K (E,(eW D n).2) w'): cW 135 [dM db,.i n] dl w K:=qyY h.z G I
attribute [local irreducible] qG qz
abbrev jf (n:Int):Prop:=0<=n/\n<4294967296
def FQ(h:jf n)(r:Ml):gw (be n 4++r)=n:=by rw[E1 h.1];exact qBS h
def qr7:∀(c:Ml) (i:Nat),(c.flatMap (be · 4)).drop (4*i)=(c.drop i).flatMap (be · 4)
 | [],i=>by simp
 | a::c,0=>by simp
 | a::c,i+1=>by rw[yH,drop_succ_cons,<- qr7 c i,drop_append,mw,vB (by rw[mw];omega),xH];congr 1
def qCb(c:Ml):(c.flatMap (be · 4)).length=4*c.length:=by
 induction c with|nil=>rfl|cons a c ih=>rw[yH,zF,mw,ih,yI];omega
def qnv(h:i<c.length)(E:∀x∈c,jf x):gw ((c.flatMap (be · 4)).drop (4*i))=c[i]:=by rw[qr7,zX h,yH];exact FQ (E _ (zW h)) _
def FM(next:Int)(c:Ml):(k9 next c).length=6+4*c.length:=by rw[k9,zF,zF,mw,qCb];rfl
def quq(c:Ml):fj (c.flatMap (be · 4)):=by
 induction c with
 | nil=>exact λx h=>by cases h
 | cons a c ih=>rw[yH];exact (xb _ _).append ih
def qEx(x:Int):0<=wrap .u8 x/\wrap .u8 x<256:=by rw[D6];omega
def qrL(next:Int)(c:Ml):fj (k9 next c):=by refine ((xb _ _).append λx h=>?_).append (quq c);simp only[zG,xW,or_false] at h;rcases h with rfl|rfl<;>exact qEx _
def quY{next:Int}(G:jf next)(O:next≠1)(U:∀x∈c,jf x)(V:jP 1 c=true)(hl:c.length<=123):jo (k9 next c)=(next,c,0):=by
 have I:=FM next c;have e:k9 next c=be next 4++([wrap .u8 (Int.fdiv c.length (2^8)),wrap .u8 c.length]++c.flatMap (be · 4)):=by rw[k9,zV]
 have J:gw (k9 next c)=next:=by rw[e];exact FQ G _
 have h:mG (k9 next c)=c.length:=(by have h4:(k9 next c).getD 4 0=wrap .u8 (Int.fdiv c.length (2^8)):=(by rw[e,E1 G.1];rfl);have h5:(k9 next c).getD 5 0=wrap .u8 c.length:=(by rw[e,E1 G.1];rfl);have hd:Int.fdiv (c.length:Int) (2^8)=0:=(by rw[Int.fdiv_eq_ediv_of_nonneg _ oO];omega);rw[mG,h4,h5,D6,D6,hd];omega);have E:mj (k9 next c) c.length=c:=by
  apply ext_getElem;simp[mj];intro i O h2;have:(k9 next c).drop (6+4*i)=(c.flatMap (be · 4)).drop (4*i):=by have h6:(k9 next c).drop 6=c.flatMap (be · 4):=(by rw[e,E1 G.1];rfl);rw[<- h6,xC]
  simp only[mj,getElem_map,getElem_range,this];exact qnv h2 U
 rw[jo,iN,iN (by rw[J,h];omega),h,zJ,E,iP V,J]
def qV(x:Int)(h:0<=x/\x<18446744073709551616):wrap .u64 x=x:=by unfold wrap;have:(IntKind.u64.signed)=false:=rfl;exact Int.emod_eq_of_lt h.1 h.2
def qsu{A B:Int}(k:Nat)(J:0<=A)(G:A%2^k=0)(O:0<=B)(h:B<2^k)(U:A+B<18446744073709551616):bits .or .u64 A B=A+B:=by
 obtain⟨a,rfl⟩:∃a:Nat,A=a:=⟨A.toNat,oL⟩;obtain⟨b,rfl⟩:∃b:Nat,B=b:=⟨B.toNat,oL⟩;have I:a%2^k=0:=by have:((a:Int)%((2^k:Nat):Int))=0:=(by rw[Int.natCast_pow];exact G);omega
 have E:b<2^k:=(by have:(b:Int)<((2^k:Nat):Int):=(by rw[Int.natCast_pow];exact h);omega);obtain⟨q,rfl⟩:∃q,a=2^k*q:=⟨a / 2^k,by have:=Nat.div_add_mod a (2^k);omega⟩;show wrap .u64 ((BitVec.ofInt 64 ((2^k*q:Nat):Int)||| BitVec.ofInt 64 (b:Int)).toNat:Nat)=_;rw[BitVec.toNat_or,BitVec.ofInt_natCast,BitVec.ofInt_natCast,BitVec.toNat_ofNat,BitVec.toNat_ofNat,Nat.mod_eq_of_lt (show 2^k*q<2^64 by omega),Nat.mod_eq_of_lt (show b<2^64 by omega),<- Nat.two_pow_add_eq_or_of_lt E];rw[qV _ oL];omega
abbrev lH (n:Int):Prop:=0<=n/\n<18446744073709551616
def Ge:iJ q t=be (wrap .u32 (Int.fdiv q (2^32))) 4++(be (wrap .u32 q) 4++t.flatMap (be · 4)):=by rw[iJ,zV]
def qj9(O:lH q):jy (iJ q t)=q:=by have h:Int.fdiv q (2^32)=q / 4294967296:=(by rw[Int.fdiv_eq_ediv_of_nonneg _ oO];rfl);have E:gw (iJ q t)=q / 4294967296:=(by rw[Ge,h,qj _ oL];exact FQ (by constructor<;>omega) _);have G:(iJ q t).drop 4=be (wrap .u32 q) 4++t.flatMap (be · 4):=(by rw[Ge,drop_append,mw,vB (by rw[mw];exact zM _)];rfl);have I:wrap .u32 q=q%4294967296:=(by unfold wrap;have:(IntKind.u32.signed)=false:=rfl;rfl);have J:gw ((iJ q t).drop 4)=q%4294967296:=(by rw[G,I];exact FQ (by constructor<;>omega) _);rw[jy,E,J,qV (q / 4294967296) oL,qV (q%4294967296) oL,qV (q / 4294967296*2^32) oL];rw[qsu 32 oL oL oL oL oL];omega
def qyK(q:Int)(t:Ml):fj (iJ q t):=by rw[Ge];exact (xb _ _).append ((xb _ _).append (quq t))
def qtq(h:t.length=27)(E:∀x∈t,jf x):nQ (iJ q t)=t:=by
 apply ext_getElem;rw[xw,h];intro i J G;have I:(iJ q t).drop 8=t.flatMap (be · 4):=by rw[Ge,<- zV,drop_append,zF,mw,mw,vB (by rw[zF,mw,mw];exact zM _)];rfl
 have:(iJ q t).drop (8+4*i)=(t.flatMap (be · 4)).drop (4*i):=(by rw[<- I,xC]);simp only[nQ,getElem_map,getElem_range,this];exact qnv G E
def qwf{h:Int}(E:lH q)(G:t.length=27)(O:∀x∈t,jf x)(J:Int.tmod q 2=h):fS h (gd h 1 (iJ q t))=((q,t),0):=by have I:jf h:=(by rw[<- J,Int.tmod_eq_emod_of_nonneg E.1];constructor<;>omega);have U:=qnO (kind:=1) (body:=iJ q t) I (by rw[Dh G];decide);rw[fS,U,iN oN,iN (by simp[Dh G]),iN (by rw[qj9 E,J];simp),qj9 E,qtq G O]
abbrev v6:Mf:=136
abbrev Ff:Mf:=132
def look {β:Type} (n:Int):List (Int×β)->Option (Nat×β)
 | []=>none
 | p::r=>if n=p.1 then some (0,p.2) else (look n r).map λq=>(q.1+1,q.2)
def iU {β:Type} (n:Int) (v:β) (l:List (Int×β)):List (Int×β):=match look n l with|some q=>l.set q.1 (n,v)|none=>l++[(n,v)]
def ln {β:Type} (n:Int) (l:List (Int×β)):List (Int×β):=match look n l with|some q=>l.eraseIdx q.1|none=>l
def CA{β γ:Type}(g:β->γ)(n:Int):∀l:List (Int×β),look n (l.map λe=>(e.1,g e.2))=(look n l).map λq=>(q.1,g q.2)
 | []=>rfl
 | p::r=>by simp only[xM,look];by_cases h:n=p.1;simp[h];rw[iN h,iN h,CA g n r];cases look n r<;>rfl
def Dp(n:Int):∀l:List (Int×Me),posOf n l=look n l
 | []=>rfl
 | p::r=>by simp only[posOf,look,Dp n r]
def ya{β:Type}{n:Int}:∀ {l:List (Int×β)} {q:Nat×β},look n l=some q->l[q.1]?=some (n,q.2)/\(n,q.2)∈l
 | p::r,q,h=>by simp only[look] at h;by_cases hp:n=p.1;rw[iP hp] at h;cases h;subst hp;exact⟨rfl,oN⟩;rw[iN hp] at h;obtain⟨x,E,rfl⟩:=yT.1 h;obtain⟨G,I⟩:=ya E;exact⟨by simpa using G,zN _ I⟩
def Bc{β:Type}{n:Int}:∀ {l:List (Int×β)},look n l=none↔n∉l.map (·.1)
 | []=>by simp[look]
 | p::r=>by simp only[look,xM,zG,not_or];by_cases hp:n=p.1;simp[hp];rw[iN hp,Option.map_eq_none_iff,Bc (l:=r)];simp[hp]
def FY{β γ:Type}(g:β->γ)(n:Int)(v:β)(l:List (Int×β)):(iU n v l).map (λe=>(e.1,g e.2))=iU n (g v) (l.map λe=>(e.1,g e.2)):=by
 unfold iU;rw[CA];cases look n l with|none=>simp|some q=>simp[map_set]
def qud{β γ:Type}(g:β->γ)(n:Int)(l:List (Int×β)):(ln n l).map (λe=>(e.1,g e.2))=ln n (l.map λe=>(e.1,g e.2)):=by
 unfold ln;rw[CA];cases look n l with|none=>rfl|some q=>simp only[Option.map_some];exact As _ l q.1
def Gk{β:Type}{v:β}{l:List (Int×β)}{e:Int×β}(h:e∈iU n v l):e∈l\/e=(n,v):=by unfold iU at h;split at h;exact mem_or_eq_of_mem_set h;rcases zD.1 h with h|h;exact .inl h;exact .inr (oS h)
def quM{β:Type}{l:List (Int×β)}{e:Int×β}(h:e∈ln n l):e∈l:=by unfold ln at h;split at h;exact mem_of_mem_eraseIdx h;exact h
def Kt{t et:Mf}{v:Me}(ht:prog.underlying t=some (.map 35 et)){b:Nat}{f:List (Int×Me)}(h:kM lZ w b f)(x:Int): ∃o,(Instr.mapUpdate t (.map (some b)) (lZ x) v).run prog w=.ok () (jA w b o)/\kM lZ (jA w b o) b (iU x v f):=by
 have K:=A4;cases J:posOf x f with
 | none=>
  obtain⟨o,O,h2⟩:=kM.new ht K h x J;refine⟨o,O,?_⟩;rw[Dp] at J;rw[iU,J];exact h2
 | some q=>
  obtain⟨G,c,hb,he,hs,hc⟩:=h;have hq:=J;rw[Dp] at hq;obtain⟨O,_⟩:=ya hq;have U:=he;have hi:G[q.1]?.map (·.key)=some (lZ x):=by
   have:=Ma (·[q.1]?) U;simp only[zQ,O,Option.map_some] at this;rw[<- Array.getElem?_toList];cases I:G.toList[q.1]? with
   | none=>rw[I] at this;cases this
   | some e=>rw[I] at this;simp at this;simp[this.1]
  refine⟨.map (G.modify q.1 λe=>{ e with key:=lZ x,val:=v }) c,?_,G.modify q.1 λe=>{ e with key:=lZ x,val:=v },c,?_,?_,?_,?_⟩;simp[Instr.mapUpdate,run_underlying ht,L8 hb,K.check,zd K he,J,hi,Instr.keyThatStays,Instr.sameBits,Go.MapKept.run_setObj_map _ hb];rfl;rw[sO _ _ _ _ (gg hb),iP rfl];rw[iU,hq];show ((G.modify q.1 _).toList).map _=(f.set q.1 (x,v)).map _;rw[Array.toList_modify];apply ext_getElem?;intro j;have E:=Ma (·[j]?) U;simp only[zQ] at E;rw[zQ,zQ,List.getElem?_modify,xV];by_cases hqj:q.1=j;subst hqj;have ac:=(zP.1 O).1;rw[O] at E;cases I:G.toList[q.1]? with
  | none=>rw[I] at E;cases E
  | some e=>simp[ac]
  simp only[hqj,if_false];rw[<- E];cases G.toList[j]?<;>rfl;have e:(G.modify q.1 λe=>{ e with key:=lZ x,val:=v }).toList.map (·.born)=G.toList.map (·.born):=by rw[Array.toList_modify];apply ext_getElem?;intro j;rw[zQ,zQ,List.getElem?_modify];by_cases hqj:q.1=j;subst hqj;cases G.toList[q.1]?<;>simp;simp[hqj]
  rw[e];exact hs;intro e V;rw[Array.toList_modify] at V;obtain⟨j,E⟩:=mem_iff_getElem?.1 V;rw[List.getElem?_modify] at E;by_cases hqj:q.1=j;subst hqj;cases I:G.toList[q.1]? with
  | none=>rw[I] at E;simp at E
  | some e0=>
   rw[I] at E;simp at E;subst E;exact hc e0 (yF I)
  simp[hqj] at E;exact hc e (yF (by rw[Array.getElem?_toList];exact E))
structure eU where
 j9:rH
 Q5:Ml
 Q9:Ml
 x6:Int
 Q3:Bool
 Q1:Ml
 J7:Ml
 J8:List (Int×Int×List Int)
 Q2:Ml
abbrev mh:=Int×Sl×List Int
def pc (x:mh):Me:=.agg #[.b x.1,x.2.1.v]
def qc (sl sn:Sl) (x6:Int) (Q3:Bool) (fb defb mb:Nat):List Me:=
 [sl.v,sn.v,.i x6,.bool Q3,dM fb,dM defb,.map (some mb)]
def gA (db:Option Addr) (j9:rH) (sl sn:Sl) (x6:Int) (Q3:Bool) (fb defb mb:Nat) (Q2:Ml):Array Me:=
 ((.pointer db::gh j9.1 j9.2)++qc sl sn x6 Q3 fb defb mb++Q2.map (Value.int .u32)).toArray
variable {db:Option Addr} {j9:rH} {x6:Int} {Q3:Bool} {fb defb mb pb:Nat} {Q2:Ml} {I E G O:List (Int×mh)} {X F1 F2:Mk} {M:eU}
def vv(h:j9.2.length=27):(Value.pointer db::gh j9.1 j9.2).length=29:=by rw[yI,u7 h]
def JQ(h:j9.2.length=27):(gA db j9 sl sn x6 Q3 fb defb mb Q2).size=36+Q2.length:=by rw[gA,size_toArray,zF,zF,vv h,zK];rfl
def qFX:(gA db j9 sl sn x6 Q3 fb defb mb Q2)[0]?=some (.pointer db):=rfl
def qE4(E:j9.2.length=27)(n:Nat)(h:n<27):(gA db j9 sl sn x6 Q3 fb defb mb Q2)[n+2]?=some (.u (j9.2.getD n 0)):=by
 rw[gA,List.getElem?_toArray,zV,yZ (by rw[vv E];omega),List.getElem?_cons_succ];have:=Ey (q:=j9.1) (t:=j9.2) n oL;rw[List.getElem?_toArray] at this;exact this
def Cd(E:j9.2.length=27)(j:Nat)(h:j<7):(gA db j9 sl sn x6 Q3 fb defb mb Q2)[29+j]?=(qc sl sn x6 Q3 fb defb mb)[j]?:=by rw[gA,List.getElem?_toArray,zV,yY (by rw[vv E];omega),vv E,vA,yZ (by exact h)]
def qCB(h:j9.2.length=27):(gA db j9 sl sn x6 Q3 fb defb mb Q2)[29]?=some sl.v:=Cd h 0 oO
def qCC(h:j9.2.length=27):(gA db j9 sl sn x6 Q3 fb defb mb Q2)[30]?=some sn.v:=Cd h 1 oO
def K9(h:j9.2.length=27):(gA db j9 sl sn x6 Q3 fb defb mb Q2)[31]?=some (.i x6):=Cd h 2 oO
def BY(h:j9.2.length=27):(gA db j9 sl sn x6 Q3 fb defb mb Q2)[32]?=some (.bool Q3):=Cd h 3 oO
def EI(h:j9.2.length=27):(gA db j9 sl sn x6 Q3 fb defb mb Q2)[33]?=some (dM fb):=Cd h 4 oO
def qAs(h:j9.2.length=27):(gA db j9 sl sn x6 Q3 fb defb mb Q2)[34]?=some (dM defb):=Cd h 5 oO
def AD(h:j9.2.length=27):(gA db j9 sl sn x6 Q3 fb defb mb Q2)[35]?=some (.map (some mb)):=Cd h 6 oO
structure Rows (F:Mk) (w:Md) (sl sn:Sl) (Q5 Q9:Ml) (fs:List (Int×mh)):Prop where
 Q5:Rd F w sl Q5
 Q9:Rd F w sn Q9
 y9:∀ e∈fs,eY F w e.2.2.1 e.2.2.2
def Rows.j0{F':Mk}{E Q9:Ml}(h:Rows F w sl sn E Q9 I)(f:Fr F w w')(G:∀b∈F',b∈F\/w.z<=b):Rows F' w' sl sn E Q9 I:=
 ⟨h.Q5.j0 f G,h.Q9.j0 f G,λe J=>(h.y9 e J).j0 f G⟩
structure qA (w:Md) (X:Mk) (pb:Nat) (db:Option Addr) (M:eU) (fb defb mb:Nat) (sl sn:Sl) (F1 F2:Mk) (fs:List (Int×mh)):Prop where
 cell:w.heap[pb]?=some (.c (gA db M.j9 sl sn M.x6 M.Q3 fb defb mb M.Q2) v6)
 Q1:ie w fb F1 M.Q1
 J7:ie w defb F2 M.J7
 map:kM lZ w mb (fs.map λe=>(e.1,pc e.2))
 J8:M.J8=fs.map λe=>(e.1,e.2.1,e.2.2.2)
 rows:Rows (X++pb::mb::(F1++F2)) w sl sn M.Q5 M.Q9 fs
 rN:∀ b∈X,b<w.z
 oW:∀ b∈X,b∉pb::mb::(F1++F2)
 sep:pb≠mb/\(∀ b∈F1,b≠pb/\b≠mb/\b∉F2)/\(∀ b∈F2,b≠pb/\b≠mb)
 Q8:M.j9.2.length=27
 x7:M.Q2.length=24
def fY (w:Md) (X:Mk) (pb:Nat) (db:Option Addr) (F:Mk) (M:eU):Prop:=
 ∃fb defb mb sl sn h F2 E,F=pb::mb::(h++F2)/\qA w X pb db M fb defb mb sl sn h F2 E
def qA.dA(h:qA w X pb db M fb defb mb sl sn F1 F2 E):mb<w.z:=by exact h.map.lt
def qA.lt(h:qA w X pb db M fb defb mb sl sn F1 F2 G):∀b∈pb::mb::(F1++F2),b<w.z:=by intro b E;rcases zG.1 E with rfl|E;exact gg h.cell;rcases zG.1 E with rfl|E;exact h.dA;rcases zD.1 E with E|E;exact h.Q1.lt b E;exact h.J7.lt b E
def fY.lt(h:fY w X pb db F M):∀b∈F,b<w.z:=by obtain⟨fb,defb,mb,sl,sn,G,F2,I,rfl,E⟩:=h;exact E.lt
def qA.j0(h:qA w X pb db M fb defb mb sl sn F1 F2 I)(f:Fr S w w')(G:∀b∈pb::mb::(F1++F2),b∉S)(J:Rows (X++pb::mb::(F1++F2)) w' sl sn M.Q5 M.Q9 I):qA w' X pb db M fb defb mb sl sn F1 F2 I where
 cell:=by rw[f.block pb (gg h.cell) (G pb oN)];exact h.cell
 Q1:=h.Q1.j0 f λb E=>G b (by simp[E])
 J7:=h.J7.j0 f λb E=>G b (by simp[E])
 map:=h.map.j0 f (G mb oN)
 J8:=h.J8
 rows:=J
 rN:=λb E=>yD (h.rN b E) f.size
 oW:=h.oW
 sep:=h.sep
 Q8:=h.Q8
 x7:=h.x7
def qA.q9(h:qA w X pb db M fb defb mb sl sn F1 F2 G)(f:Fr [] w w'):qA w' X pb db M fb defb mb sl sn F1 F2 G:=
 h.j0 f oN (h.rows.j0 (f.mono λb E=>by cases E) λb E=>.inl E)
def fY.q9(h:fY w X pb db F M)(f:Fr [] w w'):fY w' X pb db F M:=by obtain⟨fb,defb,mb,sl,sn,E,F2,G,rfl,I⟩:=h;exact⟨fb,defb,mb,sl,sn,E,F2,G,rfl,I.q9 f⟩
def Gu{E:Mk}(I:∀b∈E,b∈F1\/w.z<=b):∀b∈pb::mb::(E++F2),b∈pb::mb::(F1++F2)\/w.z<=b:=λb h=>by simp only[zG,zD] at h⊢;rcases h with h|h|h|h;exact .inl (.inl h);exact .inl (.inr (.inl h));rcases I b h with G|G;exact .inl (.inr (.inr (.inl G)));exact .inr G;exact .inl (.inr (.inr (.inr h)))
def KZ{E:Mk}(I:∀b∈E,b∈F2\/w.z<=b):∀b∈pb::mb::(F1++E),b∈pb::mb::(F1++F2)\/w.z<=b:=λb h=>by simp only[zG,zD] at h⊢;rcases h with h|h|h|h;exact .inl (.inl h);exact .inl (.inr (.inl h));exact .inl (.inr (.inr (.inl h)));rcases I b h with G|G;exact .inl (.inr (.inr (.inr G)));exact .inr G
def Dw{F':Mk}(n:∀b∈F',b∈F\/w.z<=b):∀b∈X++F',b∈X++F\/w.z<=b:=λb E=>by rcases zD.1 E with h|h;exact .inl (zH _ h);rcases n b h with h|h;exact .inl (zI _ h);exact .inr h
def Jp{F':Mk}(G:∀b∈X,b<w.z)(I:∀b∈X,b∉F)(n:∀b∈F',b∈F\/w.z<=b):∀b∈X,b∉F':=λb E h=>by
 rcases n b h with h|h;exact I b E h;have:=G b E;omega
def qA.tV{G:Mk}(h:qA w X pb db M fb defb mb sl sn F1 F2 O)(f:Fr F1 w w')(V:ie w' fb G l)(I:∀b∈G,b∈F1\/w.z<=b): qA w' X pb db { M with Q1:=l } fb defb mb sl sn G F2 O where
 cell:=by rw[f.block pb (gg h.cell) λE=>(h.sep.2.1 pb E).1 rfl];exact h.cell
 Q1:=V
 J7:=h.J7.j0 f λb E J=>(h.sep.2.1 b J).2.2 E
 map:=h.map.j0 f (λE=>(h.sep.2.1 mb E).2.1 rfl)
 J8:=h.J8
 rows:=h.rows.j0 (f.mono λb E _=>by simp[E]) (Dw (Gu I))
 rN:=λb E=>yD (h.rN b E) f.size
 oW:=Jp h.rN h.oW (Gu I)
 sep:=⟨h.sep.1,λb E=>by rcases I b E with U|U;exact h.sep.2.1 b U;have l1:=gg h.cell;have l2:=h.dA;exact⟨oL,oL,λh2=>by have:=h.J7.lt b h2;omega⟩,h.sep.2.2⟩
 Q8:=h.Q8
 x7:=h.x7
def qA.Cf{G:Mk}{U:List (Int×mh)}(h:qA w X pb db M fb defb mb sl sn F1 F2 U)(f:Fr F2 w w')(V:ie w' defb G l)(J:∀b∈G,b∈F2\/w.z<=b): qA w' X pb db { M with J7:=l } fb defb mb sl sn F1 G U where
 cell:=by rw[f.block pb (gg h.cell) λE=>(h.sep.2.2 pb E).1 rfl];exact h.cell
 Q1:=h.Q1.j0 f λb E O=>(h.sep.2.1 b E).2.2 O
 J7:=V
 map:=h.map.j0 f (λE=>(h.sep.2.2 mb E).2 rfl)
 J8:=h.J8
 rows:=h.rows.j0 (f.mono λb E _=>by simp[E]) (Dw (KZ J))
 rN:=λb E=>yD (h.rN b E) f.size
 oW:=Jp h.rN h.oW (KZ J)
 sep:=⟨h.sep.1,λb E=>⟨(h.sep.2.1 b E).1,(h.sep.2.1 b E).2.1,λh2=>by
  rcases J b h2 with I|I;exact (h.sep.2.1 b E).2.2 I;have:=h.Q1.lt b E;omega⟩,λb E=>by
  rcases J b E with I|I;exact h.sep.2.2 b I;have l1:=gg h.cell;have l2:=h.dA;exact⟨oL,oL⟩⟩
 Q8:=h.Q8
 x7:=h.x7
def qA.vo{o:Obj}(h:qA w X pb db M fb defb mb sl sn F1 F2 O)(V:kM lZ (jA w mb o) mb (G.map λe=>(e.1,pc e.2)))(E:∀e∈G,e∈O\/eY (X++pb::mb::(F1++F2)) w e.2.2.1 e.2.2.2): qA (jA w mb o) X pb db { M with J8:=G.map λe=>(e.1,e.2.1,e.2.2.2) } fb defb mb sl sn F1 F2 G:=by
 have f:=CR h.dA o;have U:Fr (X++pb::mb::(F1++F2)) w (jA w mb o):=f.mono λb E _=>by simp only[zE] at E;subst E;simp
 have I:=h.rows.j0 U (F':=X++pb::mb::(F1++F2)) λb E=>.inl E;exact {
  cell:=by rw[f.block pb (gg h.cell) (oS h.sep.1)];exact h.cell
  Q1:=h.Q1.j0 f λb E=>by simpa using (h.sep.2.1 b E).2.1
  J7:=h.J7.j0 f λb E=>by simpa using (h.sep.2.2 b E).2
  map:=V
  J8:=rfl
  rows:=⟨I.Q5,I.Q9,λe he=>by rcases E e he with J|J;exact I.y9 e J;exact J.j0 U λb E=>.inl E⟩
  rN:=λb E=>yD (h.rN b E) f.size
  oW:=h.oW
  sep:=h.sep
  Q8:=h.Q8
  x7:=h.x7 }
def fY.Cc{G:Mk}(h:fY w X pb db F M)(f:Fr X w w')(I:∀b∈G,b<w'.z)(O:∀b∈G,b∈X\/w.z<=b):fY w' G pb db F M:=by
 obtain⟨fb,defb,mb,sl,sn,U,F2,fs,rfl,h⟩:=h;have hF:∀b∈pb::mb::(U++F2),b∉X:=λb E I=>h.oW b I E;have J:=h.j0 (w':=w') f hF (h.rows.j0 (f.mono λb E _=>zH _ E) λb E=>.inl E);refine⟨fb,defb,mb,sl,sn,U,F2,fs,rfl,{ J with rows:=h.rows.j0 (f.mono λb E _=>zH _ E) λb E=>?_,rN:=I,oW:=λb E V=>?_ }⟩;rcases zD.1 E with E|E;rcases O b E with E|E;exact .inl (zH _ E);exact .inr E;exact .inl (zI _ E);rcases O b E with E|E;exact h.oW b E V;have:=h.lt b V;omega
def fY.sep(h:fY w X pb db F M):∀b∈X,b∉F:=by obtain⟨fb,defb,mb,sl,sn,E,F2,G,rfl,h⟩:=h;exact h.oW
def qBt(h:Rd S w s l)(V:l.length<=1000000)(J:∀x:Int,(decide (x>=0)=decide (n∈l))->K x w): cW 237 [s.v,.u n] dj w K:=by refine qqp ?_;have O:=h.1;refine lD (λx w'=>w'=w/\∃i:Nat,x=i/\i<=l.length/\n∉l.take i) (λx _=>((l.length:Int)-x).toNat) ⟨rfl,0,rfl,oL,oN⟩ ?_;rintro x w' ⟨rfl,i,rfl,hi,E⟩ X U;apply eF<;>intro G;have I:i<l.length:=(by have:=zC G;omega);refine Rd.at h i rfl (zA I) ?_;apply eF<;>intro G;have e:n=l[i]:=(oS G);refine J _ ?_;rw[yA (show (i:Int)>=0 by omega),yA (by rw[e];exact zW I)];have e:n≠l[i]:=(oS G);rw[gJ _ oL];refine U _ _ ⟨rfl,i+1,oN,oL,?_⟩ oL;rw[yG I];simp only[zD,zE,not_or];exact⟨E,e⟩;have:i=l.length:=(by have:=zB G;omega);subst this;rw[xY] at E;refine J _ ?_;rw[zU oO,zU E]
def qvE{K:Bool->WP}(h:Rd S w s l)(E:l.length<=1000000)(G:K (decide (n∈l)) w): cW 187 [s.v,.u n] dk w K:=by refine qlP<|qBt h E λx I=>?_;rw[I];exact G
def qFU:∀w,(zeroValue 234).run prog w=.ok (.agg #[.b 0,.slice none 0 0]) w:=λw=>by kernel_rfl
def Gp:prog.underlying Ff=some (.map 35 234):=by kernel_rfl
def Gw{K:((Int×Sl)×Bool)->Prop}(h:nX lZ w mb (E.map λe=>(e.1,pc e.2)))(I:∀q,look n E=some q->K ((q.2.1,q.2.2.1),true))(J:look n E=none->K ((0,dN),false)): eO [jV.agg [Cell.int .u8,Cell.slice],jV.one Cell.bool] (λw'=>(Instr.lookup Ff (.map (some mb)) (.u n) true).run prog w') w K:=by
 have:=qvf Gp qFU A4 h n;rw[Dp,CA] at this;cases G:look n E with
 | none=>
  rw[G] at this;exact tf ((0,dN),false) this (J G)
 | some q=>
  rw[G] at this;exact tf ((q.2.1,q.2.2.1),true) this (I q G)
def qBz(h:fY w X pb db F M)(G:K M.Q1.length w):cW 204 [dM pb] dj w K:=by obtain⟨fb,defb,mb,sl,sn,I,F2,J,rfl,E⟩:=h;refine qky<|fH (iH E.cell (pW fb) (EI E.Q8) ?_);exact qDl E.Q1 G
def iu (M:eU) (n:Int):Bool:=!(decide (n<2)||decide (n>=M.j9.2.getD 0 0)||decide (n∈M.Q5)||decide (n∈M.Q1)||decide (n∈M.J7))&&(look n M.J8).isNone
def qtU{K:Bool->WP}(h:fY w X pb db F M)(hl:M.Q5.length<=1000000)(hk:∀w',Fr [] w w'->K (iu M n) w'):cW 134 [dM pb,.u n] dk w K:=by
 obtain⟨fb,defb,mb,sl,sn,F1,F2,fs,rfl,E⟩:=h;refine qkC<|jd (λb w'=>b=(decide (n<2)||decide (n>=M.j9.2.getD 0 0)||decide (n∈M.Q5)||decide (n∈M.Q1)||decide (n∈M.J7))/\w'=w) ?_ ?_;refine eF (λG=>⟨by rw[G];rfl,rfl⟩) λG=>fH<|iH E.cell (M.j9.2.getD 0 0) (qE4 E.Q8 0 oO)<|eF (λI=>⟨by rw[G,I];rfl,by trivial⟩) λI=>fH (iH E.cell sl (qCB E.Q8) ?_);refine qvE E.rows.Q5 hl<|eF (λJ=>⟨by rw[G,I,J];rfl,by trivial⟩) λJ=>fH (iH E.cell (pW fb) (EI E.Q8) ?_);refine JH E.Q1<|eF (λO=>⟨by rw[G,I,J,O];rfl,by trivial⟩) λO=>fH<|iH E.cell (pW defb) (qAs E.Q8)<|JH E.J7 ⟨by rw[G,I,J,O];rfl,by trivial⟩;rintro b w' ⟨rfl,rfl⟩;have V:(look n M.J8).isNone=(look n fs).isNone:=by rw[E.J8,CA λx:mh=>(x.1,x.2.2)];cases look n fs<;>rfl
 apply eF<;>intro G;have:=hk w' (.refl _ _);rw[iu,G] at this;exact this;refine fH<|iH E.cell (some mb) (AD E.Q8)<|Gw E.map.at (λq hq=>?_) λhq=>?_;refine oD (oG [] w') λr w1 e1 f1 U=>oJ U 0 rfl _ rfl rfl rfl λw2 U _=>?_
 have:=hk w2 U.fr;rw[iu,G,V,hq] at this;exact this;refine oD (oG [] w') λr w1 e1 f1 U=>oJ U 0 rfl _ rfl rfl rfl λw2 U _=>?_;have:=hk w2 U.fr;rw[iu,G,V,hq] at this;exact this
def ij (M:eU) (kind:Int) (body:Ml):Mo×eU:=
 if M.Q3 then ((0,7),M) else if body.length>500 then ((0,3),M) else
 match M.Q1 with
 | []=>((0,6),M)
 | n::r=>((n,0),{ M with Q1:=r,J8:=iU n (kind,body) M.J8 })
def qBy{K:Mo->WP}(h:fY w X pb db F M)(hb:eY (X++F) w s body)(hl:body.length<=100000)(hf:M.Q1.length<=1000000)(hk:∀F' w',fY w' X pb db F' (ij M kind body).2->Fr F w w'->(∀b∈F',b∈F\/w.z<=b)->K (ij M kind body).1 w'): cW 260 [dM pb,.b kind,s.v] dB w K:=by
 have h0:=h;obtain⟨fb,defb,mb,sl,sn,F1,F2,fs,rfl,hx⟩:=h;have hlen:=hb.1;refine qkw ?_;have same:∀ {e:Int},ij M kind body=((0,e),M)->K (0,e) w:=by
  intro e he;have:=hk _ w (by rw[he];exact h0) (.refl _ _) (λb hb=>.inl hb);rw[he] at this;exact this
 refine fH (iH hx.cell M.Q3 (BY hx.Q8) ?_);refine eF (λhc=>same (by rw[ij,iP hc])) λhc=>?_;have ho:¬M.Q3=true:=(by rw[hc];decide);apply cD<;>intro hc;have:=hc;exact same (by rw[ij,iN ho,iP]);have hb5:¬body.length>500:=oL;refine fH (iH hx.cell (pW fb) (EI hx.Q8) ?_);refine qDs hx.Q1 hf λF1' w1 hp1 f1 n1=>?_;have hx1:=hx.tV f1 hp1 n1;have fF:Fr (pb::mb::(F1++F2)) w w1:=f1.mono λb hb _=>by simp[hb]
 have nF:=Gu (pb:=pb) (mb:=mb) (F2:=F2) n1;cases hfr:M.Q1 with
 | nil=>
  have hmv:ij M kind body=((0,6),M):=(by rw[ij,iN ho,iN hb5,hfr]);rw[hfr] at hp1 hx1;refine y_ ?_;have hM:{ M with Q1:=(yw []).2 }=M:=(by show { M with Q1:=[] }=M;rw[<- hfr]);rw[hM] at hx1;have:=hk _ w1 (by rw[hmv];exact⟨fb,defb,mb,sl,sn,F1',F2,fs,rfl,hx1⟩) fF nF;rw[hmv] at this;exact this
 | cons n r=>
  have hmv:ij M kind body=((n,0),{ M with Q1:=r,J8:=iU n (kind,body) M.J8 }):=(by rw[ij,iN ho,iN hb5,hfr]);rw[hfr] at hp1 hx1;refine x_<|fH ?_;simp only[Addr.j1];have c1:=hx1.cell;refine iH c1 (some mb) (AD hx.Q8) ?_;have hb1:=hb.j0 (fF.drew.mono λb hb _=>zI _ hb) (Dw nF);refine Dd hb1 oL λs2 B2 w2 b2 f2 n2 _ _=>?_;have f12:=((Fr.refl [] w1).drew).trans f2;have hx2:=hx1.q9 f12;refine gY (by show _=_;rw[jI hx2.cell];exact AD hx.Q8) ?_;obtain⟨o,hr,hm⟩:=Kt Gp hx2.map n;refine HP _ hr ?_;have hm':kM lZ (jA w2 mb o) mb ((iU n (kind,s2,body) fs).map λe=>(e.1,pc e.2)):=(by rw[FY pc];exact hm);have hx3:=hx2.vo hm' λe he=>by
   rcases Gk he with h1|h1;exact .inl h1;subst h1;refine .inr (b2.ju mW λb hb hb2=>?_);have l2:w1.z<=b:=n2 b hb;rcases zD.1 hb2 with hb2|hb2;have:=hx1.rN b hb2;omega;have:=hx1.lt b hb2;omega
  have hM:(iU n (kind,s2,body) fs).map (λe=>(e.1,e.2.1,e.2.2.2))=iU n (kind,body) M.J8:=(by rw[hx.J8];exact FY (λx:mh=>(x.1,x.2.2)) n (kind,s2,body) fs);rw[hM] at hx3;have f3:=(fF.j8 f12 oN).j8 (CR hx2.dA o) λb hb=>by simp only[zE] at hb;subst hb;exact .inl oN
  have:=hk _ (jA w2 mb o) (by rw[hmv];exact⟨fb,defb,mb,sl,sn,F1',F2,_,rfl,hx3⟩) f3 nF;rw[hmv] at this;exact this
def qA.cN(h:qA w X pb db M fb defb mb sl sn F1 F2 E)(n:Int):look n M.J8=(look n E).map λq=>(q.1,q.2.1,q.2.2.2):=by rw[h.J8,CA λx:mh=>(x.1,x.2.2)]
def kZ (M:eU) (n kind:Int) (body:Ml):Int×eU:=
 if M.Q3 then (7,M) else match look n M.J8 with
 | none=>(10,M)
 | some _=>if body.length>500 then (3,M) else (0,{ M with J8:=iU n (kind,body) M.J8 })
def qDn(h:fY w X pb db F M)(G:eY (X++F) w s body)(hl:body.length<=100000)(hk:∀w',fY w' X pb db F (kZ M n kind body).2->Fr F w w'->K (kZ M n kind body).1 w'): cW 259 [dM pb,.u n,.b kind,s.v] dj w K:=by
 have h0:=h;obtain⟨fb,defb,mb,sl,sn,F1,F2,fs,rfl,I⟩:=h;have aq:=G.1;refine qly ?_;have J:∀ {e:Int} {w':Md},kZ M n kind body=(e,M)->Fr [] w w'->K e w':=by
  intro e w' he hf;have:=hk w' (by rw[he];exact h0.q9 hf) (hf.mono λb G=>by cases G);rw[he] at this;exact this
 have O:=I.cN n;refine fH (iH I.cell M.Q3 (BY I.Q8) ?_);refine eF (λhc=>J (by rw[kZ,iP hc]) (.refl _ _)) λhc=>?_;have ho:¬M.Q3=true:=(by rw[hc];decide);refine fH<|iH I.cell (some mb) (AD I.Q8)<|Gw I.map.at (λq hq=>?_) λhq=>?_;rw[hq] at O;refine oD (oG [] w) λr w1 e1 f1 E=>oJ E 0 rfl _ rfl rfl rfl λw2 E _=>x_ ?_;apply cD<;>intro hc
 have:=hc;exact J (by rw[kZ,iN ho,O];dsimp only [Option.map_some];rw[iP]) E.fr;have aj:¬body.length>500:=oL;have ac:kZ M n kind body=(0,{ M with J8:=iU n (kind,body) M.J8 }):=(by rw[kZ,iN ho,O];dsimp only [Option.map_some];rw[iN aj]);have ab:=I.q9 E.drew.fr;refine fH<|iH ab.cell (some mb) (AD I.Q8)<|Dd (G.q9 E.drew.fr) oL λs2 B2 w3 b2 f2 n2 _ _=>?_;have ad:=E.drew.fr.trans f2;have V:=I.q9 ad;refine gY (by show _=_;simp only[Addr.j1];rw[jI V.cell];exact AD I.Q8) ?_;obtain⟨o,hr,hm⟩:=Kt Gp V.map n;refine HP _ hr ?_;have al:kM lZ (jA w3 mb o) mb ((iU n (kind,s2,body) fs).map λe=>(e.1,pc e.2)):=(by rw[FY pc];exact hm);have ae:=V.vo al λe he=>by rcases Gk he with h1|h1;exact .inl h1;subst h1;refine .inr (b2.ju mW λb G U=>?_);have l2:=n2 b G;rcases zD.1 U with U|U;have:b<w2.z:=ab.rN b U;have:w2.drew.z=w2.z:=rfl;omega;have:b<w2.z:=ab.lt b U;have:w2.drew.z=w2.z:=rfl;omega
 have hM:(iU n (kind,s2,body) fs).map (λe=>(e.1,e.2.1,e.2.2.2))=iU n (kind,body) M.J8:=(by rw[I.J8];exact FY (λx:mh=>(x.1,x.2.2)) n (kind,s2,body) fs);rw[hM] at ae;have f4:Fr (pb::mb::(F1++F2)) w (jA w3 mb o):=(ad.mono λb G=>by cases G).j8 (CR V.dA o) λb G=>by simp only[zE] at G;subst G;exact .inl oN
 have:=hk (jA w3 mb o) (by rw[ac];exact⟨fb,defb,mb,sl,sn,F1,F2,_,rfl,ae⟩) f4;rw[ac] at this;exact this;rw[hq] at O;exact oD (oG [] w) λr w1 e1 f1 E=>oJ E 0 rfl _ rfl rfl rfl λw2 E _=>y_<|J (by rw[kZ,iN ho,O];rfl) E.fr
def gf (M:eU) (n:Int):Int×eU:=
 if M.Q3 then (7,M) else match look n M.J8 with
 | some _=>(0,{ M with J8:=ln n M.J8,Q1:=ins n M.Q1 })
 | none=>if iu M n then (0,{ M with J7:=ins n M.J7 }) else (10,M)
def qBv(h:fY w X pb db F M)(hl:M.Q5.length<=1000000)(hf:M.Q1.length<=1000000)(hd:M.J7.length<=1000000)(hk:∀F' w',fY w' X pb db F' (gf M n).2->Fr F w w'->(∀b∈F',b∈F\/w.z<=b)->K (gf M n).1 w'): cW 261 [dM pb,.u n] dj w K:=by
 have h0:=h;obtain⟨fb,defb,mb,sl,sn,F1,F2,fs,rfl,J⟩:=h;refine qkv ?_;have ab:∀ {e:Int} {w':Md},gf M n=(e,M)->Fr [] w w'->K e w':=by
  intro e w' he hf;have:=hk _ w' (by rw[he];exact h0.q9 hf) (hf.mono λb G=>by cases G) (λb G=>.inl G);rw[he] at this;exact this
 have O:=J.cN n;refine fH (iH J.cell M.Q3 (BY J.Q8) ?_);refine eF (λhc=>ab (by rw[gf,iP hc]) (.refl _ _)) λhc=>?_;have ho:¬M.Q3=true:=(by rw[hc];decide);refine fH<|iH J.cell (some mb) (AD J.Q8)<|Gw J.map.at (λq hq=>?_) λhq=>?_;rw[hq] at O;refine oD (oG [] w) λr w1 e1 f1 E=>oJ E 0 rfl _ rfl rfl rfl λw2 E _=>y_ ?_;have U:gf M n=(0,{ M with J8:=ln n M.J8,Q1:=ins n M.Q1 }):=(by rw[gf,iN ho,O];rfl);have V:=J.q9 E.fr;refine fH<|iH V.cell (some mb) (AD J.Q8) ?_;obtain⟨o,hr,hm⟩:=kM.del Gp A4 V.map n;refine qAS () _ hr ?_;have ar:kM lZ (jA w2 mb o) mb ((ln n fs).map λe=>(e.1,pc e.2)):=by
  rw[qud pc];rw[Dp] at hm;unfold ln;cases hl:look n (fs.map λe=>(e.1,pc e.2)) with|none=>rw[hl] at hm;exact hm|some q=>rw[hl] at hm;exact hm
 have I:=V.vo ar λe he=>.inl (quM he);have hM:(ln n fs).map (λe=>(e.1,e.2.1,e.2.2.2))=ln n M.J8:=by rw[J.J8];exact qud (λx:mh=>(x.1,x.2.2)) n fs
 rw[hM] at I;have f3:Fr (pb::mb::(F1++F2)) w (jA w2 mb o):=(E.fr.mono λb G=>by cases G).j8 (CR V.dA o) λb G=>by simp only[zE] at G;subst G;exact .inl oN
 refine fH (iH I.cell (pW fb) (EI J.Q8) ?_);refine HJ I.Q1 hf λav w4 ad f4 n4=>?_;have ae:=I.tV f4 ad n4;have hs:w.z<=(jA w2 mb o).z:=by rw[Af];exact E.fr.size
 have:=hk _ w4 (by rw[U];exact⟨fb,defb,mb,sl,sn,av,F2,_,rfl,ae⟩) (f3.j8 f4 λb G=>.inl (by simp[G])) λb G=>by rcases Gu n4 b G with h1|h1;exact .inl h1;exact .inr (zL hs h1)
 rw[U] at this;exact this;rw[hq] at O;refine oD (oG [] w) λr w1 e1 f1 E=>oJ E 0 rfl _ rfl rfl rfl λw2 E _=>x_<|qtU (h0.q9 E.fr) hl λw3 f3=>?_;have aa:=E.fr.trans f3;apply eF<;>intro hc;have hu:iu M n=false:=(oS hc);exact ab (by rw[gf,iN ho,O];show (if iu M n then _ else _)=_;rw[hu];rfl) aa;have hu:iu M n=true:=(oS hc);have U:gf M n=(0,{ M with J7:=ins n M.J7 }):=by rw[gf,iN ho,O];show (if iu M n then _ else _)=_;rw[hu];rfl
 have I:=J.q9 aa;refine fH (iH I.cell (pW defb) (qAs J.Q8) ?_);refine HJ I.J7 hd λay w4 ad f4 n4=>?_;have ae:=I.Cf f4 ad n4;have:=hk _ w4 (by rw[U];exact⟨fb,defb,mb,sl,sn,F1,ay,_,rfl,ae⟩) ((aa.mono λb G=>by cases G).j8 f4 λb G=>.inl (by simp[G])) λb G=>by rcases KZ n4 b G with h1|h1;exact .inl h1;exact .inr (zL aa.size h1)
 rw[U] at this;exact this
def left (es:Array MapEntry) (seen:Array Nat):List MapEntry:=es.toList.filter λe=>!seen.toList.contains e.born
open Classical
def bw:Nat->Int->Ml
 | 0,_=>[]
 | k+1,n=>bw k (n / 256)++[n%256]
def na:∀(k:Nat) (n:Int),(bw k n).length=k
 | 0,_=>rfl
 | k+1,n=>by rw[bw,zF,na k];rfl
def sQ:∀(k:Nat) (n:Int),fj (bw k n)
 | 0,_=>λ_ h=>nomatch h
 | k+1,n=>λx E=>(zD.1 E).elim (sQ k _ x) λh=>by rw[zE.1 h];omega
def qt2(l:Ml)(x:Int):re (l++[x])=re l*256+x:=by unfold re;rw[foldl_append];rfl
def Am:∀(k:Nat) {n:Int},0<=n->n<256^k->re (bw k n)=n
 | 0,n,E,h=>by have:n<1:=h;show (0:Int)=n;omega
 | k+1,n,E,h=>by rw[Int.pow_succ] at h;rw[bw,qt2,Am k oL oL];omega
def G3{a b:Int}(E:0<=a/\a<256^k)(G:0<=b/\b<256^k)(h:bw k a=bw k b):a=b:=by rw[<- Am k E.1 E.2,h,Am k G.1 G.2]
def qx1(l:Ml):∀(r:Int),l.foldl (λr x=>r*256+x) r=r*256^l.length+re l:=by
 unfold re;induction l with
 | nil=>intro r;simp
 | cons x l ih=>
  intro r;rw[foldl_cons,foldl_cons,ih,ih (0*256+x),yI,Int.pow_succ];have:(r*256+x)*256^l.length=r*(256^l.length*256)+x*256^l.length:=(by rw[Int.add_mul,Int.mul_assoc,Int.mul_comm 256]);rw[this];simp;omega
def Ja(x:Int)(l:Ml):re (x::l)=x*256^l.length+re l:=by
 have:=qx1 l (0*256+x);rw[show (0*256+x)=x by omega] at this;unfold re;rw[foldl_cons,show (0*256+x:Int)=x by omega,this];rfl
def Gi:∀ {l:Ml},fj l->0<=re l/\re l<256^l.length
 | [],_=>⟨oO,oO⟩
 | x::l,h=>by have ih:=Gi λy E=>h y (zN x E);have G:=h x oN;rw[Ja,yI,Int.pow_succ];generalize (256:Int)^l.length=c at ih;have I:x*c<=255*c:=Int.mul_le_mul_of_nonneg_right oL oL;have J:0<=x*c:=Int.mul_nonneg oL oL;omega
def qwF:∀ {a b:Ml},fj a->fj b->a.length=b.length->(cmpL a b<0↔re a<re b)
 | [],[],_,_,_=>by show (0:Int)<0↔_;exact .rfl
 | [],_::_,_,_,h=>by simp at h
 | _::_,[],_,_,h=>by simp at h
 | x::a,y::b,I,J,h=>by have G:a.length=b.length:=(oS h);have ih:=qwF (λz E=>I z (zN _ E)) (λz E=>J z (zN _ E)) G;have O:=Gi λz E=>I z (zN _ E);have pb:=Gi λz E=>J z (zN _ E);rw[Ja,Ja,G];rw[G] at O;generalize (256:Int)^b.length=c at O pb;unfold cmpL;by_cases h1:x<y;rw[iP h1];have:(x+1)*c<=y*c:=Int.mul_le_mul_of_nonneg_right oL oL;rw[Int.add_mul,Int.one_mul] at this;exact⟨λ_=>oL,λ_=>oO⟩;rw[iN h1];by_cases h2:y<x;rw[iP h2];have:(y+1)*c<=x*c:=Int.mul_le_mul_of_nonneg_right oL oL;rw[Int.add_mul,Int.one_mul] at this;exact⟨λh=>absurd h oO,λh=>oL⟩;rw[iN h2,ih];have:x=y:=oL;subst this;omega
def qwE:∀ {a b c d:Ml},a.length=b.length->cmpL (a++c) (b++d)=if a=b then cmpL c d else cmpL a b
 | [],[],_,_,_=>by rw[iP rfl];rfl
 | [],_::_,_,_,h=>by simp at h
 | _::_,[],_,_,h=>by simp at h
 | x::a,y::b,c,d,h=>by have ih:=qwE (c:=c) (d:=d) (oS h);rw[show cmpL (x::a++c) (y::b++d)=if x<y then -1 else if y<x then 1 else cmpL (a++c) (b++d) from rfl,show cmpL (x::a) (y::b)=if x<y then -1 else if y<x then 1 else cmpL a b from rfl];by_cases h1:x<y;rw[iP h1,iP h1,iN λe=>by have:=(List.cons.inj e).1;omega];rw[iN h1,iN h1];by_cases h2:y<x;rw[iP h2,iP h2,iN λe=>by have:=(List.cons.inj e).1;omega];have:x=y:=oL;subst this;rw[iN h2,iN h2,ih];by_cases e:a=b;rw[iP e,iP (by rw[e])];rw[iN e,iN λh=>e (List.cons.inj h).2]
def xo(n:Int)(h:0<=n/\n<65536):wrap .u16 n=n:=by unfold wrap;have:(IntKind.u16.signed)=false:=rfl;exact Int.emod_eq_of_lt h.1 h.2
abbrev e9:=Mo
def ji (a:e9):Prop:=lH a.1/\lH a.2
def jW (a:e9):Ml:=bw 8 a.1++bw 8 a.2
def pj(a:e9):(jW a).length=16:=by rw[jW,zF,na,na]
def rI(a:e9):fj (jW a):=λx h=>(zD.1 h).elim (sQ _ _ x) (sQ _ _ x)
def p8:(256:Int)^8=18446744073709551616:=by decide
variable {a:e9} {v:Nat}
def KQ{b:e9}(E:ji a)(G:ji b)(h:jW a=jW b):a=b:=by obtain⟨I,J⟩:=append_inj h (by rw[na,na]);exact Prod.ext (G3 (by rw[p8];exact E.1) (by rw[p8];exact G.1) I) (G3 (by rw[p8];exact E.2) (by rw[p8];exact G.2) J)
def mR (a:e9) (n:Int):Ml:=jW a++bw 8 n
def mL (n m:Int):Ml:=bw 8 n++bw 8 m
def KW(a:e9)(n:Int):(mR a n).length=24:=by rw[mR,zF,pj,na]
def CM(n m:Int):(mL n m).length=16:=by rw[mL,zF,na,na]
def JJ(a:e9)(n:Int):fj (mR a n):=λx h=>(zD.1 h).elim (rI _ x) (sQ _ _ x)
def Kl(n m:Int):fj (mL n m):=rI (n,m)
def qAr{b:e9}{m:Int}(E:ji a)(G:ji b)(I:lH n)(J:lH m)(h:mR a n=mR b m):a=b/\n=m:=by obtain⟨O,U⟩:=append_inj h (by rw[pj,pj]);exact⟨KQ E G O,G3 (by rw[p8];exact I) (by rw[p8];exact J) U⟩
def qzp{m:Int}(h:lH n)(E:lH m):cmpL (bw 8 n) (bw 8 m)<0↔n<m:=by rw[qwF (sQ _ _) (sQ _ _) (by rw[na,na]),Am 8 h.1 (by rw[p8];exact h.2),Am 8 E.1 (by rw[p8];exact E.2)]
def qBT{a b:Int}(h:fj [a,b]):be (jn [a,b]) 2=[a,b]/\jn [a,b]=a*256+b:=by
 have E:=h a oN;have G:=h b oN;have e:jn [a,b]=a*256+b:=by rw[FU h (zO rfl)];show ((0*256+a)*256+b)=_;omega
 refine⟨?_,e⟩;rw[e,be2 oL];congr 1;omega;congr 1;omega
structure dX where
 Q4:Bool
 J6:List Key
 Q0:List Key
 J9:Ml
def jx:dX:=⟨false,[],[],[]⟩
def eG (k v:Nat):Mu:=if k<1\/k>24\/v>108 then (0,0) else (498 / (k+v),(498+k) / (4+k))
def gp (n:dX) (k v:Nat):Prop:=
 (∀a∈n.J6,a.length=k)/\(∀a∈n.Q0,a.length=v)/\gQ n.J6/\
 if n.Q4 then n.J9=[]/\1<=n.J6.length/\n.J6.length<=(eG k v).1/\n.Q0.length=n.J6.length
 else (∀x∈n.J9,2<=x)/\n.Q0=[]/\2<=n.J9.length/\n.J9.length<=(eG k v).2/\n.J6.length+1=n.J9.length
def mC (h E:List Key):Ml:=(h.zip E).flatMap λx=>x.1++x.2
def ib (n:dX):Ml:=if n.Q4 then be n.J6.length 2++mC n.J6 n.Q0 else be n.J9.length 2++n.J9.flatMap (λx=>be x 4)++n.J6.flatten
def jQ (n:dX):Int:=if n.Q4 then 3 else 4
noncomputable def fu (n:dX) (k v:Nat):Int×List Int×Int:=if gp n k v then (jQ n,ib n,0) else (0,[],1)
def jZ (k v:Nat):Nat->Ml->List Key×List Key
 | 0,_=>([],[])
 | c+1,b=>(b.take k::(jZ k v c (b.drop (k+v))).1,(b.drop k).take v::(jZ k v c (b.drop (k+v))).2)
def y8:Nat->Ml->Ml
 | 0,_=>[]
 | c+1,b=>jn (b.take 4)::y8 c (b.drop 4)
def mS (k:Nat):Nat->Ml->List Key
 | 0,_=>[]
 | c+1,b=>b.take k::mS k c (b.drop k)
def gu (b:Ml):Nat:=(b.getD 0 0*256+b.getD 1 0).toNat
def pI (k v:Nat) (b:Ml):dX:=⟨true,(jZ k v (gu b) (b.drop 2)).1,(jZ k v (gu b) (b.drop 2)).2,[]⟩
def m4 (k:Nat) (b:Ml):dX:=⟨false,mS k (gu b-1) ((b.drop 2).drop (gu b*4)),[],y8 (gu b) (b.drop 2)⟩
noncomputable def jE (kind:Int) (b:Ml) (k v:Nat):dX×Int:=
 if (eG k v).1=0\/b.length<2\/b.length>500 then (jx,2)
 else if kind=3/\(b.drop 2).length=gu b*(k+v)/\gp (pI k v b) k v then (pI k v b,0)
 else if kind=4/\1<=gu b/\(b.drop 2).length=gu b*4+(gu b-1)*k/\gp (m4 k b) k v then (m4 k b,0)
 else (jx,2)
def qu9(h:(jE kind b k v).2=0):gp (jE kind b k v).1 k v:=by unfold jE at h⊢;split at h;cases h;rename_i I;rw[iN I];split at h;rename_i E;rw[iP E];exact E.2.2;rename_i E;rw[iN E];split at h;rename_i G;rw[iP G];exact G.2.2.2;cases h
def I6{k v:Nat}:∀ {E G:List Key},(∀a∈E,a.length=k)->(∀a∈G,a.length=v)->E.length=G.length->(mC E G).length=E.length*(k+v)
 | [],[],_,_,_=>by simp[mC]
 | a::r,b::s,J,O,U=>by
  have:=I6 (λx I=>J x (zN _ I)) (λx I=>O x (zN _ I)) (oS U);unfold mC at this⊢;rw[zip_cons_cons,yH,zF,zF,J a oN,O b oN,this,yI,xS];omega
 | [],_::_,_,_,h=>by simp at h
 | _::_,[],_,_,h=>by simp at h
def qw1{k v:Nat}:∀ {E G:List Key},(∀a∈E,a.length=k)->(∀a∈G,a.length=v)->E.length=G.length->jZ k v E.length (mC E G)=(E,G)
 | [],[],_,_,_=>rfl
 | a::r,b::s,J,O,h3=>by have ih:=qw1 (λx I=>J x (zN _ I)) (λx I=>O x (zN _ I)) (oS h3);have U:=J a oN;have V:=O b oN;have e:mC (a::r) (b::s)=a++(b++mC r s):=(by unfold mC;rw[zip_cons_cons,yH,zV]);rw[yI,jZ,e];have e1:(a++(b++mC r s)).take k=a:=(by rw[<- U,take_left'];rfl);have e2:(a++(b++mC r s)).drop k=b++mC r s:=(by rw[<- U,drop_left'];rfl);have e3:(a++(b++mC r s)).drop (k+v)=mC r s:=(by rw[<- xC,e2,<- V,drop_left'];rfl);have e4:(b++mC r s).take v=b:=(by rw[<- V,take_left'];rfl);rw[e3,ih,e1,e2,e4]
 | [],_::_,_,_,h=>by simp at h
 | _::_,[],_,_,h=>by simp at h
def qwY{r:Ml}:∀ {l:Ml},(∀x∈l,0<=x/\x<4294967296)->y8 l.length (l.flatMap (λx=>be x 4)++r)=l
 | [],_=>rfl
 | a::l,h=>by have ih:=qwY (r:=r) λx G=>h x (zN _ G);have E:=mw a 4;rw[yI,y8,yH,zV];generalize l.flatMap (λx=>be x 4)++r=R at ih⊢;have e1:(be a 4++R).take 4=be a 4:=take_left' E;have I:(be a 4++R).drop 4=R:=drop_left' E;rw[e1,I,ih,Jc (h a oN)]
def qwX{k:Nat}:∀ {l:List Key},(∀a∈l,a.length=k)->mS k l.length l.flatten=l
 | [],_=>rfl
 | a::l,h=>by have ih:=qwX λx G=>h x (zN _ G);have E:=h a oN;rw[yI,mS,flatten_cons];have e1:(a++l.flatten).take k=a:=(by rw[<- E];exact take_left);have I:(a++l.flatten).drop k=l.flatten:=(by rw[<- E];exact drop_left);rw[e1,I,ih]
def Jt(l:Ml):(l.flatMap λx=>be x 4).length=l.length*4:=by
 induction l with|nil=>rfl|cons a l ih=>rw[yH,zF,ih,mw,yI];omega
def Ig{k:Nat}:∀ {l:List Key},(∀a∈l,a.length=k)->l.flatten.length=l.length*k
 | [],_=>by simp
 | a::l,h=>by rw[flatten_cons,zF,Ig λx E=>h x (zN _ E),h a oN,yI,xS];omega
def qrO{n:Nat}(h:n<65536)(r:Ml):gu (be (n:Int) 2++r)=n:=by
 have I:=mw (n:Int) 2;obtain⟨a,b,e⟩:∃a b,be (n:Int) 2=[a,b]:=by
  match be (n:Int) 2,I with|[a,b],_=>exact⟨a,b,rfl⟩
 have E:=xb (n:Int) 2;have G:=quv (n:=(n:Int)) ⟨oL,oL⟩;rw[e] at E G;have:=(qBT E).2;rw[G] at this;unfold gu;rw[e];show (a*256+b).toNat=n;omega
def qwJ{r:Ml}:(be n 2++r).drop 2=r:=by
 have:=drop_left (l₁:=be n 2) (l₂:=r);rw[mw] at this;exact this
def qnq(a b:Nat):a / b*b<=a:=Nat.div_mul_le_self a b
def qzn{c:Nat}(h:c<=(eG k v).1):c*(k+v)<=498:=by unfold eG at h;split at h;rw[show c=0 from Nat.le_zero.1 h];omega;exact zL (L0 _ h) (qnq _ _)
def qxQ{c:Nat}(h:c<=(eG k v).2):c*4+(c-1)*k<=498:=by
 unfold eG at h;split at h;rw[show c=0 from Nat.le_zero.1 h];omega;have E:=zL (L0 _ h) (qnq _ _);cases c with
 | zero=>omega
 | succ c=>
  rw[Nat.add_sub_cancel];rw[xS,Nat.mul_add] at E;rw[xS];omega
def Fw:(eG k v).1<=498/\(eG k v).2<=498:=by unfold eG;split;exact⟨oO,oO⟩;exact⟨Nat.div_le_self _ _,Nat.div_le_of_le_mul (by have:(498+k)<=(4+k)*498:=(by rw[xS];omega);exact this)⟩
variable {n:dX}
def GU(h:gp n k v):2<=(ib n).length/\(ib n).length<=500:=by
 obtain⟨G,J,O,E⟩:=h;unfold ib;cases I:n.Q4 with
 | true=>
  rw[I,iP rfl] at E;rw[iP rfl,zF,mw,I6 G J E.2.2.2.symm];have:=qzn E.2.2.1;omega
 | false=>
  rw[I,iN oO] at E;rw[iN oO,zF,zF,mw,Jt,Ig G];have:=qxQ E.2.2.2.1;have e:n.J6.length=n.J9.length-1:=oL;rw[e];omega
def quQ:(⟨n.Q4,n.J6,n.Q0,n.J9⟩:dX)=n:=rfl
def qyu(h:gp n k v)(hk:∀x∈n.J9,x<4294967296):jE (jQ n) (ib n) k v=(n,0):=by
 have aa:=GU h;have h0:=h;obtain⟨V,h2,h3,J⟩:=h;have ah:=(Fw (k:=k) (v:=v));unfold jE;cases I:n.Q4 with
 | true=>
  rw[I,iP rfl] at J;have E:gu (ib n)=n.J6.length:=(by unfold ib;rw[I,iP rfl];exact qrO oL _);have G:(ib n).drop 2=mC n.J6 n.Q0:=(by unfold ib;rw[I,iP rfl];exact qwJ);have O:pI k v (ib n)=n:=by unfold pI;rw[E,G,qw1 V h2 J.2.2.2.symm];rw[<- quQ (n:=n),I,J.1]
  rw[iN,iP ⟨by unfold jQ;rw[I];rfl,by rw[E,G,I6 V h2 J.2.2.2.symm],by rw[O];exact h0⟩,O]
 | false=>
  rw[I,iN oO] at J;have hb:ib n=be n.J9.length 2++(n.J9.flatMap (λx=>be x 4)++n.J6.flatten):=(by unfold ib;rw[I,iN oO,zV]);have E:gu (ib n)=n.J9.length:=(by rw[hb];exact qrO oL _);have G:(ib n).drop 2=n.J9.flatMap (λx=>be x 4)++n.J6.flatten:=(by rw[hb];exact qwJ);have U:n.J6.length=n.J9.length-1:=oL;have O:m4 k (ib n)=n:=by unfold m4;have e:(n.J9.flatMap (λx=>be x 4)++n.J6.flatten).drop (n.J9.length*4)=n.J6.flatten:=(by rw[<- Jt];exact drop_left);rw[E,G,qwY λx hx=>⟨by have:=J.1 x hx;omega,hk x hx⟩,e,<- U,qwX V];rw[<- quQ (n:=n),I,J.2.1]
  have ai:1<=(eG k v).1:=(by have h5:=J.2.2.2.1;unfold eG at h5⊢;by_cases hc:k<1\/k>24\/v>108;rw[iP hc] at h5;omega;rw[iN hc];have h7:k+v<=498:=oL;exact (Nat.le_div_iff_mul_le (show 0<k+v by omega)).2 (by rw[Nat.one_mul];exact h7));rw[iN,iN (λh=>by unfold jQ at h;rw[I] at h;exact absurd h.1 oO),iP ⟨by unfold jQ;rw[I];rfl,by rw[E];omega,by rw[E,G,zF,Jt,Ig V,U],by rw[O];exact h0⟩,O]
def fj.flat{l:List Key}(h:∀a∈l,fj a):fj l.flatten:=λx E=>by obtain⟨a,G,E⟩:=mem_flatten.1 E;exact h a G x E
def qrK(E:∀a∈n.J6,fj a)(I:∀a∈n.Q0,fj a):fj (ib n):=by unfold ib;split;refine (xb _ _).append λx h=>?_;obtain⟨y,J,h⟩:=yK.1 h;have G:=of_mem_zip (a:=y.1) (b:=y.2) J;rcases zD.1 h with h|h;exact E _ G.1 x h;exact I _ G.2 x h;refine ((xb _ _).append λx h=>?_).append (fj.flat E);obtain⟨y,_,h⟩:=yK.1 h;exact xb _ _ x h
section
open Go.ChangeShapes Go.WideShapes Go.ChangeAt Go.RowKit Go.Pt
def qFB:ownKnob prog.godebug=none:=by kernel_rfl
def qAd:laidOutB prog=true:=by kernel_rfl
abbrev uH:List (String×DataW Unit):=[("cashbook/crc.halves",Rows.laid_cashbook_crc_halves)]
def qwR:prog.globalNamed "cashbook/crc.halves"=some HG:=by kernel_rfl
def qDN:(prog.globals[HG]?).map (·.type)=some 390:=by kernel_rfl
def qDO:prog.underlying 390=some (.array 16 35):=by kernel_rfl
def qCf:prog.underlying 35=some (.int .u32):=by kernel_rfl
set_option maxRecDepth 100000 in
def qB5(h:Os)(args:Array Me):laidMetH prog uH ((World.doorLaid prog 4000 h).forCall (λ_ _=>0) ⟨#[],args,[]⟩).memory:=
 laidMetH_of_parts3 (fuel:=8) (laidMet_of_run' 8 oM oM) oM oM
def qx4{W:Md}(h:laidMetH prog uH W):Hv W:=by
 rw[MakeChecks.laidMetH_plain _ _ _ oM] at h;obtain⟨ps,⟨g0,t0,cs0,f0,p0,q0,hg0,ht0,hv0,hd0,_,_⟩,_,_⟩:=h;obtain rfl:=yO (qwR.symm.trans hg0);obtain rfl:=yO (qDN.symm.trans ht0);obtain⟨xs,m1,rfl,hx1,hlen,hn3,hel⟩:=DataW.trod_array qDO hd0;simp only[Prod.mk.injEq] at hx1;have hx:=hx1.1;unfold Rows.laid_cashbook_crc_halves at hx;rw[DataW.agg.injEq] at hx;have c31:prog.cellsOf 35=1:=oM;have hcl:prog.cellsOf 390=16:=oM;have hb:∃T fr,W.heap[HG]?=some (.cells cs0 T fr):=by unfold World.var? at hv0;rw[qwR,Option.bind_some] at hv0;split at hv0;rename_i cs T fr hb;cases hv0;exact⟨T,fr,hb⟩;cases hv0
 obtain⟨T,fr,hb⟩:=hb;have key:∀(i:Nat) (n:Int),(xs.map (·.1))[i]?=some (DataW.lit (.int .u32 n))->cs0.toList[i]?=some (.int .u32 n):=by
  intro i n hi;rw[zQ] at hi;obtain⟨y,hy,hyn⟩:=yT.1 hi;have hil:=(zP.1 hy).1;have h1:=hel i oL;rw[c31] at h1;rw[hy] at h1;obtain⟨k,e1,e2,_⟩:=DataW.trod_int qCf h1;rw[e2] at hyn;have hk:k=n:=(oS hyn);subst hk;have:=Ma (·[0]?) e1;simpa using this
 refine⟨T,fr,?_⟩;rw[hb];refine Ma (λc=>some (Obj.cells c T fr)) ?_;apply Array.ext';apply List.ext_getElem?;intro i;have hx':xs.map (·.1)=mN.map (λn=>DataW.lit (.int .u32 n)):=hx.symm;by_cases hi:i<mN.length;have h1:=key i mN[i] (by rw[hx',zQ,zA hi];rfl);rw[h1];show _=(mN.map (Value.int .u32))[i]?;rw[zQ,zA hi];rfl;have h16:mN.length=16:=rfl;rw[yS oL];exact (yS (by rw[zK];omega)).symm
def qDb{x:Int}(h:IntKind.u8.has x):0<=x/\x<256:=by have E:(0:Int)<=x/\x<=255:=h;omega
def yb{x:Int}(h:IntKind.u16.has x):0<=x/\x<65536:=by have E:(0:Int)<=x/\x<=65535:=h;omega
def Di{x:Int}(h:IntKind.u32.has x):0<=x/\x<4294967296:=by have E:(0:Int)<=x/\x<=4294967295:=h;omega
end
section
open Go Go.ChangeShapes Go.WideShapes Go.ChangeAt Go.RowKit Go.Pt
def Cs:List Cell->List Me->Prop
 | [],[]=>True
 | c::h,v::vs=>(∃x:c.El,v=c.mk x/\wL c x)/\Cs h vs
 | _,_=>False
def Cs.xq:∀ {a b:List Cell} {u v:List Me},Cs a u->Cs b v->Cs (a++b) (u++v)
 | [],b,[],v,_,h=>h
 | c::a,b,x::u,v,h,g=>⟨h.1,Cs.xq h.2 g⟩
 | [],_,_::_,_,h,_=>h.elim
 | _::_,_,[],_,h,_=>h.elim
def Cs.hl:∀ {cs:List Cell} {vs:List Me},Cs cs vs->∃x:HL cs,vs=HL.mk cs x/\dV cs x
 | [],[],_=>⟨(),rfl,trivial⟩
 | [c],[v],h=>by obtain⟨x,E,G⟩:=h.1;exact⟨x,by rw[E];rfl,G⟩
 | c::I::cs,v::vs,h=>by obtain⟨x,E,G⟩:=h.1;obtain⟨y,J,O⟩:=Cs.hl (cs:=I::cs) h.2;exact⟨(x,y),by rw[E,J];rfl,G,O⟩
 | [],_::_,h=>h.elim
 | [_],[],h=>h.elim
 | [_],_::_::_,h=>h.2.elim
 | _::_::_,[],h=>h.elim
def wj (P:Mg) (f:Mf->Option (List Cell)):Nat->List Field->Option (List Cell)
 | _,[]=>some []
 | k,x::h=>bif Nat.beq x.offset k then match f x.type with|some a=>bif Nat.beq (P.cellsOf x.type) a.length then (wj P f (k+a.length) h).map (a++·) else none|none=>none else none
def v9 (P:Mg):Nat->Mf->Option (List Cell)
 | 0,_=>none
 | d+1,t=>match P.underlying t with
  | some (.int k)=>some [.int k]
  | some .bool=>some [.bool]
  | some (.struct E)=>match wj P (v9 P d) 0 E.toList with|some h=>bif Nat.beq (P.cellsOf t) h.length then some h else none|none=>none
  | _=>none
section
variable {H:Type} {enc:Mf×Me->H} {P:Mg} {W:Md} {base:Nat} {spare:Nat->Bool} {held:Bool}
def qub{f:Mf->Option (List Cell)}{cells:List Me}(O:∀t cs,f t=some cs->∀n vs y,DataW.trod enc P W base spare held n t vs=some y->Cs cs vs):∀ {E:List Field} {k:Nat} {cs:List Cell},wj P f k E=some cs-> (∀x∈E,∃n y,DataW.trod enc P W base spare held n x.type ((cells.drop x.offset).take (P.cellsOf x.type))=some y)->Cs cs ((cells.drop k).take cs.length)
 | [],k,cs,h,_=>by cases h;exact trivial
 | x::E,k,cs,h,U=>by
  unfold wj at h;cases G:Nat.beq x.offset k with
  | false=>rw[G] at h;cases h
  | true=>
   rw[G] at h;cases I:f x.type with
   | none=>rw[I] at h;cases h
   | some a=>
    rw[I] at h;dsimp only [_root_.cond_true] at h;cases J:Nat.beq (P.cellsOf x.type) a.length with
    | false=>rw[J] at h;cases h
    | true=>
     rw[J] at h;obtain⟨b,hb,rfl⟩:=yT.1 h;have ih:=qub (cells:=cells) O hb λz hz=>U z (zN _ hz);obtain⟨n,y,V⟩:=U x LQ;rw[yW G,yW J] at V;rw[zF,List.take_add,xC];exact (O _ _ I _ _ _ V).xq ih
def quc:∀(d:Nat) (t:Mf) (cs:List Cell),v9 P d t=some cs->∀n vs y,DataW.trod enc P W base spare held n t vs=some y->Cs cs vs
 | 0,_,_,h,_,_,_,_=>nomatch h
 | d+1,t,cs,h,n,vs,y,E=>by
  unfold v9 at h;split at h
  ·next k hu=>
   cases h;obtain⟨m,G,_,U⟩:=DataW.trod_int hu E;rw[G];exact⟨⟨m,rfl,qA9 U⟩,trivial⟩
  ·next hu=>
   cases h;obtain⟨m,G,_⟩:=DataW.trod_bool hu E;rw[G];exact⟨⟨m,rfl,trivial⟩,trivial⟩
  ·next fs hu=>
   split at h
   ·next cs' hd=>
    cases I:Nat.beq _ cs'.length with
    | false=>rw[I] at h;cases h
    | true=>
     rw[I] at h;cases h;obtain⟨V,m,_,_,J,aa,hf⟩:=DataW.trod_struct hu E
     have:=qub (cells:=vs) (quc d) hd λx hx=>by obtain⟨i,hi,rfl⟩:=List.getElem_of_mem hx;have ae:i<fs.size:=(oS hi);have O:=hf i fs[i] oN;rw[zA (show i<V.length by omega)] at O;exact⟨_,_,by simpa using O⟩
     rw[xE,zS (by have:=yW I;omega)] at this;exact this
   cases h
  cases h
def qrZ{e:Mf}{cs:List Cell}(d:Nat)(G:v9 P d e=some cs):∀n E y,DataW.trod enc P W base spare held n e E=some y->∃x:HL cs,E=HL.mk cs x/\dV cs x:=λn E y h=>(quc d e cs G n E y h).hl
end
end
def qDu(x i:Nat):x&&& 2^i=if x / 2^i%2=1 then 2^i else 0:=by apply Nat.eq_of_testBit_eq;intro j;rw[Nat.testBit_and,Nat.testBit_two_pow];by_cases h:x / 2^i%2=1;rw[iP h,Nat.testBit_two_pow];by_cases e:i=j;subst e;simp[Nat.testBit_eq_decide_div_mod_eq,h];simp[e];rw[iN h,Nat.zero_testBit];by_cases e:i=j;subst e;simp[Nat.testBit_eq_decide_div_mod_eq,h];simp[e]
def hasB (x k:Int):Bool:=decide (x / k%2=1)
def me (x k:Int):Int:=if hasB x k then x-k else x
def DR(n:Nat)(h:n<65536):(BitVec.ofInt 16 (n:Int)).toNat=n:=by rw[BitVec.ofInt_natCast,BitVec.toNat_ofNat];exact Nat.mod_eq_of_lt h
def qL(i:Nat)(G:0<=x/\x<65536)(hi:i<16):bits .and .u16 x ((2^i:Nat):Int)=if hasB x ((2^i:Nat):Int) then ((2^i:Nat):Int) else 0:=by
 obtain⟨n,rfl⟩:∃n:Nat,x=n:=⟨x.toNat,oL⟩;have E:2^i<65536:=Nat.pow_lt_pow_right oO hi;show wrap .u16 ((BitVec.ofInt 16 (n:Int)&&& BitVec.ofInt 16 ((2^i:Nat):Int)).toNat:Nat)=_;rw[BitVec.toNat_and,DR n oL,DR _ E,qDu];have e:hasB (n:Int) ((2^i:Nat):Int)=decide (n / 2^i%2=1):=by unfold hasB;rw[LM,<- Int.natCast_ediv];omega
 rw[e];by_cases h:n / 2^i%2=1;rw[iP h,iP (yA h),xo _ ⟨Int.natCast_nonneg _,Int.ofNat_lt.2 E⟩];rw[iN h,iN (oS h),xo _ oL];rfl
def HW(i:Nat)(O:0<=x/\x<65536)(hi:i<16):bits .andNot .u16 x ((2^i:Nat):Int)=me x ((2^i:Nat):Int):=by
 have E:=qL i O hi;obtain⟨n,rfl⟩:∃n:Nat,x=n:=⟨x.toNat,oL⟩;have U:n<65536:=oL;have e1:bits .andNot .u16 (n:Int) ((2^i:Nat):Int)=wrap .u16 ((BitVec.ofInt 16 (n:Int)&&& ~~~ BitVec.ofInt 16 ((2^i:Nat):Int)).toNat:Nat):=rfl;have G:bits .and .u16 (n:Int) ((2^i:Nat):Int)=wrap .u16 ((BitVec.ofInt 16 (n:Int)&&& BitVec.ofInt 16 ((2^i:Nat):Int)).toNat:Nat):=rfl;have I:=DR n U;generalize BitVec.ofInt 16 (n:Int)=X at e1 G I;generalize BitVec.ofInt 16 ((2^i:Nat):Int)=Y at e1 G;have V:(X&&& ~~~ Y)+(X&&& Y)=X:=by rw[BitVec.add_eq_or_of_and_eq_zero _ _ (by ext k hk;simp;cases X[k]<;>cases Y[k]<;>simp)];ext k hk;simp;cases X[k]<;>cases Y[k]<;>rfl
 have l2:(X&&& Y).toNat<=n:=(by rw[BitVec.toNat_and,<- I];exact Nat.and_le_left);have J:=Ma BitVec.toNat V;rw[BitVec.toNat_add,I] at J;rw[e1,xo _ oL];rw[G,xo _ oL] at E;unfold me;have:(2:Nat)^16=65536:=rfl;split
 ·next h=>rw[iP h] at E;omega
 ·next h=>rw[iN h] at E;omega
def wv (a:e9):Int:=a.1*18446744073709551616+a.2
def za (n:Int):e9:=(n / 18446744073709551616,n%18446744073709551616)
def jK (a b:e9):Option e9:=if wv a+wv b<18446744073709551616*18446744073709551616 then some (za (wv a+wv b)) else none
def oo (a b:e9):Option e9:=if wv b<=wv a then some (za (wv a-wv b)) else none
def Kn(h:ji a):za (wv a)=a:=by obtain⟨x,y⟩:=a;have E:=h.2;unfold za wv;exact Prod.ext oP oP
variable {n:Int} {f:dQ->dQ×Int} {m:Option Nat} {wk:List Me}
def qBh(h:0<=n/\n<18446744073709551616*18446744073709551616):wv (za n)=n/\ji (za n):=by unfold wv za ji lH;omega
def xh(h:ji a):0<=wv a/\wv a<18446744073709551616*18446744073709551616:=by have E:=h.1;have G:=h.2;unfold wv;omega
def qFp{b:e9}(E:ji a)(G:ji b)(h:wv a=wv b):a=b:=by rw[<- Kn E,h,Kn G]
def zn{b c:e9}(E:ji a)(G:ji b)(h:jK a b=some c):wv c=wv a+wv b/\ji c:=by unfold jK at h;split at h;cases h;have I:=xh E;have J:=xh G;exact qBh ⟨oL,by assumption⟩;cases h
def EN{b c:e9}(E:ji a)(G:ji b)(h:oo a b=some c):wv c=wv a-wv b/\ji c:=by unfold oo at h;split at h;cases h;have I:=xh E;have J:=xh G;exact qBh ⟨oL,oL⟩;cases h
section
open Go Go.Pt Go.Sort List
section
variable {w:Md} {X:Mk} {pb:Nat} {db:Option Addr} {F:Mk} {M:eU}
end
end
def wM{A X Y:List Me}(h:X.length=Y.length):d7 (A++X++Z).toArray A.length Y=(A++Y++Z).toArray:=by apply Array.ext';rw[tM _ _ _ (by rw[size_toArray];simp only[zF];omega)];exact Kw A X Y Z h
def ww{cells:Array Me}{s:Nat}{v:Me}{E:List (Nat×Me)}(h:offs[i]?=some (o,s))(G:v.cells.size=s)(J:o+s<=cells.size): Instr.fill (offs[·]?) cells ((i,v)::E)=Instr.fill (offs[·]?) (d7 cells o v.cells.toList) E:=by have I:=GF o v.cells cells;simp only[Instr.fill,h];rw[iN (by simp[G];omega),I]
def F6{parts:List (Nat×Me)}{t:Mf}{z:Me}(E:(P.info? t).bind (·.zero)=some z)(G:P.underlying t=some (.struct (fieldsOf P t)))(h:∀w,((fieldsOf P t).mapM λf=>do pure (f.offset,<- sizeOf f.type):Sem (Array (Mu))).run P w=.ok offs w)(I:Instr.fill (offs[·]?) z.cells parts=some cs)(w:Md):(Instr.build t parts.toArray).run P w=.ok (.agg cs) w:=by simp only[Instr.build,LS,AK E,LU,run_underlying G,h,I,Sem.run_pure]
abbrev HH:Mf:=134
def gR (x y:Option Addr) (m:Option Nat) (Q2:Ml):List Me:=[.pointer x,.pointer y,.map m]++Q2.map (Value.int .u32)
def tB{x y:Option Addr}(h:Q2.length=24):(gR x y m Q2).length=27:=by simp[gR,h]
def qFI:(prog.info? HH).bind (·.zero)=some (.agg (gR none none none (zs 24)).toArray):=by kernel_rfl
def qxP{x y:Option Addr}(h:Q2.length=24)(w:Md): (Instr.build HH #[(0,.pointer x),(1,.pointer y),(2,.map m),(3,.agg (Q2.map (Value.int .u32)).toArray)]).run prog w=.ok (.agg (gR x y m Q2).toArray) w:=by refine F6 (offs:=#[(0,1),(1,1),(2,1),(3,24)]) qFI oM (λw=>oM) ?_ w;have E:(Value.agg (Q2.map (Value.int .u32)).toArray).cells.size=24:=(by show (Q2.map (Value.int .u32)).toArray.size=24;simp[h]);rw[ww rfl rfl (zO rfl),ww rfl rfl (zO rfl),ww rfl rfl (zO rfl),ww rfl E (zO rfl)];show some _=_;congr 1;exact wM (A:=[.pointer x,.pointer y,.map m]) (X:=(zs 24).map (Value.int .u32)) (Y:=Q2.map (Value.int .u32)) (by simp[h,rM]) |>.trans (by rw[xG];rfl)
def gN (db:Option Addr) (j9:rH) (sl sn:Sl) (x6:Int) (Q3:Bool) (wk:List Me):Array Me:=
 ((Value.pointer db::gh j9.1 j9.2)++([sl.v,sn.v,.i x6,.bool Q3]:List Me)++wk).toArray
def GB: gN db j9 sl sn x6 Q3 (gR (pW fb) (pW defb) (some mb) Q2)=gA db j9 sl sn x6 Q3 fb defb mb Q2:=by simp[gN,gA,qc,gR]
def HU(h:j9.2.length=27):(gN db j9 sl sn x6 Q3 wk).size=33+wk.length:=by rw[gN,size_toArray,zF,zF,vv h];rfl
def A1(E:j9.2.length=27)(j:Nat)(h:j<4):(gN db j9 sl sn x6 Q3 wk)[29+j]?=([sl.v,sn.v,.i x6,.bool Q3]:List Me)[j]?:=by rw[gN,List.getElem?_toArray,zV,yY (by rw[vv E];omega),vv E,vA,yZ (by exact h)]
def qFE:(gN db j9 sl sn x6 Q3 wk)[0]?=some (.pointer db):=rfl
def GL(E:j9.2.length=27)(n:Nat)(h:n<27):(gN db j9 sl sn x6 Q3 wk)[n+2]?=some (.u (j9.2.getD n 0)):=by
 rw[gN,List.getElem?_toArray,zV,yZ (by rw[vv E];omega),List.getElem?_cons_succ];have:=Ey (q:=j9.1) (t:=j9.2) n oL;rw[List.getElem?_toArray] at this;exact this
def qsE(h:j9.2.length=27):((gN db j9 sl sn x6 Q3 wk).toList.drop 5).take 24=(j9.2.drop 3).map (Value.int .u32):=by have E:((j9.2.drop 3).map (Value.int .u32)).length=24:=(by rw[zK,yC,h]);have e:(gN db j9 sl sn x6 Q3 wk).toList.drop 5=(j9.2.drop 3).map (Value.int .u32)++([sl.v,sn.v,.i x6,.bool Q3]++wk):=(by show List.drop 3 ((j9.2.map (Value.int .u32))++[_,_,_,_]++wk)=_;rw[zV,LW (by rw[zK,h];decide),xO]);rw[e,LO (Nat.le_of_eq E.symm),zS (Nat.le_of_eq E)]
def qCJ(G:j9.2.length=27){E:Int}:d7 (gN db j9 sl sn x6 Q3 wk) 31 [.i E]=gN db j9 sl sn E Q3 wk:=by
 have h:((Value.pointer db::gh j9.1 j9.2)++([sl.v,sn.v]:List Me)).length=31:=by rw[zF,vv G];rfl
 have:=wM (A:=(Value.pointer db::gh j9.1 j9.2)++([sl.v,sn.v]:List Me)) (X:=[.i x6]) (Y:=[.i E]) (Z:=.bool Q3::wk) rfl;rw[h] at this;simpa[gN] using this
def qu6(G:j9.2.length=27){E:List Me}(I:wk.length=E.length):d7 (gN db j9 sl sn x6 Q3 wk) 33 E=gN db j9 sl sn x6 Q3 E:=by
 have h:((Value.pointer db::gh j9.1 j9.2)++([sl.v,sn.v,.i x6,.bool Q3]:List Me)).length=33:=by rw[zF,vv G];rfl
 have:=wM (A:=(Value.pointer db::gh j9.1 j9.2)++([sl.v,sn.v,.i x6,.bool Q3]:List Me)) (Z:=[]) I;rw[h,xG,xG] at this;exact this
def lC (l:Ml):Ml:=l.foldl (λa n=>ins n a) []
def qwT(n:Int):∀l:Ml,(ins n l).length<=l.length+1
 | []=>by simp[ins]
 | a::l=>by
  have:=qwT n l;simp only[ins];split;simp;split;simp;simp only[yI];omega
def qvX(h:i<l.length):lC (l.take (i+1))=ins l[i] (lC (l.take i)):=by rw[lC,yG h,foldl_append];rfl
def qx5(l:Ml):(lC l).length<=l.length:=by
 unfold lC;have:∀(l a:Ml),(l.foldl (λa n=>ins n a) a).length<=a.length+l.length:=by
  intro l;induction l with
  | nil=>intro a;simp
  | cons x l ih=>
   intro a;have h:=ih (ins x a);have E:=qwT x a;rw[foldl_cons,yI];omega
 simpa using this l []
variable {a r:dQ×Int} {s:rH}
def qqW(l:Ml):∀a:Ml,a.Pairwise (· < ·)->(l.foldl (λa n=>ins n a) a).Pairwise (· < ·):=by
 induction l with|nil=>intro a h;exact h|cons x l ih=>intro a h;exact ih _ (EK h)
def qur(l:Ml):∀a:Ml,(a++l).Nodup->(l.foldl (λa n=>ins n a) a).Perm (a++l):=by
 induction l with
 | nil=>intro a h;rw[xG];exact .refl _
 | cons x l ih=>
  intro a h;have G:x∉a:=λI=>by rw[yM] at h;exact h.2.2 x I x oN rfl
  have J:=Cp G;have E:=(J.append_right l).trans (perm_middle.symm);exact (ih (ins x a) (E.nodup_iff.2 h)).trans E
def qte(l:Ml):(lC l).Pairwise (· < ·):=qqW l [] .nil
def qvW(h:l.Nodup):(lC l).Perm l:=by
 have:=qur l [] (oS h);simpa[lC] using this
def qC8(h:l.Pairwise (· < ·)):l.Pairwise (·<=·):=h.imp Int.le_of_lt
def FR(h:l.Pairwise (· < ·)):l.Nodup:=h.imp (λh=>Int.ne_of_lt h)
def qq2(h:l'.Perm l)(E:l'.Pairwise (·<=·))(G:l.Nodup):l'=lC l:=
 Ki (h.trans (qvW G).symm) E (qC8 (qte l))
def qz3(h:l.Pairwise (· < ·)):lC l=l:=(qq2 (.refl _) (qC8 h) (FR h)).symm
def Ev{x y:Int}:∀ {l:Ml},y∈ins x l↔y=x\/y∈l
 | []=>by simp[ins]
 | a::l=>by
  have:=Ev (x:=x) (y:=y) (l:=l);simp only[ins];split;simp;split;rename_i h;subst h;simp;simp only[zG,this];constructor;rintro (h|h|h);exact .inr (.inl h);exact .inl h;exact .inr (.inr h);rintro (h|h|h);exact .inr (.inl h);exact .inl h;exact .inr (.inr h)
def andThen (r:dQ×Int) (f:dQ->dQ×Int):dQ×Int:=if r.2=0 then f r.1 else r
def lQ:List (MD)->dQ->dQ×Int
 | [],D=>(D,0)
 | x::r,D=>andThen (fN D x.1 x.2) (lQ r)
def jc (D:dQ) (numbers y6:Ml):dQ×Int:=
 if (ik numbers y6).2≠0 then (D,(ik numbers y6).2)
 else andThen (lQ ((y6.zip (ik numbers y6).1).map λx=>(x.1,gd x.1 2 x.2)) D) i9
def jB (s:rH):MD:=(Int.tmod s.1 2,gd (wrap .u32 (Int.tmod s.1 2)) 1 (iJ s.1 s.2))
def rU (D:dQ) (s:rH):dQ×Int:=andThen (fN D (jB s).1 (jB s).2) i9
def gy (n:Nat):Ml:=(List.range (n-2)).map λ(i:Nat)=>(i:Int)+2
def mZ (n:Nat):rH:=(1,[wrap .u32 n,2,wrap .u32 ((gy n).length-gM (gy n).length:Int)]++zs 24)
def nP (D:dQ):dQ×Int:=
 andThen (fN D 0 (zs 512)) λD=>andThen (fN D 1 (zs 512)) λD=>andThen (i9 D) λD=>
 andThen (jc D ((gy D.Q6.length).drop (gM (gy D.Q6.length).length)) ((gy D.Q6.length).take (gM (gy D.Q6.length).length))) λD=>rU D (mZ D.Q6.length)
def o9 (D:dQ) (E:Int):Nat->Int->Ml->Ml->Option (List Int×List Int)
 | 0,_,_,_=>none
 | f+1,a,h,Q9=>
  if a=0 then some (h,Q9) else
  if a<2\/a>=E\/a∈h then none else
  if (eW D a).2≠0 then none else
  if (fX a (eW D a).1).2.2≠0\/(fX a (eW D a).1).1≠2 then none else
  if (jo (fX a (eW D a).1).2.1).2.2≠0 then none else
  o9 D E f (jo (fX a (eW D a).1).2.1).1 (h++[a]) (Q9++(jo (fX a (eW D a).1).2.1).2.1)
def mU (h:Int) (E:Ml):Int->Ml->Bool
 | _,[]=>true
 | G,n::r=>!(decide (n<=G)||decide (n>=h)||decide (n∈E))&&mU h E n r
def rx (D:dQ) (s:rH):Option (List Int×List Int):=
 match o9 D (s.2.getD 0 0) ((s.2.getD 0 0).toNat+1) (s.2.getD 1 0) [] [] with|none=>none|some x=>if mU (s.2.getD 0 0) x.1 0 x.2=true/\(x.2.length:Int)=s.2.getD 2 0 then some x else none
def mg (j9:rH) (h Q9:Ml) (x6:Int) (Q3:Bool) (E:Ml):eU:=⟨j9,h,Q9,x6,Q3,E,[],[],j9.2.drop 3⟩
def pJ (D:dQ):Option eU×Int:=
 if (eW D 0).2≠0 then (none,(eW D 0).2) else
 if (eW D 1).2≠0 then (none,(eW D 1).2) else
 if (i7 (eW D 0).1 (eW D 1).1).2≠0 then (none,(i7 (eW D 0).1 (eW D 1).1).2) else
 if (i7 (eW D 0).1 (eW D 1).1).1.2.getD 0 0≠D.Q6.length then (none,2) else
 match rx D (i7 (eW D 0).1 (eW D 1).1).1 with|none=>(none,2)|some x=>(some (mg (i7 (eW D 0).1 (eW D 1).1).1 x.1 x.2 1 false x.2),0)
def qJ (pb:Nat) (x y:Option Addr) (mb:Nat) (vs:List Me) (K:Unit->WP) (w:Md):Prop:=
 eO [jV.tg] (λw'=>(Instr.build HH (#[(0,Value.pointer x),(1,Value.pointer y),(2,Value.map (some mb)),(3,Value.agg (List.toArray vs))])).run prog w') w<|
 λE=>
 nn (pW pb)<|
 λI=>
 gV (List.length E=27)<|
 st ({ block:=I.block,off:=I.off+33 }) E w<|
 λJ=>
 nn (pW pb)<|
 λO=>
 ld Cell.slice ({ block:=O.block,off:=O.off+30 }) J<|
 λU=>
 loop Int (λ(aa:Int->WP) (G:Int) (h:Md)=>
  cond (decide (G<(U.len:Int)))
   (idx U G 1<|
   λab=>
   ld (Cell.int IntKind.u32) ab h<|
   λ(ac:Int)=>
   nn (pW pb)<|
   λV=>
   ld Cell.ptr ({ block:=V.block,off:=V.off+33 }) h<|
   λad=>
   cW 186 ([Value.pointer ad,Value.int IntKind.u32 ac]) ([jV.one Cell.bool]) h<|
   λaf (ae:Md)=>
   aa (wrap IntKind.i64 (G+1)) ae)
   (K () h)) 0 J
def qxL{w3:Md}{G Q9:Ml}{K:Unit->WP}(hs:j9.2.length=27)(hw:wk.length=27)(hX:∀b∈X,b<w.z/\b≠pb)(U:Rd (X++[pb]) w sl G)(J:Rd (X++[pb]) w sn Q9)(hn:Q9.length<=100000)(ho:dY [pb] w w3 [(pb,.c (gN db j9 sl sn x6 Q3 wk) v6)])(h1:ie w3 fb F1 [])(h2:ie w3 defb F2 [])(h3:kM lZ w3 mb [])(n1:∀b∈F1,w.z<=b)(n2:∀b∈F2,w.z<=b)(n3:w.z<=mb)(aK:pb<w.z)(ak:mb∉F1)(al:mb∉F2)(an:∀b∈F1,b∉F2)(hk:∀F' w',fY w' X pb db F' (mg j9 G Q9 x6 Q3 (lC Q9))->Fr [pb] w w'->(∀b∈F',b=pb\/w.z<=b)->K () w'): qJ pb (pW fb) (pW defb) mb ((j9.2.drop 3).map (Value.int .u32)) K w3:=by
 have I:(j9.2.drop 3).length=24:=(by rw[yC,hs]);unfold qJ;refine tf (gR (pW fb) (pW defb) (some mb) (j9.2.drop 3)) (qxP I w3)<|fH<|nc (tB I) ?_;have ae:(gR (pW fb) (pW defb) (some mb) (j9.2.drop 3)).all Value.oneCell'=true:=by rw[LY];intro v hv;simp only[gR,zD,zG,mem_map,xW,or_false] at hv;rcases hv with (rfl|rfl|rfl)|⟨x,_,rfl⟩<;>rfl
 refine oI ho 0 rfl (gA db j9 sl sn x6 Q3 fb defb mb (j9.2.drop 3)) (by rw[<- GB];exact qu6 hs (by rw[hw,tB I])) ae (by rw[HU hs,tB I,hw];exact zO rfl) λw4 V f4=>?_;have ab:∀b∈F1,b≠pb:=λb E e=>by have:=n1 b E;omega
 have ac:∀b∈F2,b≠pb:=λb E e=>by have:=n2 b E;omega
 have hS:∀b∈pb::mb::(F1++F2),b∈[pb]\/w.z<=b:=λb E=>by simp only[zG,zD] at E;rcases E with rfl|rfl|E|E;exact .inl oN;exact .inr n3;exact .inr (n1 b E);exact .inr (n2 b E)
 have hx:qA w4 X pb db (mg j9 G Q9 x6 Q3 []) fb defb mb sl sn F1 F2 []:={
  cell:=V.at (i:=0) rfl
  Q1:=h1.j0 f4 λb E=>by simpa using ab b E
  J7:=h2.j0 f4 λb E=>by simpa using ac b E
  map:=h3.j0 f4 oQ
  J8:=rfl
  rows:=by have hf:Fr (X++[pb]) w w4:=V.fr.mono λb E _=>zI _ E;exact⟨U.j0 hf (Dw hS),J.j0 hf (Dw hS),λe he=>by cases he⟩
  rN:=λb E=>yD (hX b E).1 V.fr.size
  oW:=Jp (λb E=>(hX b E).1) (λb E=>by simpa using (hX b E).2) hS
  sep:=⟨oL,λb E=>⟨ab b E,λe=>ak (e▸E),an b E⟩,λb E=>⟨ac b E,λe=>al (e▸E)⟩⟩
  Q8:=hs
  x7:=I }
 refine fH (iH hx.cell sn (qCC hs) ?_);have aN:=J.1;refine lD (λx w'=>∃(i:Nat) (aa:Mk),x=i/\i<=Q9.length/\qA w' X pb db (mg j9 G Q9 x6 Q3 (lC (Q9.take i))) fb defb mb sl sn aa F2 []/\Fr [pb] w w'/\∀b∈aa,w.z<=b) (λx _=>((Q9.length:Int)-x).toNat)
  ⟨0,F1,rfl,oL,hx,V.fr,n1⟩ ?_
 rintro x w5 ⟨i,aa,rfl,hi,O,f5,n5⟩ Z hZ;apply cD<;>intro hc;have af:i<Q9.length:=oL;refine Rd.at O.rows.Q9 i rfl (zA af)<|fH (iH O.cell (pW fb) (EI hs) ?_);have av:=qx5 (Q9.take i);rw[yL] at av;refine HJ O.Q1 (by show (lC (Q9.take i)).length<=_;omega) λag w6 aw f6 n6=>?_;have ax:=O.tV f6 aw n6;rw[gJ _ oL];refine hZ _ _ ⟨i+1,ag,oN,oL,?_,f5.j8 f6 λb E=>.inr (n5 b E),λb E=>?_⟩ oL;rw[qvX af];exact ax;rcases n6 b E with h|h;exact n5 b h;exact zL f5.size h;have:i=Q9.length:=oL;subst this;rw[xY] at O;refine hk _ w5 ⟨fb,defb,mb,sl,sn,aa,F2,[],rfl,O⟩ f5 λb E=>?_;simp only[zG,zD] at E;rcases E with rfl|rfl|E|E;exact .inl rfl;exact .inr n3;exact .inr (n5 b E);exact .inr (n2 b E)
def qy7{Q5 Q9:Ml}{K:Unit->WP}(hc:w.heap[pb]?=some (.c (gN db j9 sl sn x6 Q3 wk) v6))(hs:j9.2.length=27)(hw:wk.length=27)(ht:0<=x6/\x6<=1000000000)(hX:∀b∈X,b<w.z/\b≠pb)(hlists:Rd (X++[pb]) w sl Q5)(hnamed:Rd (X++[pb]) w sn Q9)(hn:Q9.length<=100000)(hk:∀F' w',fY w' X pb db F' (mg j9 Q5 Q9 (x6+1) Q3 (lC Q9))->Fr [pb] w w'->(∀b∈F',b=pb\/w.z<=b)->K () w'): cW 132 [dM pb] [] w K:=by
 have hpb:=gg hc;have ho:dY [pb] w w [(pb,.c (gN db j9 sl sn x6 Q3 wk) v6)]:=⟨by simpa using hc,oN,.refl _ _,oN⟩;refine qjt<|fH (oB ho 0 rfl x6 (A1 hs 2 oO) ?_);rw[gJ _ oL];refine fH (oI ho 0 rfl (gN db j9 sl sn (x6+1) Q3 wk) (qCJ hs) rfl (by rw[HU hs,hw];exact zO rfl) λw1 ho f1=>?_);have hrl:((j9.2.drop 3).map (Value.int .u32)).length=24:=(by rw[zK,yC,hs]);have hcA:∀ {w':Md},w'.heap[pb]?=some (.c (gN db j9 sl sn (x6+1) Q3 wk) v6)->kU w' (dh pb 5) 0 ((j9.2.drop 3).map (Value.int .u32)):=λh=>Aj h _ 5 0 (by rw[hrl];exact qsE hs);have tail:=λ{w3:Md} {fb defb mb:Nat} {F1 F2:Mk}=>qxL (w3:=w3) (fb:=fb) (defb:=defb) (mb:=mb) (F1:=F1) (F2:=F2) hs hw hX hlists hnamed hn (K:=K) (x6:=x6+1) (Q3:=Q3) (db:=db);have ho':=ho.drew;generalize w1.drew=wd at ho';have hld:∀ {K':List Me->Prop},K' ((j9.2.drop 3).map (Value.int .u32))->iA 24 (dh pb 5) wd K':=λk=>lW (ho'.at (i:=0) rfl) _ hrl (qsE hs) k;have hsd:=ho'.fr.size;have fin:∀ {w3:Md} {fb defb mb:Nat} {F1 F2:Mk},Fr [] wd w3->ie w3 fb F1 []->ie w3 defb F2 []->kM lZ w3 mb []->(∀b∈F1,wd.z<=b)->(∀b∈F2,wd.z<=b)->wd.z<=mb->mb∉F1->mb∉F2->(∀b∈F1,b∉F2)->
   qJ pb (pW fb) (pW defb) mb ((j9.2.drop 3).map (Value.int .u32)) K w3:=λf p1 p2 p3 n1 n2 n3 s1 s2 s3=>
  tail (ho'.q9 f) p1 p2 p3 (λb hb=>zL hsd (n1 b hb)) (λb hb=>zL hsd (n2 b hb)) (zL hsd n3) hpb s1 s2 s3 hk
 refine⟨?_,?_,?_⟩;refine fH<|hld<|CB λfb F1 w2 p1 f2 n1=>gY (hcA ((ho'.q9 f2).at (i:=0) rfl))<|CB λdefb F2 w3 p2 f3 n2=>gY (hcA ((ho'.q9 (f2.trans f3)).at (i:=0) rfl))<|oD (ho'.q9 (f2.trans f3)) λmb w4 e4 f4 ho4=>gY (hcA (ho4.at (i:=1) rfl))<|fin ((f2.trans f3).trans f4) (p1.j0 (f3.trans f4) oN) (p2.j0 f4 oN) (.empty (ho4.at (i:=0) rfl)) n1 (λb hb=>zL f2.size (n2 b hb)) (by rw[e4];exact (f2.trans f3).size) (λhm=>?_) (λhm=>?_) (λb hb hb2=>?_)
 have:=(p1.j0 f3 oN).lt mb hm;omega;have:=p2.lt mb hm;omega;have:=p1.lt b hb;have:=n2 b hb2;omega;refine fH<|hld<|CB λfb F1 w2 p1 f2 n1=>gY (hcA ((ho'.q9 f2).at (i:=0) rfl))<|oD (ho'.q9 f2) λmb w3 e3 f3 ho3=>gY (hcA (ho3.at (i:=1) rfl))<|CB λdefb F2 w4 p2 f4 n2=>?_;have ho4:=ho3.q9 f4;refine gY (hcA (ho4.at (i:=1) rfl)) ?_;have hmb:=gg (ho3.at (i:=0) rfl);refine fin ((f2.trans f3).trans f4) (p1.j0 (f3.trans f4) oN) p2 (.empty (ho4.at (i:=0) rfl)) n1 (λb hb=>zL (f2.trans f3).size (n2 b hb)) (by rw[e3];exact f2.size) (λhm=>?_) (λhm=>?_) (λb hb hb2=>?_)
 have:=p1.lt mb hm;omega;have:=n2 mb hm;omega;have:=(p1.j0 f3 oN).lt b hb;have:=n2 b hb2;omega;refine fH<|hld<|oD ho' λmb w2 e2 f2 ho2=>gY (hcA (ho2.at (i:=1) rfl)) ?_;have hmb:=gg (ho2.at (i:=0) rfl);refine CB λfb F1 w3 p1 f3 n1=>?_;have ho3:=ho2.q9 f3;refine gY (hcA (ho3.at (i:=1) rfl))<|CB λdefb F2 w4 p2 f4 n2=>?_;have ho4:=ho3.q9 f4;refine gY (hcA (ho4.at (i:=1) rfl))<|fin ((f2.trans f3).trans f4) (p1.j0 f4 oN) p2 (.empty (ho4.at (i:=0) rfl)) (λb hb=>zL f2.size (n1 b hb)) (λb hb=>zL (f2.trans f3).size (n2 b hb)) (by rw[e2];exact zM _) (λhm=>?_) (λhm=>?_) (λb hb hb2=>?_)
 have:=n1 mb hm;omega;have:=n2 mb hm;have:=f3.size;omega;have:=p1.lt b hb;have:=n2 b hb2;omega
def view (D:dQ) (n:Int):Ml:=match kx n D.Q7 with|some b=>b.1|none=>(D.Q6.getD n.toNat .zero).1
def dQ.size (D:dQ):Int:=D.Q6.length
def JT(h:D.down=false)(E:0<=n/\n<D.size):eW D n=(view D n,0):=by have G:n<(D.Q6.length:Int):=E.2;rw[eW,iN (by rw[h];decide),iN,view];cases kx n D.Q7<;>rfl
def qlg(n:Int):∀(l:List (Int×oi)) (x:Int×oi),kx n (l++[x])=if x.1=n then some x.2 else kx n l
 | [],x=>rfl
 | y::l,x=>by simp only[xI,kx];rw[qlg n l x];by_cases h:x.1=n;simp[h];simp[h]
def quI(n:Nat):∀(l:List (Int×oi)) (s:List oi),(∀x∈l,0<=x.1/\x.1<s.length)->(l.foldl gW s).getD n .zero=match kx n l with|some b=>b|none=>s.getD n .zero
 | [],s,_=>rfl
 | x::l,s,h=>by
  have G:=h x oN;rw[foldl_cons,quI n l (gW s x) (λy E=>by rw[gW,xF];exact h y (zN _ E)),kx];cases kx (n:Int) l with
  | some b=>rfl
  | none=>
   by_cases he:x.1=n;rw[iP he,gW,yR];have:x.1.toNat=n:=oL;rw[this,List.getElem?_set_self oL];rfl;rw[iN he,gW,yR,List.getElem?_set_ne oL,yR]
structure fK (D:dQ):Prop where
 down:D.down=false
 y7:D.y7=-1
 at_:∀ x∈D.Q7,0<=x.1/\x.1<D.Q6.length
def fK.act(h:fK D):ko D=(D,false):=by rw[ko,iN (by rw[h.y7];decide),iN (by rw[h.y7];decide)]
def fK.write(h:fK D)(I:0<=n/\n<D.size)(G:l.length=512): ∃D',fN D n l=(D',0)/\fK D'/\D'.size=D.size/\∀m,view D' m=if m=n then l else view D m:=by have O:n<(D.Q6.length:Int):=I.2;have J:fK (rJ D n ⟨l,G⟩):=⟨h.down,h.y7,λx E=>by rcases zD.1 E with E|E;exact h.at_ x E;simp at E;subst E;exact⟨I.1,O⟩⟩;refine⟨rJ D n ⟨l,G⟩,?_,J,rfl,λm=>?_⟩;rw[fN,iN (by rw[h.down];decide),iN,dif_pos G,J.act];rfl;rw[view,rJ];rw[qlg];by_cases hm:m=n;rw[iP hm,iP hm.symm];rw[iN hm,iN λe=>hm e.symm,view]
def fK.sync(h:fK D):∃D',i9 D=(D',0)/\fK D'/\D'.size=D.size/\D'.Q7=[]/\∀m,0<=m->view D' m=view D m:=by refine⟨{ D with Q6:=D.Q7.foldl gW D.Q6,Q7:=[] },?_,⟨h.down,h.y7,λx E=>by cases E⟩,?_,rfl,λm G=>?_⟩;rw[i9,iN (by rw[h.down];decide),h.act];rfl;show ((D.Q7.foldl gW D.Q6).length:Int)=_;rw[E3];rfl;obtain⟨k,rfl⟩:∃k:Nat,m=k:=⟨m.toNat,oL⟩;show ((D.Q7.foldl gW D.Q6).getD (k:Int).toNat .zero).1=_;rw[zJ,quI k _ _ h.at_,view,zJ];cases kx (k:Int) D.Q7<;>rfl
def fK.writes:∀ {l:List (MD)} {D:dQ},fK D->(∀x∈l,(0<=x.1/\x.1<D.size)/\x.2.length=512)->(l.map (·.1)).Nodup-> ∃D',lQ l D=(D',0)/\fK D'/\D'.size=D.size/\(∀x∈l,view D' x.1=x.2)/\∀m,m∉l.map (·.1)->view D' m=view D m
 | [],D,h,_,_=>⟨D,rfl,h,rfl,(λx E=>by cases E),λm _=>rfl⟩
 | y::l,D,h,O,G=>by obtain⟨V,I⟩:=O y oN;obtain⟨D1,e1,q1,s1,U⟩:=h.write V I;rw[xM,LP] at G;obtain⟨D2,e2,q2,s2,v2,u2⟩:=fK.writes q1 (λx E=>by rw[s1];exact O x (zN _ E)) G.2;refine⟨D2,?_,q2,s2.trans s1,λx E=>?_,λm J=>?_⟩;rw[lQ,e1];exact e2;rcases zG.1 E with rfl|E;rw[u2 _ G.1,U,iP rfl];exact v2 x E;rw[xM,zG,not_or] at J;rw[u2 m J.2,U,iN J.1]
def chunk (numbers:Ml) (i:Nat):Ml:=(numbers.drop (123*i)).take 123
def t7 (D:dQ) (numbers y6:Ml):Prop:=∀(i:Nat) p,y6[i]?=some p->view D p=gd p 2 (k9 (y6.getD (i+1) 0) (chunk numbers i))
def qpi(numbers y6:Ml)(k i:Nat):(jC numbers y6 k)[i]?=if i<k then some (k9 (y6.getD (i+1) 0) (chunk numbers i)) else none:=by rw[jC,zQ];by_cases h:i<k;rw[iP h,List.getElem?_range h];rfl;rw[iN h,yS (oS h)];rfl
def qnk(numbers y6:Ml)(k:Nat):(jC numbers y6 k).length=k:=by simp[jC]
def Kc(numbers:Ml)(i:Nat):(chunk numbers i).length<=123:=by rw[chunk,yL];omega
structure qa (n:Int) (numbers y6:Ml):Prop where
 cZ:numbers.Pairwise (· < ·)
 qy:∀ x∈numbers,2<=x/\x<n
 xe:∀ x∈y6,2<=x/\x<n
 nodup:y6.Nodup
 J3:∀ x∈y6,x∉numbers
 room:numbers.length<=123*y6.length
def Jd:∀(l:Ml) (a:Int),jP a l=true↔(∀x∈l,a<x)/\l.Pairwise (· < ·)
 | [],a=>by simp[jP]
 | x::l,a=>by rw[jP,yB,yN,Jd l x,yJ];constructor;rintro⟨h,E,G⟩;refine⟨λy I=>?_,E,G⟩;rcases zG.1 I with rfl|I;exact h;exact Int.lt_trans h (E y I);rintro⟨h,E,G⟩;exact⟨h x oN,E,G⟩
def qa.y9(h:qa n numbers y6):ik numbers y6=(jC numbers y6 y6.length,0):=by
 have E:jP 1 numbers=true:=(Jd _ _).2 ⟨λx G=>by have:=h.qy x G;omega,h.cZ⟩;rw[ik,iN (by rw[E];have:=h.room;simp;omega),if_neg];rintro⟨p,I,J⟩;have:=h.xe p I;omega
def qnF{α β:Type}{x:α×β}:∀ {l:List α} {r:List β},x∈l.zip r->∃i:Nat,l[i]?=some x.1/\r[i]?=some x.2
 | [],_,h=>by simp at h
 | _::_,[],h=>by simp at h
 | a::l,b::r,h=>by rw[zip_cons_cons,zG] at h;rcases h with rfl|h;exact⟨0,rfl,rfl⟩;obtain⟨i,E,G⟩:=qnF h;exact⟨i+1,by simpa using E,by simpa using G⟩
def qxj{α β:Type}:∀ {l:List α} {r:List β},l.length=r.length->(l.zip r).map (·.1)=l
 | [],[],_=>rfl
 | a::l,b::r,h=>by rw[zip_cons_cons,xM,qxj (oS h)]
def fK.spread(h:fK D)(J:qa D.size numbers y6): ∃D',jc D numbers y6=(D',0)/\fK D'/\D'.size=D.size/\D'.Q7=[]/\t7 D' numbers y6/\∀m,0<=m->m∉y6->view D' m=view D m:=by
 have V:((y6.zip (jC numbers y6 y6.length)).map λx=>(x.1,gd x.1 2 x.2)).map (·.1)=y6:=(by rw[map_map];exact qxj (by rw[qnk]));obtain⟨D1,e1,q1,s1,v1,u1⟩:=h.writes (l:=(y6.zip (jC numbers y6 y6.length)).map λx=>(x.1,gd x.1 2 x.2)) (λx hx=>by
  obtain⟨y,hy,rfl⟩:=mem_map.1 hx;obtain⟨i,h1,E⟩:=qnF hy;rw[qpi] at E;have G:=J.xe _ (yF h1);refine⟨⟨by show 0<=y.1;omega,G.2⟩,E5 ?_⟩;by_cases O:i<y6.length;rw[iP O] at E;have E:=yO E;rw[<- E,FM];have:=Kc numbers i;omega;rw[iN O] at E;cases E) (by rw[V];exact J.nodup)
 rw[V] at u1;obtain⟨D2,e2,q2,s2,w2,v2⟩:=q1.sync;refine⟨D2,?_,q2,s2.trans s1,w2,λi p G=>?_,λm hm U=>by rw[v2 m hm,u1 m U]⟩;rw[jc,J.y9,iN oN];show andThen _ _=_;rw[e1];exact e2;have O:=(zP.1 G).1;have I:(p,gd p 2 (k9 (y6.getD (i+1) 0) (chunk numbers i)))∈(y6.zip (jC numbers y6 y6.length)).map λx=>(x.1,gd x.1 2 x.2):=by refine mem_map.2 ⟨(p,k9 (y6.getD (i+1) 0) (chunk numbers i)),?_,rfl⟩;refine yF (i:=i) ?_;rw[List.getElem?_zip_eq_some];exact⟨G,by rw[qpi,iP O]⟩
 have al:=J.xe _ (yF G);rw[v2 p oL];exact v1 _ I
def qnw(numbers:Ml):∀k,(List.range k).flatMap (chunk numbers)=numbers.take (123*k)
 | 0=>by simp
 | k+1=>by rw[range_succ,yQ,qnw numbers k,flatMap_singleton,chunk,Nat.mul_succ,<- xD (123*k) (numbers.take (123*k+123))];congr 1;rw[take_take,xP oL];rw[drop_take,vA]
def qxi{D:dQ}{numbers y6:Ml}{n:Int}(hd:D.down=false)(hs:D.size=n)(hn:n<=4096)(O:qa n numbers y6)(hl:t7 D numbers y6): ∀(k i f:Nat),i+k=y6.length->k<f->o9 D n f (y6.getD i 0) (y6.take i) ((List.range i).flatMap (chunk numbers))=some (y6,numbers)
 | 0,i,f+1,hi,hf=>by have:y6.getD i 0=0:=(by rw[yR,yS oL];rfl);have hr:=O.room;have ac:i=y6.length:=oL;subst ac;rw[this,o9,iP rfl,qnw,xY,zS hr]
 | k+1,i,f+1,hi,hf=>by
  have E:i<y6.length:=oL;have hp:y6.getD i 0=y6[i]:=(by rw[yR,zA E];rfl);have hr:=O.xe _ (zW E);have V:y6[i]∉y6.take i:=λhm=>by
   obtain⟨j,hj,he⟩:=getElem_of_mem hm;rw[getElem_take] at he;rw[yL] at hj;have:=pairwise_iff_getElem.1 O.nodup j i oL E oL;exact this he
  have hv:=hl i _ (zA E);have G:=JT hd (n:=y6[i]) (by rw[hs];omega);rw[hv] at G;have ad:=Kc numbers i;have U:=qnO (number:=y6[i]) (kind:=2) (body:=k9 (y6.getD (i+1) 0) (chunk numbers i)) oL (by rw[FM];omega);have aa:∀x∈chunk numbers i,x∈numbers:=λx hx=>yU (yV hx);have I:jf (y6.getD (i+1) 0)/\y6.getD (i+1) 0≠1:=by
   rw[yR];cases h:y6[i+1]? with
   | none=>exact⟨⟨oO,oO⟩,oO⟩
   | some p=>
    have:=O.xe p (yF h);constructor;constructor<;>(simp;omega);simp;omega
  have J:=quY I.1 I.2 (c:=chunk numbers i) (λx hx=>by have:=O.qy x (aa x hx);constructor<;>omega)
   ((Jd _ _).2 ⟨λx hx=>by have:=O.qy x (aa x hx);omega,O.cZ.sublist ((take_sublist _ _).trans (drop_sublist _ _))⟩) ad
  rw[hp,o9,iN,iN (by intro h;rcases h with h|h|h;omega;omega;exact V h),G,U,iN oN,iN oN,J,iN oN];have:=qxi hd hs hn O hl k (i+1) f oL oL;rw[yG E,range_succ,yQ,flatMap_singleton] at this;exact this
def La(n:Int)(h:Ml):∀(l:Ml) (a:Int),mU n h a l=true↔(∀x∈l,a<x/\x<n/\x∉h)/\l.Pairwise (· < ·)
 | [],a=>by simp[mU]
 | x::l,a=>by
  rw[mU,yB,La n h l x,yJ];simp only[zT,L6,L7,Int.not_le,Int.not_lt,ge_iff_le];constructor;rintro⟨⟨⟨G,I⟩,J⟩,O,U⟩;refine⟨λy E=>?_,λy E=>(O y E).1,U⟩;rcases zG.1 E with rfl|E;exact⟨G,I,J⟩;have:=O y E;exact⟨oL,this.2⟩;rintro⟨G,I,J⟩;have:=G x oN;exact⟨⟨⟨this.1,this.2.1⟩,this.2.2⟩,λy E=>⟨I y E,(G y (zN _ E)).2⟩,J⟩
def KY:∀(n:Nat) (l:Mk),l.Nodup->(∀x∈l,x<n)->l.length<=n
 | 0,l,_,h=>by cases l with|nil=>simp|cons a l=>exact absurd (h a oN) oL
 | n+1,l,G,h=>by
  by_cases hm:n∈l;have J:=KY n (l.erase n) (G.erase n) (λx E=>by
   have I:=(G.mem_erase_iff).1 E;have:=h x I.2;omega)
  have:=length_erase_of_mem hm;omega;have:=KY n l G (λx E=>by
   have:=h x E;have:x≠n:=λe=>hm (e▸E);omega)
  omega
def FS(I:l.Nodup)(h:∀x∈l,2<=x/\x<n):(l.length:Int)<=n-2\/l=[]:=by
 by_cases h0:l=[];exact .inr h0;left;obtain⟨a,J⟩:=exists_mem_of_ne_nil l h0;have U:=h a J;have:=KY (n-2).toNat (l.map λx=>(x-2).toNat) (by
  refine pairwise_map.2 (I.imp_of_mem λ{x y} E G O=>?_);have:=h x E;have:=h y G;omega) (λx E=>by
  obtain⟨y,G,rfl⟩:=mem_map.1 E;have:=h y G;omega)
 rw[zK] at this;omega
structure rY (D:dQ) (s:rH) (y6 numbers:Ml):Prop where
 down:D.down=false
 size:8<=D.size/\D.size<=4096
 yz:i7 (view D 0) (view D 1)=(s,0)
 blocks:s.2.getD 0 0=D.size
 list:s.2.getD 1 0=y6.headD 0
 Q1:s.2.getD 2 0=numbers.length
 ok:qa D.size numbers y6
 listed:t7 D numbers y6
def rY.load(h:rY D s y6 numbers):rx D s=some (y6,numbers):=by
 have I:o9 D D.size (D.size.toNat+1) (y6.headD 0) [] []=some (y6,numbers):=by
  have:=qxi h.down rfl h.size.2 h.ok h.listed y6.length 0 (D.size.toNat+1) oL (by
   have:=FS h.ok.nodup h.ok.xe;rcases this with G|G;omega;rw[G];simp)
  have e:y6.headD 0=y6.getD 0 0:=(by cases y6<;>rfl);rw[e];exact this
 rw[rx,h.blocks,h.list,I];dsimp only;rw[if_pos];exact⟨(La _ _ _ _).2 ⟨λx E=>⟨by have:=h.ok.qy x E;omega,(h.ok.qy x E).2,λJ=>h.ok.J3 x J E⟩,h.ok.cZ⟩,h.Q1.symm⟩
def rY.open(h:rY D s y6 numbers):pJ D=(some (mg s y6 numbers 1 false numbers),0):=by have E:=JT h.down (n:=0) ⟨oO,by have:=h.size;omega⟩;have r1:=JT h.down (n:=1) ⟨oO,by have:=h.size;omega⟩;have G:s.2.getD 0 0=(D.Q6.length:Int):=h.blocks;rw[pJ,E,r1,h.yz,iN oN,iN oN,iN oN,iN (by rw[G];simp),h.load]
variable {s E:Sl} {dbk:Nat} {FD:Mk}
def yd{α:Type}{enc:α->List Me}{l:List α}{tx e':Mf}(h:eT enc k S w s l)(E:∀x,(enc x).length=k)(G:∀x,∀u∈enc x,u.oneCell'=true)(J:P.underlying tx=some (.slice e')): Src P k tx s.v s.len (l.flatMap enc) w:=by
 obtain⟨a,len,cap⟩:=s;have I:=h.1;simp only at I;cases a with
 | none=>
  have:l=[]:=by rcases h.2.2 with h|⟨b,o,cs,T,fr,O,_⟩;exact h;cases O
  subst this;simp at I;subst I;exact .ofNil w J cap
 | some a=>
  refine .ofSlice w J a len cap _ (by rw[uX E,I]) (h.cells E rfl) λu U=>?_;obtain⟨x,_,V⟩:=yK.1 U;exact G x u V
def qEF{src:Sl}{ys:Ml}{K:Sl->WP}(h:tW w s l B)(O:Rd S w src ys)(hl:l.length+ys.length<=1000000)(V:∀G B' w',tW w' G (l++ys) B'->Fr B w w'->(∀b∈B',b∈B\/w.z<=b)->K G w'): Pt.run di ((Builtin.append_ #[117,117] 117 #[s.v,src.v]).run prog w) K:=by obtain⟨i,hi,hz,I,J⟩:=Cb;have E:=O.1;refine eZ.j2 h wR oM hi hz I rfl (yd (e':=35) O wR (λx u U=>by simp at U;subst U;rfl) oM) E (by rw[J];omega) oL λG B' w' b' f' n' _=>V G B' w' b' f' n'
def BL(h:D.Ok)(n:Int):fj (eW D n).1/\(eW D n).1.length<=512:=by
 have O:=fj.zs 512;unfold eW;split;exact⟨(λx G=>by cases G),oN⟩;split;exact⟨(λx G=>by cases G),oN⟩;split;rename_i b U;refine⟨?_,Nat.le_of_eq b.2⟩;have:∀l:List (Int×oi),(∀x∈l,fj x.2.1)->kx n l=some b->fj b.1:=by
  intro l;induction l with
  | nil=>intro _ h;cases h
  | cons x l ih=>
   intro J E;rw[kx] at E;cases I:kx n l with
   | some c=>rw[I] at E;exact ih (λy V=>J y (zN _ V)) (by rw[I];exact E)
   | none=>
    rw[I] at E;dsimp only at E;split at E;cases E;exact J x oN;cases E
 exact this _ h.qQ U;refine⟨?_,Nat.le_of_eq (D.Q6.getD n.toNat .zero).2⟩;rw[yR];cases he:D.Q6[n.toNat]? with|none=>exact O|some b=>exact h.qS b (yF he)
def qss(h:fj l)(n:Int):fj (fX n l).2.1/\(fX n l).2.1.length<=l.length:=by
 have E:fj ([]:Ml):=λx G=>by cases G
 unfold fX;split;exact⟨E,oN⟩;split;exact⟨E,oN⟩;split;exact⟨E,oN⟩;split;exact⟨E,oN⟩;split;exact⟨E,oN⟩;refine⟨(h.take _).drop _,?_⟩;rw[yC,yL];omega
abbrev MIT:Mf:=295
def qEZ:prog.underlying MIT=some (.map 35 3):=by kernel_rfl
def qFV:∀w,(zeroValue 3).run prog w=.ok (.i 0) w:=λw=>by kernel_rfl
def nu (l:Ml):List (Int×Me):=l.map λn=>(n,.i 1)
def Lp(n:Int):∀l:Ml,(n∈l->∃i,look n (nu l)=some (i,.i 1))/\(n∉l->look n (nu l)=none)
 | []=>⟨(λh=>by cases h),λ_=>rfl⟩
 | a::l=>by
  obtain⟨J,O⟩:=Lp n l;simp only[nu,xM,look];by_cases h:n=a;rw[iP h];exact⟨λ_=>⟨0,rfl⟩,λU=>absurd (by rw[h];simp) U⟩;rw[iN h];refine⟨λE=>?_,λE=>?_⟩;rcases zG.1 E with e|E;exact absurd e h;obtain⟨i,I⟩:=J E;unfold nu at I;exact⟨i+1,by rw[I];rfl⟩;have:=O (λG=>E (zN _ G));unfold nu at this;rw[this];rfl
def quB{r:Nat}{E:Ml}{K:Int->Prop}(h:kM lZ w r (nu E))(k:∀x:Int,decide (x>0)=decide (n∈E)->K x): eO [jV.one .i] (λw'=>(Instr.lookup MIT (.map (some r)) (.u n) false).run prog w') w K:=by
 have:=H8 qEZ qFV A4 h.at n;rw[Dp] at this;obtain⟨G,I⟩:=Lp n E;by_cases hn:n∈E;obtain⟨i,J⟩:=G hn;rw[J] at this;exact tf (1:Int) this (k 1 (by simp[hn]));rw[I hn] at this;exact tf (0:Int) this (k 0 (by simp[hn]))
def qAD(G:j9.2.length=27):d7 (gN db j9 sl sn x6 Q3 wk) 29 [E.v]=gN db j9 E sn x6 Q3 wk:=by
 have h:=vv (db:=db) G;have:=wM (A:=(Value.pointer db::gh j9.1 j9.2)) (X:=[sl.v]) (Y:=[E.v]) (Z:=sn.v::.i x6::.bool Q3::wk) rfl;rw[h] at this;simpa[gN] using this
def qAE(G:j9.2.length=27):d7 (gN db j9 sl sn x6 Q3 wk) 30 [E.v]=gN db j9 sl E x6 Q3 wk:=by
 have h:((Value.pointer db::gh j9.1 j9.2)++([sl.v]:List Me)).length=30:=by rw[zF,vv G];rfl
 have:=wM (A:=(Value.pointer db::gh j9.1 j9.2)++([sl.v]:List Me)) (X:=[sn.v]) (Y:=[E.v]) (Z:=.i x6::.bool Q3::wk) rfl;rw[h] at this;simpa[gN] using this
def qk5:jf (gw l):=by unfold gw rC;exact Hj _ _ _
def qym(l:Ml):jf (jo l).1:=by unfold jo;split;constructor<;>decide;split;constructor<;>decide;split;exact qk5;constructor<;>decide
def qyn(l:Ml):(jo l).2.1.length<=123:=by unfold jo;split;simp;split;simp;rename_i h;split;simp only[mj,zK,length_range];omega;simp
structure IZ (w:Md) (FD:Mk) (pb r:Nat) (db:Option Addr) (j9:rH) (x6:Int) (Q3:Bool) (wk:List Me) (a:Int) (Q5 Q9:Ml) (w':Md) (sl sn:Sl) (B1 B2:Mk):Prop where
 own:dY [pb] w w' [(pb,.c (gN db j9 sl sn x6 Q3 wk) v6)]
 b1:tW w' sl Q5 B1
 b2:tW w' sn Q9 B2
 map:kM lZ w' r (nu Q5)
 n1:∀ b∈B1,w.z<=b/\b≠r/\b∉B2
 n2:∀ b∈B2,w.z<=b/\b≠r
 nr:w.z<=r
 at_:jf a
 nodup:Q5.Nodup
 range:∀ x∈Q5,2<=x/\x<j9.2.getD 0 0
 len:Q9.length<=123*Q5.length
def qBw{K:Bool->WP}(hc:w.heap[pb]?=some (.c (gN (pW dbk) j9 dN dN x6 Q3 wk) v6))(V:j9.2.length=27)(hw:wk.length=27)(hd:fO w dbk FD D)(hD:D.Ok)(hv:Hv w)(ba:pb∉FD)(bc:pb≠HG)(bR:j9.2.getD 0 0<=4096)(bd:jf (j9.2.getD 1 0))(bS:jf (j9.2.getD 2 0))(ab:rx D j9=none->∀w',Fr [pb] w w'->K false w')(hk:∀sl sn E Q9 w',rx D j9=some (E,Q9)->dY [pb] w w' [(pb,.c (gN (pW dbk) j9 sl sn x6 Q3 wk) v6)]->(∀G:Mk,(∀b∈G,b<w.z)->Rd G w' sl E/\Rd G w' sn Q9)->K true w'): cW 131 [dM pb] dk w K:=by
 have bG:=gg hc;have ho:dY [pb] w w [(pb,.c (gN (pW dbk) j9 dN dN x6 Q3 wk) v6)]:=⟨by simpa using hc,oN,.refl _ _,oN⟩;refine qkB<|oD ho λr w1 e1 f1 ae=>?_;have ap:kM lZ w1 r (nu []):=.empty (ae.at (i:=0) rfl);have ae:=ae.sub (L':=[(pb,_)]) (List.Sublist.cons _ (List.Sublist.refl _));refine fH (oB ae 0 rfl (j9.2.getD 1 0) (GL V 1 oO) ?_);have aH:∀ {w':Md},Fr [pb] w w'->fO w' dbk FD D:=λf=>hd.j0 f λb J=>by simp only[zE];rintro rfl;exact ba J
 have half:∀ {w':Md},Fr [pb] w w'->Hv w':=λf=>hv.j0 f (by simpa using λe=>bc e.symm);generalize bf:(j9.2.getD 0 0).toNat+1=F0;have O:rx D j9=match o9 D (j9.2.getD 0 0) F0 (j9.2.getD 1 0) [] [] with|none=>none|some x=>if mU (j9.2.getD 0 0) x.1 0 x.2=true/\(x.2.length:Int)=j9.2.getD 2 0 then some x else none:=by rw[<- bf];rfl
 refine lD (λa w'=>∃E Q9 sl sn B1 B2 f,IZ w FD pb r (pW dbk) j9 x6 Q3 wk a E Q9 w' sl sn B1 B2/\f+E.length=F0/\o9 D (j9.2.getD 0 0) f a E Q9=o9 D (j9.2.getD 0 0) F0 (j9.2.getD 1 0) [] [])
  (λa w'=>match w'.heap[r]? with|some (.map es _)=>F0-es.size|_=>0) ⟨[],[],dN,dN,[],[],F0,⟨ae,.nil _ _ _,.nil _ _ _,ap,oN,oN,by rw[e1];exact zM _,bd,.nil,oN,oN⟩,rfl,rfl⟩ ?_
 rintro a w2 ⟨E,Q9,sl,sn,B1,B2,f,H,hf,I⟩ X hX;have bI:E.length<F0:=by rcases FS H.nodup H.range with h|h;omega;rw[h];simp;omega
 obtain⟨f,rfl⟩:∃g,f=g+1:=⟨f-1,oL⟩;have aI:=H.own.fr;apply eF<;>intro aq;have ar:a≠0:=(oS aq);rw[o9,iN ar] at I;refine jd (λb w'=>b=decide (a<2\/a>=j9.2.getD 0 0\/a∈E)/\w'=w2) ?_ ?_;refine eF (λh=>⟨by rw[yA (Or.inl (zC h))],rfl⟩) λh=>?_;have h1:=zB h;refine fH (oB H.own 0 rfl (j9.2.getD 0 0) (GL V 0 oO) ?_);refine eF (λh=>⟨by rw[yA (Or.inr (Or.inl (zC h)))],rfl⟩) λh=>?_;have h2:=zB h;refine quB H.map λx hx=>⟨?_,rfl⟩;rw[hx];refine decide_eq_decide.2 ⟨λh=>.inr (.inr h),λh=>?_⟩;rcases h with h|h|h;exact absurd h h1;exact absurd h h2;exact h;rintro b w3 ⟨rfl,rfl⟩;apply eF<;>intro h;have h:=zC h;rw[iP h] at I;exact ab (by rw[O,<- I]) w3 aI;have aj:=zB h;rw[iN aj] at I;have bh:2<=a:=oL;have bi:a<j9.2.getD 0 0:=oL;have aJ:a∉E:=λh=>aj (.inr (.inr h));obtain⟨o,hr,hm⟩:=Kt qEZ H.map a;refine HP _ hr ?_;have au:iU a (.i 1) (nu E)=nu (E++[a]):=by rw[iU,(Lp a E).2 aJ];simp[nu]
 rw[au] at hm;have aK:=H.map.lt;have fm:=CR aK o;have aL:r≠pb:=(by have:=H.nr;omega);have ah:=H.own.j0 fm (λb J=>by simp only[zE] at J;subst J;exact .inr H.nr) (λp hp=>by simp at hp;subst hp;simpa using λe=>aL e.symm);have av:=H.b1.j0 fm (λb J=>by simpa using (H.n1 b J).2.1);have aM:=H.b2.j0 fm (λb J=>by simpa using (H.n2 b J).2);generalize jA w3 r o=w4 at hm fm ah av aM;refine fH (oB ah 0 rfl (pW dbk) qFE ?_);rw[gJ a oL];refine Hk (aH ah.fr) hD λs5 B5 w5 b5 f5 n5=>?_;have aw:=ah.q9 f5;apply eF<;>intro h;have h:(eW D a).2≠0:=(oS h);rw[iP h] at I;exact ab (by rw[O,<- I]) w5 aw.fr;have h:¬(eW D a).2≠0:=(oS h);rw[iN h] at I;refine KV (b5.ju mW (S:=[]) oN) (half aw.fr) (BL hD a).1 (by have:=(BL hD a).2;omega) λs6 B6 w6 b6 f6 n6=>?_;have aN:=aw.q9 f6;refine jd (λb w'=>b=decide ((fX a (eW D a).1).2.2≠0\/(fX a (eW D a).1).1≠2)/\w'=w6) ?_ ?_;apply eF<;>intro h;have h:(fX a (eW D a).1).2.2≠0:=(oS h);exact⟨by rw[yA (Or.inl h)],rfl⟩;have h:(fX a (eW D a).1).2.2=0:=(oS h);refine⟨?_,rfl⟩;by_cases h2:(fX a (eW D a).1).1=2<;>simp[h,h2];rintro b bl ⟨rfl,rfl⟩;apply eF<;>intro h;have h:=zC h;rw[iP h] at I;exact ab (by rw[O,<- I]) bl aN.fr;have h:=zB h;rw[iN h] at I;have aO:=qss (BL hD a).1 a;refine qyZ (b6.ju mW (S:=[]) oN) aO.1 (by have:=aO.2;have:=(BL hD a).2;omega) λs7 B7 w7 b7 f7 n7=>?_;have aP:=aN.q9 f7;apply eF<;>intro h;have h:(jo (fX a (eW D a).1).2.1).2.2≠0:=(oS h);rw[iP h] at I;exact ab (by rw[O,<- I]) w7 aP.fr;have h:¬(jo (fX a (eW D a).1).2.1).2.2≠0:=(oS h);rw[iN h] at I;have bm:=qyn (fX a (eW D a).1).2.1;have aQ:=qym (fX a (eW D a).1).2.1;generalize jo (fX a (eW D a).1).2.1=pv at I b7 bm aQ;have bn:=(f5.trans f6).trans f7;have bo:=H.len;have U:=aP.drew;have ag:=bn.drew;have aR:=av.q9 ag;have ax:=aM.q9 ag;have aT:=hm.j0 ag oN;have aU:=b7.q9 ((Fr.refl [] w7).drew);have l7:∀b∈B7,w4.z<=b:=λb J=>zL (f5.trans f6).size (n7 b J);have cd:=hm.lt;generalize w7.drew=wd at U ag aR ax aT aU;refine fH (oB U 0 rfl sl (A1 V 0 oO) ?_);refine fH (oB U 0 rfl sn (A1 V 1 oO) ?_);refine oD U λrn w8 e8 f8 ai=>jU (ai.cell 1 rfl (A1 V 1 oO)) (ai.cell 1 rfl (A1 V 0 oO)) ?_;have aW:Rd [] w8 ⟨pW rn,1,1⟩ [a]:=by
  refine⟨rfl,zM _,.inr ⟨rn,0,_,_,_,rfl,ai.at (i:=0) rfl,oN,λi x hx=>?_⟩⟩;match i with|0=>simp at hx;subst hx;rfl|i+1=>simp at hx
 refine qEF (src:=⟨pW rn,1,1⟩) (aR.q9 f8) aW oQ λs9 B9 w9 b9 f9 n9=>?_;have bs:∀b∈B2,b<wd.z:=λb J=>ax.lt b J;have bt:=f8.size;have cg:=ag.size;have aY:=(ai.sub (L':=[(pb,_)]) (List.Sublist.cons _ (List.Sublist.refl _))).j0 f9 (λb J=>.inr (H.n1 b J).1) (λp hp J=>by simp at hp;subst hp;have:=(H.n1 _ J).1;dsimp only at this;omega);refine gY (aY.cell 0 rfl (A1 V 1 oO)) ?_;have bu:=(ax.q9 f8).j0 f9 λb J ay=>(H.n1 b ay).2.2 J;have bv:Rd [] w9 s7 pv.2.1:=((aU.q9 f8).j0 f9 λb J ay=>by have:=l7 b J;have:=av.lt b ay;omega).ju wR oN;refine qEF bu bv oL λaZ az ch bx aA a0=>?_;have bN:=zL bt f9.size;have a1:=aY.j0 aA (λb J=>.inr (H.n2 b J).1) (λp hp J=>by simp at hp;subst hp;have:=(H.n2 _ J).1;dsimp only at this;omega);have ad:∀b∈B9,w.z<=b/\b≠r/\b∉B2/\b<w9.z:=λb J=>by refine⟨?_,?_,?_,b9.lt b J⟩;rcases n9 b J with h|h;exact (H.n1 b h).1;omega;rcases n9 b J with h|h;exact (H.n1 b h).2.1;omega;rcases n9 b J with h|h;exact (H.n1 b h).2.2;intro h2;have:=bs b h2;omega
 have al:∀b∈az,w.z<=b/\b≠r:=λb J=>by rcases a0 b J with h|h;exact H.n2 b h;constructor<;>omega
 have a2:=b9.j0 aA λb J h2=>(ad b J).2.2.1 h2;have bz:∀b∈B9,b∉az:=λb J bA=>by
  rcases a0 b bA with h|h;exact (ad b J).2.2.1 h;have:=(ad b J).2.2.2;omega
 refine fH (oI a1 0 rfl (gN (pW dbk) j9 s9 sn x6 Q3 wk) (qAD V) rfl (by rw[HU V,hw];exact zO rfl) λci a3 bB=>?_);refine fH (oI a3 0 rfl (gN (pW dbk) j9 s9 aZ x6 Q3 wk) (qAE V) rfl (by rw[HU V,hw];exact zO rfl) λcj a4 bC=>?_);have aa:=bB.trans bC;have aB:∀b,w.z<=b->b∉[pb]:=λb J=>by simp;omega
 have an:=(((aT.j0 f8 oN).j0 f9 λh=>(H.n1 r h).2.1 rfl).j0 aA λh=>(H.n2 r h).2 rfl).j0 aa (aB r H.nr);refine hX _ _ ⟨E++[a],Q9++pv.2.1,s9,aZ,B9,az,f,⟨a4,a2.j0 aa λb J=>aB b (ad b J).1,bx.j0 aa λb J=>aB b (al b J).1,an,λb J=>⟨(ad b J).1,(ad b J).2.1,bz b J⟩,al,H.nr,aQ,?_,?_,?_⟩,?_,I⟩ ?_;rw[yM];exact⟨H.nodup,oN,λx hx y hy=>by simp at hy;subst hy;exact λe=>aJ (e▸hx)⟩;intro x hx;rcases zD.1 hx with h|h;exact H.range x h;simp at h;subst h;exact⟨bh,bi⟩;rw[zF,zF];have:[a].length=1:=rfl;omega;rw[zF];have:[a].length=1:=rfl;omega;have key:∀ {w':Md} {l:Ml},kM lZ w' r (nu l)->(match w'.heap[r]? with|some (.map es _)=>F0-es.size|_=>0)=F0-l.length:=by
  rintro w' l ⟨es,c,h1,h2,_⟩;rw[h1];have:=Ma List.length h2;simp[nu] at this;simp[this]
 rw[key an,key H.map,zF];have:[a].length=1:=rfl;omega;have ar:a=0:=(oS aq);subst ar;rw[o9,iP rfl] at I;rw[<- I] at O;dsimp only at O;refine fH (oB H.own 0 rfl sn (A1 V 1 oO) ?_);have rn:Rd [] w2 sn Q9:=H.b2.ju wR oN;have ck:=rn.1;have bo:=H.len;refine lD (λx w'=>w'=w2/\∃i:Nat,x.2=i/\i<=Q9.length/\mU (j9.2.getD 0 0) E x.1 (Q9.drop i)=mU (j9.2.getD 0 0) E 0 Q9) (λx _=>((Q9.length:Int)-x.2).toNat) ⟨rfl,0,rfl,oL,rfl⟩ ?_;rintro⟨a5,ii⟩ w' ⟨rfl,i,bD,hi,hn⟩ Z hZ;subst bD;apply cD<;>intro hc;have a6:i<Q9.length:=(by have:=hc;dsimp only at this;omega);refine Rd.at rn i rfl (zA a6) ?_;rw[zX a6,mU] at hn;refine jd (λb w3=>b=(decide (Q9[i]<=a5)||decide (Q9[i]>=j9.2.getD 0 0)||decide (Q9[i]∈E))/\w3=w') ?_ ?_;refine eF (λh=>⟨by rw[h];rfl,rfl⟩) λh=>fH (oB H.own 0 rfl (j9.2.getD 0 0) (GL V 0 oO) ?_);refine eF (λh2=>⟨by rw[h,h2];rfl,rfl⟩) λh2=>quB H.map λx hx=>⟨?_,rfl⟩;rw[hx,h,h2];rfl;rintro b w3 ⟨rfl,rfl⟩;apply eF<;>intro h;rw[h] at hn;refine ab ?_ w3 aI;rw[O,if_neg];rw[<- hn];simp;rw[h] at hn;rw[gJ _ oP];exact hZ _ _ ⟨rfl,i+1,oN,oL,by simpa using hn⟩ oP;have:i=Q9.length:=(by have:=hc;dsimp only at this;omega);subst this;rw[drop_length] at hn;have bE:=hn.symm;have U:=H.own.drew;refine fH (oB U 0 rfl sn (A1 V 1 oO) ?_);refine fH (oB U 0 rfl (j9.2.getD 2 0) (GL V 2 oO) ?_);rw[gJ _ oL];by_cases hfree:(Q9.length:Int)=j9.2.getD 2 0;rw[iP ⟨bE,hfree⟩] at O;have e:((sn.len:Int)==j9.2.getD 2 0)=true:=(by rw[yP];omega);rw[e];refine hk sl sn E Q9 _ O U λG hG=>?_;have ao:∀b,w.z<=b->b∉G:=λb J h=>by have:=hG b h;omega
 exact⟨(H.b1.q9 ((Fr.refl [] w').drew)).ju wR λb J=>ao b (H.n1 b J).1,(H.b2.q9 ((Fr.refl [] w').drew)).ju wR λb J=>ao b (H.n2 b J).1⟩;have e:((sn.len:Int)==j9.2.getD 2 0)=false:=(by rw[zR];omega);rw[e];exact ab (by rw[O,iN λh=>hfree h.2]) _ U.fr
def qnm(h:eY S w s l):(Extern.Bytes.bytesOf (.slice s.a s.len s.cap)).run prog w=.ok ⟨(Lib.bytesOf l).toArray⟩ w:=by
 have hlen:=h.1;cases ha:s.a with
 | none=>
  have hl0:l=[]:=by rcases h.2.2 with h3|⟨b,o,cs,T,fr,ha',_⟩;exact h3;rw[ha] at ha';cases ha'
  subst hl0;rfl
 | some a=>
  have hc:=h.cells mW ha;have:=Lib.run_loadBytesX (P:=prog) w l a .empty (λj x hj=>hc j (.int .u8 x) (by rw[u4,zQ,hj];rfl));rw[hlen];show (Extern.Bytes.loadBytes a l.length .empty).run prog w=_;rw[this];have e:(#[]:Array UInt8)++(Lib.bytesOf l).toArray=(Lib.bytesOf l).toArray:=oN;exact Ma (λd=>Result.ok (ByteArray.mk d) w) e
def qgC:∀ {a b:Ml},fj a->fj b->Lib.compareBytes (Lib.bytesOf a) (Lib.bytesOf b)=cmpL a b
 | [],[],_,_=>rfl
 | [],y::b,_,_=>rfl
 | x::a,[],_,_=>rfl
 | x::a,y::b,J,O=>by
  have E:=J x oN;have G:=O y oN;have ih:=qgC (λz I=>J z (zN _ I)) λz I=>O z (zN _ I);have e:∀ {u v:Int},(0<=u/\u<256)->(0<=v/\v<256)->(u.toNat.toUInt8<v.toNat.toUInt8↔u<v):=λ{u v} U V=>by rw[UInt8.lt_iff_toNat_lt];simp;omega
  show (if x.toNat.toUInt8<y.toNat.toUInt8 then (-1:Int) else if y.toNat.toUInt8<x.toNat.toUInt8 then 1 else Lib.compareBytes (Lib.bytesOf a) (Lib.bytesOf b))=cmpL (x::a) (y::b);rw[cmpL,ih];by_cases h1:x<y;rw[iP ((e E G).2 h1),iP h1];rw[iN λh=>h1 ((e E G).1 h),iN h1];by_cases h2:y<x;rw[iP ((e G E).2 h2),iP h2];rw[iN λh=>h2 ((e G E).1 h),iN h2]
def qvK(h:eY S w s l)(I:eY S' w E l')(J:fj l)(G:fj l'): (Extern.BytealgCompare.compare #[s.v,E.v]).run prog w=.ok (.i (cmpL l l')) w:=by show Sem.run prog (do pure (goInt (Extern.BytealgCompare.cmp (<- Extern.Bytes.bytesOf s.v) (<- Extern.Bytes.bytesOf E.v)))) w=_;have e:=qgC J G;simp only[LS,qnm h,LU,qnm I,Lib.cmp_eq];rw[e];rfl
def Hx{G:Sl}(h:eY S w s l)(I:eY S' w G l')(J:fj l)(E:fj l')(O:K (cmpL l l') w): cW 81 [s.v,G.v] dj w K:=by exact qx9<|qoh<|CE Tryz.func198 oM oM oM oM (cmpL l l') w (qvK h I J E) O
def ir (s:Sl):List Me:=[s.v]
def AZ(s:Sl):(ir s).length=1:=rfl
def qzH(s:Sl):∀u∈ir s,u.oneCell'=true:=λu h=>by rw[zE.1 h];rfl
abbrev sP:=List (Sl×Key)
abbrev jG (ps:sP):List Sl:=ps.map (·.1)
abbrev io (ps:sP):List Key:=ps.map (·.2)
def lf (S:Mk) (w:Md) (s:Sl) (ps:sP):Prop:=eT ir 1 S w s (jG ps)/\∀p∈ps,eY S w p.1 p.2
variable {ps:sP}
def lf.j0(h:lf S w s ps)(f:Fr S w w')(E:∀b∈S',b∈S\/w.z<=b):lf S' w' s ps:=⟨h.1.j0 f E,λp G=>(h.2 p G).j0 f E⟩
def lf.q9(h:lf S w s ps)(f:Fr [] w w'):lf S w' s ps:=⟨h.1.q9 f,λp E=>(h.2 p E).q9 f⟩
def lf.len(h:lf S w s ps):s.len=ps.length:=by rw[h.1.1,zK]
def lf.nil(S:Mk)(w:Md):lf S w dN []:=⟨.nil _ _ _ _,λp h=>nomatch h⟩
def lf.get(h:lf S w s ps)(n:Nat){i:Int}{K:Sl->Prop}(hi:i=n)(E:n<ps.length)(G:K ps[n].1):idx s i 1 λa=>ld .slice a w K:=
 eT.get h.1 n hi (x:=ps[n].1) (by rw[zQ,zA E];rfl) (y:=ps[n].1) rfl G
def andThen_ok:andThen (D,0) f=f D:=iP rfl
structure pN (s:rH):Prop where
 seq:0<=s.1/\s.1<4611686018427387904
 len:s.2.length=27
 u32:∀ x∈s.2,jf x
variable {s:rH} {p:Int} {n:Nat}
def pN.place(h:pN s):Int.tmod s.1 2=s.1%2:=Int.tmod_eq_emod_of_nonneg h.seq.1
def pN.jB(h:pN s):jB s=(s.1%2,gd (s.1%2) 1 (iJ s.1 s.2)):=by rw[Go.Proofs.YtcnddmfogfebiaaGreatDoor.jB,h.place,qj _ oL]
def pN.read(h:pN s):fS (s.1%2) (gd (s.1%2) 1 (iJ s.1 s.2))=(s,0):=by
 have:=h.seq;exact qwf (by constructor<;>omega) h.len h.u32 h.place
def pN.Ar(h:pN s)(p:Int):(gd p 1 (iJ s.1 s.2)).length=512:=E5 (by rw[Dh h.len];decide)
def fK.CU(h:fK D)(G:pN s)(hz:8<=D.size): ∃D',rU D s=(D',0)/\fK D'/\D'.size=D.size/\D'.Q7=[]/\view D' (s.1%2)=gd (s.1%2) 1 (iJ s.1 s.2)/\∀m,0<=m->m≠s.1%2->view D' m=view D m:=by obtain⟨D1,e1,O,s1,I⟩:=h.write (n:=s.1%2) oL (G.Ar _);obtain⟨U,V,q2,s2,w2,J⟩:=O.sync;refine⟨U,?_,q2,s2.trans s1,w2,by rw[J _ oL,I,iP rfl],λm hm E=>by rw[J m hm,I,iN E]⟩;rw[rU,G.jB];show andThen (fN D (s.1%2) _) i9=_;rw[e1];exact V
def qwg:(fS p (zs 512)).2≠0:=by have E:(fX p (zs 512)).1=0:=(by unfold fX;split<;>(try rfl);split<;>(try rfl);split<;>(try rfl);split<;>(try rfl);split<;>rfl);unfold fS;generalize fX p (zs 512)=o at E⊢;by_cases h:o.2.2≠0;rw[iP h];exact h;have G:o.1≠1\/o.2.1.length≠116:=.inl (by rw[E];decide);rw[iN h,iP G];exact (by decide:(2:Int)≠0)
def qwy(h:i<n-2):(gy n)[i]?=some ((i:Int)+2):=by rw[gy,zQ,List.getElem?_range h];rfl
def HR(n:Nat):(gy n).length=n-2:=by simp[gy]
def GV:x∈gy n↔2<=x/\x<n:=by rw[gy,mem_map];constructor;rintro⟨i,h,rfl⟩;rw[mem_range] at h;omega;rintro⟨E,G⟩;exact⟨(x-2).toNat,by rw[mem_range];omega,oL⟩
def Lg(n:Nat):(gy n).Pairwise (· < ·):=by rw[gy,pairwise_map];exact pairwise_lt_range.imp (λh=>oL)
def qpT:n<=124*gM n:=by
 unfold gM;split;omega;have:=Nat.mod_lt (n-1) (show 0<124 by decide);omega
def K5:gM n<=n:=by unfold gM;split;omega;omega
def qpG:qa n ((gy n).drop (gM (gy n).length)) ((gy n).take (gM (gy n).length)) where
 cZ:=(Lg n).sublist (drop_sublist _ _)
 qy:=λx E=>GV.1 (yU E)
 xe:=λx E=>GV.1 (yV E)
 nodup:=(FR (Lg n)).sublist (take_sublist _ _)
 J3:=λx E G=>by have h:=FR (Lg n);rw[<- xD (gM (gy n).length) (gy n),yM] at h;exact h.2.2 x E x G rfl
 room:=by have J:=qpT (n:=(gy n).length);have I:=K5 (n:=(gy n).length);rw[yC,yL,xP I];omega
def KM(E:8<=n)(G:n<=4096):pN (mZ n) where
 seq:=⟨(by decide:(0:Int)<=1),(by decide:(1:Int)<4611686018427387904)⟩
 len:=rfl
 u32:=λx h=>by
  simp only[mZ,zD,zG,xW,or_false] at h;rcases h with (rfl|rfl|rfl)|h;exact CH _;exact⟨oO,oO⟩;exact CH _;have:=eq_of_mem_replicate h;subst this;exact⟨oO,oO⟩
def qut(h:fK D)(hn:D.size=n)(h8:8<=n)(h4:n<=4096): ∃D',nP D=(D',0)/\fK D'/\D'.size=n/\D'.Q7=[]/\rY D' (mZ n) ((gy n).take (gM (gy n).length)) ((gy n).drop (gM (gy n).length))/\view D' 0=zs 512:=by
 obtain⟨D1,e1,q1,s1,v1⟩:=h.write (n:=0) oL (rM _);obtain⟨D2,e2,q2,s2,v2⟩:=q1.write (n:=1) oL (rM _);obtain⟨U,e3,q3,s3,w3,v3⟩:=q2.sync;have G:U.size=n:=oL;have V:U.Q6.length=n:=(by have:(U.Q6.length:Int)=n:=G;omega);have E:=qpG (n:=n);rw[<- G] at E;obtain⟨D4,e4,q4,s4,w4,l4,v4⟩:=q3.spread E;have ab:D4.size=n:=oL;have ac:D4.Q6.length=n:=(by have:(D4.Q6.length:Int)=n:=ab;omega);obtain⟨D5,e5,q5,s5,w5,p5,v5⟩:=q4.CU (KM h8 h4) oL;have I:(mZ n).1%2=1:=rfl;rw[I] at p5 v5;have J:=E.xe;have z0:view D5 0=zs 512:=by rw[v5 0 oO oO,v4 0 oO (λhm=>by have:=J 0 hm;omega),v3 0 oO,v2,iN oO,v1,iP rfl]
 refine⟨D5,?_,q5,oL,w5,?_,z0⟩;rw[nP,e1,andThen_ok,e2,andThen_ok,e3,andThen_ok,V,e4,andThen_ok,ac,e5];have aF:1<=gM (gy n).length:=by
  have:=qpT (n:=(gy n).length);rw[HR] at this⊢;omega
 refine { down:=q5.down,size:=by omega,yz:=?_,blocks:=?_,list:=?_,Q1:=?_,ok:=by rw[show D5.size=U.size by omega];exact E,listed:=λi p hp=>?_ };have hr:=(KM h8 h4).read;rw[I] at hr;rw[z0,p5,i7,hr,iN oN,iP (.inl qwg)];show wrap .u32 (n:Int)=_;rw[qj _ oL];omega;have:(gy n).take (gM (gy n).length)=2::((gy n).take (gM (gy n).length)).drop 1:=by
  have O:(gy n)[0]?=some 2:=(by rw[qwy oL];rfl);obtain⟨k,hk⟩:∃k,gM (gy n).length=k+1:=⟨gM (gy n).length-1,oL⟩;rw[hk];cases hA:gy n with
  | nil=>rw[hA] at O;cases O
  | cons a r=>rw[hA] at O;simp at O;subst O;rfl
 rw[this];rfl;show wrap .u32 _=_;have:=K5 (n:=(gy n).length);rw[yC,qj _ (by rw[HR] at *;omega)];omega;have:=J p (yF hp);rw[v5 p oL oL];exact l4 i p hp
def qyk(n:Nat):fK (qb n):=⟨rfl,rfl,λx h=>by cases h⟩
def qAn(n:Nat):(qb n).size=n:=by show ((List.replicate n oi.zero).length:Int)=n;simp
def jb (D:dQ):rH×Int:=
 if (eW D 0).2≠0 then (kB,(eW D 0).2) else if (eW D 1).2≠0 then (kB,(eW D 1).2) else i7 (eW D 0).1 (eW D 1).1
def qv5(D:dQ):(jb D).1.2.length=27:=by unfold jb;split;rfl;split;rfl;exact qnG _ _
def qxA{K:List Me×Int->WP}(h:fO w dbk FD D)(O:D.Ok)(hv:Hv w)(V:∀w',Fr [] w w'->K (gh (jb D).1.1 (jb D).1.2,(jb D).2) w'): cW 130 [dM dbk] dH w K:=by
 refine qp6<|oK (oG [] w) AQ λr w1 e1 G=>Hk (h.q9 G.fr) O λs2 B2 w2 b2 f2 n2=>?_;have G:=G.q9 f2;apply eF<;>intro E;have E:(eW D 0).2≠0:=(oS E);refine DC<|Ac G 0 rfl rfl rfl λU I=>?_
 have:=V U I;rw[jb,iP E] at this;exact this;have J:¬(eW D 0).2≠0:=(oS E);refine Hk (h.q9 G.fr) O λs3 B3 U b3 I n3=>?_;have G:=G.q9 I;apply eF<;>intro E;have E:(eW D 1).2≠0:=(oS E);refine DC<|Ac G 0 rfl rfl rfl λU I=>?_
 have:=V U I;rw[jb,iN J,iP E] at this;exact this;have aa:¬(eW D 1).2≠0:=(oS E);have i0:=BL O 0;have i1:=BL O 1;refine qxF ((b2.q9 I).ju mW oN) (b3.ju mW (S:=[]) oN) (hv.q9 G.fr) i0.1 i1.1 oL oL λw4 f4=>Ac (G.q9 f4) 0 rfl rfl (qnG _ _) λw5 f5=>?_;have:=V w5 f5;rw[jb,iN J,iN aa] at this;exact this
def quT(D:dQ):pJ D=if (jb D).2≠0 then (none,(jb D).2) else if (jb D).1.2.getD 0 0≠D.Q6.length then (none,2) else match rx D (jb D).1 with|none=>(none,2)|some x=>(some (mg (jb D).1 x.1 x.2 1 false x.2),0):=by unfold pJ jb;by_cases h0:(eW D 0).2≠0;rw[iP h0,iP h0];exact (iP h0).symm;rw[iN h0,iN h0];by_cases h1:(eW D 1).2≠0;rw[iP h1,iP h1];exact (iP h1).symm;rw[iN h1,iN h1]<;>rfl
def pgZ:(prog.info? v6).bind (·.zero)=some (.agg (gN none kB dN dN 0 false (gR none none none (zs 24)))):=by kernel_rfl
def qBV{d:Option Addr}(h:t.length=27)(w:Md): (Instr.build v6 #[(0,.pointer d),(1,.agg (gh q t).toArray)]).run prog w=.ok (.agg (gN d (q,t) dN dN 0 false (gR none none none (zs 24)))) w:=by
 refine F6 (offs:=#[(0,1),(1,28),(29,1),(30,1),(31,1),(32,1),(33,27)]) pgZ oM (λw=>oM) ?_ w;have E:(Value.agg (gh q t).toArray).cells.size=28:=I7 h;rw[ww rfl rfl (zO rfl),ww rfl E (zO rfl)];show some _=_;congr 1;have G:d7 (Value.agg (gN none kB dN dN 0 false (gR none none none (zs 24)))).cells 0 (Value.pointer d).cells.toList=gN d kB dN dN 0 false (gR none none none (zs 24)):=rfl;rw[G];have:=wM (A:=[Value.pointer d]) (X:=gh 0 (zs 27)) (Y:=gh q t) (Z:=[.slice none 0 0,.slice none 0 0,.i 0,.bool false]++gR none none none (zs 24)) (by rw[u7 h];rfl);refine Eq.trans ?_ (this.trans ?_);show d7 (gN d kB dN dN 0 false (gR none none none (zs 24))) 1 (gh q t)=_;congr 1;simp[gN]
def qqg(h:Int)(l:Ml):∀x∈(fS h l).1.2,jf x:=by
 have E:∀x∈kB.2,jf x:=λx G=>by
  have:=eq_of_mem_replicate (show x∈List.replicate 27 (0:Int) from G);subst this;exact⟨oO,oO⟩
 unfold fS;split;exact E;split;exact E;split;exact E;intro x G;obtain⟨i,_,rfl⟩:=mem_map.1 G;exact qk5
def qv6(D:dQ):∀x∈(jb D).1.2,jf x:=by
 have h:∀x∈kB.2,jf x:=λx E=>by
  have:=eq_of_mem_replicate (show x∈List.replicate 27 (0:Int) from E);subst this;exact⟨oO,oO⟩
 unfold jb;split;exact h;split;exact h;unfold i7;split;exact h;split;exact qqg _ _;exact qqg _ _
def qCc(h:∀x∈l,jf x)(n:Nat):jf (l.getD n 0):=by
 rw[yR];cases E:l[n]? with|none=>exact⟨oO,oO⟩|some x=>exact h x (yF E)
def qy9{K:Option Addr×Int->WP}(X:Mk)(av:∀b∈X,b<w.z)(h:fO w dbk FD D)(hD:D.Ok)(hv:Hv w)(an:(pJ D).1=none->∀w',Fr [] w w'->K (none,(pJ D).2) w')(hk:∀pb F M w',pJ D=(some M,0)->fY w' X pb (pW dbk) F M->Fr [] w w'->(∀b∈F,w.z<=b)->K (pW pb,0) w'): cW 74 [dM dbk] dI w K:=by
 refine qto<|qxA h hD hv λw1 f1=>?_;have U:=qv5 D;have hu:=qCc (qv6 D);have E:=quT D;generalize hs:jb D=sm at U hu E;obtain⟨j9,e⟩:=sm;simp only at U hu E;refine oK ((oG [] w).q9 f1) AQ λr w2 e2 ho=>Ep ho 0 rfl rfl U λw3 ho=>?_;apply eF<;>intro V;have V:e≠0:=(oS V);rw[iP V] at E
 have:=an (by rw[E]) w3 ho.fr;rw[E] at this;exact this;have ay:¬e≠0:=(oS V);rw[iN ay] at E;refine DA (ho.at (i:=0) rfl) U<|tf (gN (pW dbk) (j9.1,j9.2) dN dN 0 false (gR none none none (zs 24))).toList (qBV U w3)<|oD ho λpb w4 e4 f4 ak=>?_;have O:=ak.fr;have FH:=h.q9 O;have ao:∀b∈FD,b<w4.z/\b≠pb:=λb G=>by
  have h1:=h.lt b G;have:=O.size;have:=ho.fr.size;constructor<;>omega
 have al:∀b∈X,b<w4.z/\b≠pb:=λb G=>by
  have h1:=av b G;have:=O.size;have:=ho.fr.size;constructor<;>omega
 have aA:=hD.Q6;have aa:=ak.at (i:=0) rfl;have ai:w4.heap[r]?=some (.c (gh j9.1 j9.2).toArray 130):=ak.at (i:=1) rfl;have ae:w.z<=pb:=(by have:=ho.fr.size;omega);have aB:pb≠HG:=(by have:=hv.lt;omega);refine jd (λb w'=>(b=true/\(pJ D).1=none/\(pJ D).2=2/\Fr [] w w')\/(b=false/\∃sl sn I Q9,pJ D=(some (mg j9 I Q9 1 false Q9),0)/\dY [pb] w4 w' [(pb,.c (gN (pW dbk) j9 sl sn 0 false (gR none none none (zs 24))) v6)]/\Rd (X++[pb]) w' sl I/\Rd (X++[pb]) w' sn Q9/\Q9.Pairwise (· < ·)/\Q9.length<=100000)) ?_ ?_;refine iH ai (j9.2.getD 0 0) (Ey 0 oL)<|HZ (FH.q9 (Fr.refl [] w4).drew)<|gY (by show _=_;rw[jI (w:=w4.drew) ai];exact Ey 0 oL) ?_;rw[qj (D.Q6.length:Int) oL];apply eF<;>intro V;have V:j9.2.getD 0 0≠(D.Q6.length:Int):=by intro h;rw[h] at V;simp at V
 rw[iP V] at E;exact .inl ⟨rfl,by rw[E],by rw[E],O.drew⟩;have V:j9.2.getD 0 0=(D.Q6.length:Int):=by by_cases h:j9.2.getD 0 0=(D.Q6.length:Int);exact h;rw[show ((j9.2.getD 0 0==(D.Q6.length:Int))=false) by rw[zR];exact h] at V;cases V
 rw[iN (by rw[V];simp)] at E;have af:=(Fr.refl [] w4).drew;refine qBw (D:=D) (j9:=j9) (FD:=FD) (w:=w4.drew) aa U (tB (by rfl)) (FH.q9 af) hD ((hv.q9 O).q9 af) (λG=>(ao pb G).2 rfl) aB oL (hu 1) (hu 2) (λhl w5 f5=>?_) λsl sn I Q9 w5 hl J ap=>?_;rw[hl] at E;refine .inl ⟨rfl,by rw[E],by rw[E],(O.trans af).j8 f5 λb G=>by simp at G;subst G;exact .inr ae⟩;rw[hl] at E;have ab:mU (j9.2.getD 0 0) I 0 Q9=true:=by unfold rx at hl;split at hl;cases hl;rename_i x hx;split at hl;rename_i hh;cases hl;exact hh.1;cases hl
 have ab:=(La _ _ _ _).1 ab;have ac:Q9.length<=100000:=by
  have:=FS (n:=j9.2.getD 0 0+1) (l:=Q9.map (·+1)) (by
   rw[List.Nodup,pairwise_map];exact ab.2.imp λh=>oL) (λx hx=>by
   obtain⟨y,hy,rfl⟩:=mem_map.1 hx;have:=ab.1 y hy;omega)
  rcases this with h|h;rw[zK] at h;omega;have:=Ma List.length h;simp at this;simp[this]
 have aj:∀b∈X++[pb],b<w4.drew.z:=λb G=>by rcases zD.1 G with G|G;exact (al b G).1;rw[zE.1 G];exact gg aa
 refine .inr ⟨rfl,sl,sn,I,Q9,E,⟨J.iX,J.nodup,(af.mono λb G=>by cases G).trans J.fr,J.own⟩,(ap _ aj).1,(ap _ aj).2,ab.2,ac⟩;rintro b w5 (⟨rfl,h1,h2,f5⟩|⟨rfl,sl,sn,I,Q9,aD,J,r1,r2,hp,ac⟩);refine y_ ?_;have:=an h1 w5 f5;rw[h2] at this;exact this;refine x_ ?_;have hX:∀b∈X,b<w5.z/\b≠pb:=λb G=>⟨yD (al b G).1 J.fr.size,(al b G).2⟩;refine qy7 (X:=X) (J.at (i:=0) rfl) U (tB (by rfl)) oO hX r1 r2 ac λF w6 aq f6 n6=>?_;rw[qz3 hp] at aq;refine hk pb F _ w6 aD aq ((O.j8 J.fr λb G=>by simp at G;subst G;exact .inr ae).j8 f6 λb G=>by simp at G;subst G;exact .inr ae) λb G=>?_;rcases n6 b G with h|h;rw[h];exact ae;exact zL (zL O.size J.fr.size) h
structure oV (D:dQ) (k:Nat):Prop where
 ok:D.Ok
 Q7:D.Q7.length<=k
 writes:D.writes<=k
def qwx(h:D.Ok):(ko D).1.Ok/\(ko D).1.writes=D.writes:=by have E:=h.y7;unfold ko;split;exact⟨⟨h.at_,E,h.Q6,h.Q7,h.writes,h.qS,h.qQ⟩,rfl⟩;split;exact⟨⟨h.at_,⟨by show -1<=D.y7-1;omega,by show D.y7-1<=_;omega⟩,h.Q6,h.Q7,h.writes,h.qS,h.qQ⟩,rfl⟩;exact⟨h,rfl⟩
def oV.mono{E:Nat}(h:oV D k)(G:k<=E):oV D E:=⟨h.ok,zL h.Q7 G,by have:=h.writes;omega⟩
variable {n kd:Int} {w1:Md} {k1:Nat} {M':eU}
def oV.write(h:oV D k)(V:k<1000000)(I:fj l):oV (fN D n l).1 (k+1):=by
 unfold fN;split;exact h.mono oL;split;exact h.mono oL;split;rename_i h1 h2 G;have J:(rJ D n ⟨l,G⟩).Ok:={
  at_:=λx E=>by rcases zD.1 E with E|E;exact h.ok.at_ x E;simp at E;subst E;show 0<=n/\n<(D.Q6.length:Int);omega
  y7:=h.ok.y7
  Q6:=h.ok.Q6
  Q7:=by show (D.Q7++[_]).length<=_;have:=h.Q7;simp;omega
  writes:=⟨by show 0<=D.writes+1;have:=h.ok.writes;omega,by show D.writes+1<=_;have:=h.writes;omega⟩
  qS:=h.ok.qS
  qQ:=λx E=>by rcases zD.1 E with E|E;exact h.ok.qQ x E;simp at E;subst E;exact I }
 obtain⟨O,U⟩:=qwx J;refine⟨O,?_,?_⟩;show (ko (rJ D n ⟨l,G⟩)).1.Q7.length<=k+1;rw[(EA _).2];show (D.Q7++[_]).length<=_;have:=h.Q7;simp;omega;show (ko (rJ D n ⟨l,G⟩)).1.writes<=((k+1:Nat):Int);rw[U];show D.writes+1<=_;have:=h.writes;omega;exact h.mono oL
def qw0:∀(l:List (Int×oi)) (s:List oi),(∀x∈l,fj x.2.1)->(∀b∈s,fj b.1)->∀b∈l.foldl gW s,fj b.1
 | [],s,_,h=>h
 | x::l,s,G,h=>qw0 l (gW s x) (λy I=>G y (zN _ I)) λb E=>by rcases mem_or_eq_of_mem_set E with E|rfl;exact h b E;exact G x oN
def oV.sync(h:oV D k):oV (i9 D).1 k:=by obtain⟨E,I⟩:=qwx h.ok;unfold i9;split;exact h;split;exact⟨E,by show (ko D).1.Q7.length<=k;rw[(EA D).2];exact h.Q7,by show (ko D).1.writes<=_;rw[I];exact h.writes⟩;refine⟨⟨(λx G=>by cases G),E.y7,?_,oN,E.writes,?_,(λx G=>by cases G)⟩,oN,by show (ko D).1.writes<=_;rw[I];exact h.writes⟩;show (D.Q7.foldl gW D.Q6).length<=4096;rw[E3];exact h.ok.Q6;exact qw0 _ _ h.ok.qQ h.ok.qS
def oV.then{E:Nat}(h:oV r.1 k)(G:k<=E)(I:∀D,oV D k->oV (f D).1 E):oV (andThen r f).1 E:=by unfold andThen;split;exact I _ h;exact h.mono G
def oV.v8:∀ {l:List (MD)} {D:dQ} {k:Nat},oV D k->k+l.length<=1000000->(∀x∈l,fj x.2)->oV (lQ l D).1 (k+l.length)
 | [],D,k,h,_,_=>h
 | x::l,D,k,h,G,E=>by
  rw[yI] at G⊢;refine oV.then (k:=k+1) (h.write oL (E x oN)) oL λD' I=>?_;have:=oV.v8 I oL (λy J=>E y (zN _ J));rw[Nat.add_right_comm] at this;exact this
def Jq:(fN D n l).1.Q6.length=D.Q6.length:=by unfold fN;split;rfl;split;rfl;split;show (ko _).1.Q6.length=_;rw[(EA _).1];rfl;rfl
def qsN:(i9 D).1.Q6.length=D.Q6.length:=by unfold i9;split;rfl;split;show (ko _).1.Q6.length=_;rw[(EA _).1];show (D.Q7.foldl gW D.Q6).length=_;rw[E3]
def qsO{n:Nat}(h:r.1.Q6.length=n)(E:∀D:dQ,D.Q6.length=n->(f D).1.Q6.length=n):(andThen r f).1.Q6.length=n:=by unfold andThen;split;exact E _ h;exact h
def qnV:∀ {l:List (MD)} {D:dQ},(lQ l D).1.Q6.length=D.Q6.length
 | [],D=>rfl
 | x::l,D=>qsO Jq λD' h=>by rw[qnV,h]
def qwi{a:Ml}:(jc D a b).1.Q6.length=D.Q6.length:=by unfold jc;split;rfl;exact qsO qnV λD' h=>by rw[qsN,h]
def qwk:∀x∈(y6.zip (ik numbers y6).1).map λx=>(x.1,gd x.1 2 x.2),fj x.2:=by intro x E;obtain⟨y,h,rfl⟩:=mem_map.1 E;refine JC oO ?_;have h:=(of_mem_zip h).2;unfold ik at h;split at h;cases h;split at h;cases h;obtain⟨i,_,G⟩:=mem_map.1 h;rw[<- G];exact qrL _ _
def qqB{α β:Type}(a:List α)(b:List β):(a.zip b).length<=a.length:=by rw[length_zip];exact Nat.min_le_left _ _
def oV.spread(h:oV D k)(I:k+y6.length<=1000000):oV (jc D numbers y6).1 (k+y6.length):=by
 unfold jc;split;exact h.mono oL;have E:=qqB y6 (ik numbers y6).1;refine oV.then ?_ (zM _) λD' G=>G.sync;refine (oV.v8 h (by rw[zK];omega) qwk).mono ?_;rw[zK];omega
def qyL(s:rH):fj (jB s).2:=JC oO (qyK _ _)
def qtD{h:List (Ml)}(E:i<y6.length)(G:i<h.length):(y6.zip h).drop i=(y6[i],h[i])::(y6.zip h).drop (i+1):=by rw[zX (by rw[length_zip];omega)];simp
def qxC{sp:Sl}(h:fO w dbk FD D)(hD:oV D k)(aR:k+y6.length<=1000000)(hv:Hv w)(hg:HG∉FD)(hn:Rd FD w sn numbers)(hp:Rd FD w sp y6)(aw:numbers.length<=100000)(ax:y6.length<=100000)(ay:∀x∈y6,jf x)(hk:∀F' w',fO w' dbk F' (jc D numbers y6).1->Fr FD w w'->(∀b∈F',b∈FD\/w.z<=b)->K (jc D numbers y6).2 w'): cW 128 [dM dbk,sn.v,sp.v] dj w K:=by
 refine qp7<|qxp hn hp aw ax h.lt λs1 B1 w1 b1 f1 n1=>?_;apply eF<;>intro G;have G:(ik numbers y6).2≠0:=by simpa using G
 have:=hk FD w1 (by rw[jc,iP G];exact h.q9 f1) (f1.mono λb E=>by cases E) (λb E=>.inl E);rw[jc,iP G] at this;exact this;have J:¬(ik numbers y6).2≠0:=(oS G);rw[jc,iN J] at hk;have ad:(ik numbers y6).1.length=y6.length/\∀b∈(ik numbers y6).1,b.length<=500/\fj b:=by
  unfold ik at J⊢;split;rename_i h1;rw[iP h1] at J;exact absurd oO J;rename_i h1;rw[iN h1] at J;split;rename_i h1;rw[iP h1] at J;exact absurd oO J;refine⟨qnk _ _ _,λb E=>?_⟩;obtain⟨i,_,rfl⟩:=mem_map.1 E;rw[FM];have:=Kc numbers i;unfold chunk at this;exact⟨oL,qrL _ _⟩
 generalize (ik numbers y6).1=I at hk ad b1;obtain⟨az,q1,q2,q3⟩:=b1;have aY:=q1.len;refine lD (λx w'=>∃(i j:Nat) (F':Mk) (D':dQ),x=i/\i<=y6.length/\fO w' dbk F' D'/\oV D' (k+i)/\Fr FD w w'/\Fr FD w1 w'/\(∀b∈F',b∈FD\/w1.z<=b)/\
   andThen (lQ ((y6.zip I).map λx=>(x.1,gd x.1 2 x.2)) D) i9=andThen (lQ (((y6.zip I).drop i).map λx=>(x.1,gd x.1 2 x.2)) D') i9) (λx _=>((y6.length:Int)-x).toNat)
  ⟨0,0,FD,D,rfl,oL,h.q9 f1,hD,f1.mono (λb E=>by cases E),.refl _ _,λb E=>.inl E,rfl⟩ ?_
 rintro x w2 ⟨i,j,F',D',rfl,hi,aj,ae,f2,U,n2,he⟩ X hX;have aA:=hv.j0 f2 hg;have a0:=f1.size;apply eF<;>intro G;have V:i<y6.length:=(by have:=zC G;dsimp only at this;omega);have aa:i<I.length:=oL;have al:i<az.length:=oL;have aB:=q1.ju quh (λb E hm=>by have:=h.lt b hm;have:=n1 b E;omega);have an:=aB.j0 U λb E=>.inl E;have ao:=hp.j0 f2 λb E=>.inl E;refine eT.get an i rfl (zA al) rfl<|Rd.at ao i rfl (zA V) ?_;have ap:=(q3 i _ _ (zA al) (zA aa)).j6 λb E=>.inl (zH _ E);have af:=ap.j0 U λb E=>.inl E;have aC:=(ad.2 _ (zW aa)).1;have a2:=ay _ (zW V);refine qxb af aA oL (λh=>oL) λ_ b3 T3 w3 c3 f3 n3=>Rd.at (ao.q9 f3) i rfl (zA V) ?_;rw[gJ y6[i] oL];have ab:=E5 (number:=y6[i]) (kind:=2) aC;refine qrF (S:=[]) (aj.q9 f3) ae.ok (Cl c3 (by rw[ab];exact zM _) (zM _) oN) λF4 w4 d4 f4 n4=>?_;rw[xE,zS (by rw[ab];exact zM _)] at d4⊢;have O:∀b∈F',b∈FD\/w.z<=b:=λb E=>by rcases n2 b E with h|h;exact .inl h;exact .inr oL
 have a6:=f3.size;have a7:=U.size;have aq:=(f2.j8 f3 oN).j8 f4 O;have aF:=(U.j8 f3 oN).j8 f4 n2;have ar:∀b∈F4,b∈FD\/w1.z<=b:=λb E=>by rcases n4 b E with h|h;exact n2 b h;exact .inr oL
 rw[qtD V aa,xM,lQ] at he;apply eF<;>intro G;have G:(fN D' y6[i] (gd y6[i] 2 I[i])).2≠0:=(oS G);have aG:andThen (lQ ((y6.zip I).map λx=>(x.1,gd x.1 2 x.2)) D) i9=fN D' y6[i] (gd y6[i] 2 I[i]):=by rw[he];show andThen (andThen (fN D' y6[i] (gd y6[i] 2 I[i])) _) i9=_;rw[show ∀f,andThen (fN D' y6[i] (gd y6[i] 2 I[i])) f=fN D' y6[i] (gd y6[i] 2 I[i]) from λf=>iN G];exact iN G
 rw[aG] at hk;exact hk F4 w4 d4 aq (λb E=>by rcases ar b E with h|h;exact .inl h;exact .inr oL);have G:(fN D' y6[i] (gd y6[i] 2 I[i])).2=0:=(oS G);rw[gJ _ oL];refine hX _ _ ⟨i+1,0,F4,(fN D' y6[i] (gd y6[i] 2 I[i])).1,oN,oL,d4,?_,aq,aF,ar,?_⟩ oL;have:=ae.write (n:=y6[i]) (l:=gd y6[i] 2 I[i]) oL (JC oO (ad.2 _ (zW aa)).2);rw[Nat.add_assoc] at this;exact this;rw[he];show andThen (andThen (fN D' y6[i] (gd y6[i] 2 I[i])) _) i9=_;rw[show ∀f,andThen (fN D' y6[i] (gd y6[i] 2 I[i])) f=f (fN D' y6[i] (gd y6[i] 2 I[i])).1 from λf=>iP G];have:i=y6.length:=(by have:=zB G;dsimp only at this;omega);subst this;have aH:(y6.zip I).drop y6.length=[]:=vB (qqB _ _);rw[aH] at he;have aI:=he;rw[aI] at hk;refine qtP aj ae.ok λF3 w3 d3 f3 n3=>?_;have O:∀b∈F',b∈FD\/w.z<=b:=λb E=>by rcases n2 b E with h|h;exact .inl h;exact .inr oL
 exact hk F3 w3 d3 (f2.j8 f3 O) λb E=>O b (n3 b E)
structure DS (dbk:Nat) (w:Md) (FD:Mk) (w':Md) (F':Mk) (D':dQ) (k:Nat):Prop where
 at_:fO w' dbk F' D'
 lim:oV D' k
 fr:Fr FD w w'
 nw:∀ b∈F',b∈FD\/w.z<=b
def DS.refl(h:fO w dbk FD D)(E:oV D k):DS dbk w FD w FD D k:=⟨h,E,.refl _ _,λb G=>.inl G⟩
def DS.trans{w2:Md}{I G:dQ}{k2:Nat}(h:DS dbk w FD w1 F1 I k1)(g:DS dbk w1 F1 w2 F2 G k2):DS dbk w FD w2 F2 G k2:=
 ⟨g.at_,g.lim,h.fr.j8 g.fr h.nw,λb J=>by rcases g.nw b J with E|E;exact h.nw b E;exact .inr (zL h.fr.size E)⟩
def DS.q9{w2:Md}{E:dQ}(h:DS dbk w FD w1 F1 E k1)(f:Fr [] w1 w2):DS dbk w FD w2 F1 E k1:=
 ⟨h.at_.q9 f,h.lim,h.fr.j8 f oN,h.nw⟩
def DS.hv{J:dQ}(h:DS dbk w FD w1 F1 J k1)(E:Hv w)(G:HG∉FD):Hv w1/\HG∉F1:=
 ⟨E.j0 h.fr G,λO=>by
  rcases h.nw _ O with I|I;exact G I;have:=E.lt;omega⟩
def DS.wZ{E:dQ}{k2:Nat}(h:DS dbk w FD w1 F1 E k1)(G:k1<=k2):DS dbk w FD w1 F1 E k2:=⟨h.at_,h.lim.mono G,h.fr,h.nw⟩
def KX{s:Sl}(h:DS dbk w FD w1 F1 D k)(I:k<1000000)(J:eY S w1 s l)(O:fj l)(U:∀w2 F2,DS dbk w FD w2 F2 (fN D n l).1 (k+1)->Fr F1 w1 w2->(∀b∈F2,b∈F1\/w1.z<=b)->K (fN D n l).2 w2): cW 124 [dM dbk,.i n,s.v] dj w1 K:=by exact qrF h.at_ h.lim.ok J λF2 w2 V E G=>U w2 F2 (h.trans ⟨V,h.lim.write I O,E,G⟩) E G
def qtO(h:DS dbk w FD w1 F1 D k)(J:∀w2 F2,DS dbk w FD w2 F2 (i9 D).1 k->Fr F1 w1 w2->(∀b∈F2,b∈F1\/w1.z<=b)->K (i9 D).2 w2): cW 125 [dM dbk] dj w1 K:=by exact qtP h.at_ h.lim.ok λF2 w2 O G I=>J w2 F2 (h.trans ⟨O,h.lim.sync,G,λb E=>.inl (I b E)⟩) G (λb E=>.inl (I b E))
def qBC(h:DS dbk w FD w1 F1 D k)(hk:k<1000000)(hv:Hv w1)(hs:s.2.length=27)(hq:0<=s.1)(O:∀w2 F2,DS dbk w FD w2 F2 (rU D s).1 (k+1)->Fr F1 w1 w2->(∀b∈F2,b∈F1\/w1.z<=b)->K (rU D s).2 w2): cW 129 [dM dbk,.agg (gh s.1 s.2).toArray] dj w1 K:=by
 refine qtp<|oD (oG [] w1) λr w2 e2 f2 U=>?_;have c0:(gh s.1 s.2).toArray[0]?=some (.w s.1):=rfl;refine oB U.drew 0 rfl s.1 c0<|DA (U.drew.at (i:=0) rfl) hs<|qzg (hv.q9 U.drew.fr) hs λb T w3 c3 f3 n3=>?_;have E:=U.drew.q9 f3;refine gY (E.cell 0 rfl c0) ?_;have ht:=Int.tmod_eq_emod_of_nonneg (b:=2) hq;rw[gJ (Int.tmod s.1 2) oL];have G:(gd (wrap .u32 (Int.tmod s.1 2)) 1 (iJ s.1 s.2)).length=512:=E5 (by rw[Dh hs];decide);have ab:eY [] w3 ⟨pW b,512,512⟩ (jB s).2:=by
  have:=Cl (S:=[]) (cap:=512) c3 (by rw[G];exact zM _) (zM _) oN;rw[xE,zS (Nat.le_of_eq G)] at this;exact this
 show cW 124 [dM dbk,.i (jB s).1,_] _ _ _;refine KX (h.q9 E.fr) hk ab (qyL s) λw4 F4 V f4 n4=>?_;have ap:=E.fr.size;apply eF<;>intro I;have I:(fN D (jB s).1 (jB s).2).2≠0:=(oS I);have e:rU D s=fN D (jB s).1 (jB s).2:=iN I;rw[e] at O;exact O w4 F4 V ((E.fr.mono λb J=>by cases J).trans f4) λb J=>by rcases n4 b J with h|h;exact .inl h;exact .inr oL
 have I:(fN D (jB s).1 (jB s).2).2=0:=(oS I);have e:rU D s=i9 (fN D (jB s).1 (jB s).2).1:=iP I;rw[e] at O;refine qtO V λw5 F5 d5 f5 n5=>?_;have g4:DS dbk w1 F1 w4 F4 (fN D (jB s).1 (jB s).2).1 (k+1):=⟨V.at_,V.lim,(E.fr.mono (T:=F1) λb J=>by cases J).trans f4,λb J=>by rcases n4 b J with h|h;exact .inl h;exact .inr oL⟩;have g5:=g4.trans ⟨d5.at_,d5.lim,f5,n5⟩;exact O w5 F5 d5 g5.fr g5.nw
def qxB{O:Sl}(h:DS dbk w FD w1 F1 D k)(E:k+y6.length<=1000000)(hv:Hv w1)(hg:HG∉F1)(hn:Rd F1 w1 sn numbers)(hp:Rd F1 w1 O y6)(G:numbers.length<=100000)(I:y6.length<=100000)(J:∀x∈y6,jf x)(kk:∀w2 F2,DS dbk w FD w2 F2 (jc D numbers y6).1 (k+y6.length)->Fr F1 w1 w2->(∀b∈F2,b∈F1\/w1.z<=b)->K (jc D numbers y6).2 w2): cW 128 [dM dbk,sn.v,O.v] dj w1 K:=by exact qxC h.at_ h.lim E hv hg hn hp G I J λF2 w2 d2 U V=>kk w2 F2 (h.trans ⟨d2,h.lim.spread E,U,V⟩) U V
def Gl(h:a.2≠0):andThen a f=a:=iN h
def Ha(h:a.2=0):andThen a f=f a.1:=iP h
def qxO{a b c:Int}(w:Md):(Instr.build 130 #[(0,.w 1),(1,.u a),(2,.u b),(3,.u c)]).run prog w=.ok (.agg (gh 1 ([a,b,c]++zs 24)).toArray) w:=by obtain⟨z,G,h⟩:=yT.1 AQ;have E:z.cells=(gh 0 (zs 27)).toArray:=(by rw[<- h]);refine F6 (offs:=#[(0,1),(1,1),(2,1),(3,1),(4,24)]) G oM (λw=>oM) ?_ w;rw[E,ww rfl rfl (zO rfl),ww rfl rfl (zO rfl),ww rfl rfl (zO rfl),ww rfl rfl (zO rfl)];rfl
def qxz(h:fO w dbk FD D)(hl:oV D k)(hk:k<=900000)(h8:2<=D.Q6.length)(hv:Hv w)(hg:HG∉FD)(G:∀w' F',DS dbk w FD w' F' (nP D).1 (k+5000)->K (nP D).2 w'): cW 73 [dM dbk] dj w K:=by
 refine qp5 ?_;have ao:=hl.ok.Q6;have h0:=DS.refl h hl;have J:(zs 512).length=512:=rM _;have aa:∀ {S0:Mk} {w0 w':Md} {L:Mq} {b:Nat} {T:Mf},dY S0 w0 w' ((b,.c (List.replicate (512:Int).toNat (Value.int .u8 0)).toArray T)::L)->eY [] w' ⟨pW b,(512:Int).toNat,(512:Int).toNat⟩ (zs 512):=λho=>by
  have I:=ho.at (i:=0) rfl;rw[qvC] at I;have:=Cl (S:=[]) (n:=512) (cap:=512) I (by rw[show (512:Int).toNat=512 from rfl,J];exact zM _) (zM _) oN;rw[xE,zS (by rw[show (512:Int).toNat=512 from rfl,J];exact zM _)] at this;exact this
 refine vV λX hX=>y_<|dY.Kk (oG [] w) oO oO oO oO λb1 w1 e1 ab=>KX (h0.q9 ab.fr) oL (aa ab) (fj.zs 512) λw2 F2 d2 f2 n2=>?_;apply eF<;>intro E;have E:(fN D 0 (zs 512)).2≠0:=(oS E);have e:nP D=fN D 0 (zs 512):=Gl E;rw[e] at G;exact G w2 F2 (d2.wZ oL);have aq:(fN D 0 (zs 512)).2=0:=(oS E);rw[nP,Ha aq] at G;have ar:=Jq (D:=D) (n:=0) (l:=zs 512);generalize (fN D 0 (zs 512)).1=D2 at d2 G ar;rw[gJ (0+1) oO];refine hX _ _ (qsl 1 rfl λX hX=>?_);refine y_<|dY.Kk (oG [] w2) oO oO oO oO λb3 w3 e3 ac=>KX (d2.q9 ac.fr) oL (aa ac) (fj.zs 512) λw4 F4 d4 f4 n4=>?_;apply eF<;>intro E;have E:(fN D2 1 (zs 512)).2≠0:=(oS E);rw[Gl E] at G;exact G w4 F4 (d4.wZ oL);have av:(fN D2 1 (zs 512)).2=0:=(oS E);rw[Ha av] at G;have aw:=Jq (D:=D2) (n:=1) (l:=zs 512);generalize (fN D2 1 (zs 512)).1=D4 at d4 G aw;rw[gJ (1+1) oO];refine hX _ _ (qsl 2 rfl λX hX=>?_);refine x_<|qtO d4 λw5 F5 d5 f5 n5=>?_;apply eF<;>intro E;have E:(i9 D4).2≠0:=(oS E);rw[Gl E] at G;exact G w5 F5 (d5.wZ oL);have ay:(i9 D4).2=0:=(oS E);rw[Ha ay] at G;have az:=qsN (D:=D4);generalize (i9 D4).1=D5 at d5 G az;have aA:D5.Q6.length=D.Q6.length:=oL;have al:=HR D.Q6.length;obtain⟨aB,aC⟩:=d5.hv hv hg;refine lD (λx w'=>∃(i:Nat) (B:Mk),x.2=((i+2:Nat):Int)/\i<=D.Q6.length-2/\tW w' x.1 ((gy D.Q6.length).take i) B/\Fr [] w5 w'/\∀b∈B,w5.z<=b) (λx _=>((D.Q6.length:Int)-x.2).toNat)
  ⟨0,[],rfl,oL,.nil _ _ _,.refl _ _,oN⟩ ?_
 rintro⟨s,x⟩ w6 ⟨i,B,hx,hi,I,f6,n6⟩ Y hY;simp only at hx I;subst hx;have d6:=d5.q9 f6;refine HZ d6.at_ ?_;dsimp only;apply eF<;>intro E;have aF:i<D.Q6.length-2:=(by have:=zC E;omega);rw[qj ((i+2:Nat):Int) oL];refine qDa I (by rw[yL];omega) λs7 B7 w7 b7 f7 n7=>?_;rw[gJ _ oL];refine hY _ _ ⟨i+1,B7,by simp;omega,oL,?_,f6.j8 f7 λb I=>.inr (n6 b I),λb I=>?_⟩ oP;have e:(gy D.Q6.length).take (i+1)=(gy D.Q6.length).take i++[((i+2:Nat):Int)]:=by rw[yG oL];congr 2;have h1:=qwy aF;have h2:=zA (l:=gy D.Q6.length) (i:=i) oL;rw[h2] at h1;rw[yO h1];simp
 rw[e];exact b7;rcases n7 b I with h|h;exact n6 b h;exact zL f6.size h;have aG:i=D.Q6.length-2:=(by have:=zB E;omega);subst aG;rw[zS oL] at I;have aH:=I.len;rw[aH];refine qBp oL ?_;have af:=K5 (n:=(gy D.Q6.length).length);have ag:∀b∈B,b∉F5:=λb I hm=>by have:=n6 b I;have:=d5.at_.lt b hm;omega
 have O:=(I.q9 (Fr.refl [] w6).drew).ju wR ag;refine eT.part O (gM (gy D.Q6.length).length) (gy D.Q6.length).length rfl (by show (s.len:Int)=_;omega) af (zM _) λsn a7 rn _=>eT.part O 0 (gM (gy D.Q6.length).length) rfl rfl oL af λsp a8 rp _=>?_;rw[xY] at rn;rw[xE] at rp;have aI:=d6.q9 (Fr.refl [] w6).drew;have aJ:=(aB.q9 f6).q9 (Fr.refl [] w6).drew;rw[aA] at G;refine qxB aI (by rw[yL];omega) aJ aC rn rp (by rw[yC];omega) (by rw[yL];omega) (λx hx=>by
  have:=GV.1 (yV hx);constructor<;>omega) λw7 F7 U f7 n7=>?_
 have U:=U.wZ (k2:=k+2+4096) (by rw[yL];omega);apply eF<;>intro E;have E:(jc D5 ((gy D.Q6.length).drop (gM (gy D.Q6.length).length)) ((gy D.Q6.length).take (gM (gy D.Q6.length).length))).2≠0:=(oS E);rw[Gl E] at G;exact G w7 F7 (U.wZ oL);have aK:(jc D5 ((gy D.Q6.length).drop (gM (gy D.Q6.length).length)) ((gy D.Q6.length).take (gM (gy D.Q6.length).length))).2=0:=(oS E);rw[Ha aK] at G;have aL:=qwi (D:=D5) (a:=(gy D.Q6.length).drop (gM (gy D.Q6.length).length)) (b:=(gy D.Q6.length).take (gM (gy D.Q6.length).length));generalize (jc D5 ((gy D.Q6.length).drop (gM (gy D.Q6.length).length)) ((gy D.Q6.length).take (gM (gy D.Q6.length).length))).1=D7 at U G aL;have aM:D7.Q6.length=D.Q6.length:=oL;refine HZ U.at_ ?_;rw[aM] at G⊢;have V:wrap .i64 (((gy D.Q6.length).length:Int)-(gM (gy D.Q6.length).length:Int))=((gy D.Q6.length).length:Int)-(gM (gy D.Q6.length).length:Int):=gJ _ oL;rw[V];exact tf (gh (mZ D.Q6.length).1 (mZ D.Q6.length).2) (qxO w7)<|qBC U oL (U.hv hv hg).1 rfl (by show (0:Int)<=1;decide) λw8 F8 d8 f8 n8=>G w8 F8 (d8.wZ oL)
structure eU.Wf (M:eU):Prop where
 n4:M.j9.2.getD 0 0<=4096
 u32:∀ x∈M.j9.2,jf x
 Q2:∀ x∈M.Q2,jf x
 cP:M.Q9.Pairwise (· < ·)
 Q9:∀ x∈M.Q9,2<=x/\x<M.j9.2.getD 0 0
 cX:M.Q1.Pairwise (· < ·)
 uC:M.J7.Pairwise (· < ·)
 nodup:(M.Q1++(M.J7++(M.Q5++M.J8.map (·.1)))).Nodup
 range:∀ x∈M.Q1++(M.J7++(M.Q5++M.J8.map (·.1))),2<=x/\x<M.j9.2.getD 0 0
 body:∀ e∈M.J8,(0<=e.2.1/\e.2.1<256)/\e.2.2.length<=500/\fj e.2.2
def qFF(E:l.Nodup)(h:∀x∈l,2<=x/\x<n)(G:n<=4096):l.length<=4096:=by rcases FS E h with h|h;omega;rw[h];simp
def eU.Wf.all(M:eU)(h:M.Wf):M.Q1.length+M.J7.length+M.Q5.length+M.J8.length<=4096:=by
 have:=qFF h.nodup h.range h.n4;simp only[zF,zK] at this;omega
def eT.BJ{α:Type}{enc:α->List Me}{s:Sl}{l:List α}(h:eT enc k S w s l){hi:Int}(b:Nat){K:Sl->Prop}(G:hi=b)(hb:b<=l.length)(U:∀O,eT enc k S w O (l.take b)->K O):gi s none (some hi) (some hi) k K:=by
 subst G;obtain⟨h1,h2,I⟩:=h;unfold gi;refine⟨by simp;omega,U _ ?_⟩;simp only[xU,xT,Int.toNat_zero,zJ,Nat.zero_mul,Nat.sub_zero];have e:(if b=0 then s.a else s.a.map (·.add 0))=s.a:=by
  split;rfl;cases s.a with|none=>rfl|some a=>simp[Lo]
 rw[e];refine⟨by rw[yL];dsimp only;omega,zM _,?_⟩;rcases I with I|⟨V,o,cs,T,fr,ha,J,hS,hc⟩;left;rw[I];simp;refine .inr ⟨V,o,cs,T,fr,ha,J,hS,λi x E=>?_⟩;rw[xB] at E;split at E;exact hc i x E;cases E
def fY.rN(h:fY w X pb db F M):∀b∈X,b<w.z:=by obtain⟨fb,defb,mb,sl,sn,G,F2,I,rfl,E⟩:=h;exact E.rN
structure FK (D D':dQ) (M:eU) (y6 Q9:Ml) (next:rH):Prop where
 down:D'.down=false
 Q7:D'.Q7=[]
 listed:t7 D' Q9 y6
 Lw:view D' (next.1%2)=gd (next.1%2) 1 (iJ next.1 next.2)
 J8:∀ e∈M.J8,view D' e.1=gd e.1 e.2.1 e.2.2
 rest:∀ m,0<=m->m∉M.J8.map (·.1)->m∉y6->m≠next.1%2->view D' m=view D m
def eU.Wf.cC(h:M.Wf):(M.J8.map (·.1)).Nodup:=h.nodup.sublist (((sublist_append_right _ _).trans (sublist_append_right _ _)).trans (sublist_append_right _ _))
def eU.all (M:eU):Ml:=M.Q1++(M.J7++(M.Q5++M.J8.map (·.1)))
def qBU{t:Int}{ov:Bool}(h:qa (s.2.getD 0 0) numbers y6)(I:s.2.getD 0 0<=4096)(G:∀x∈s.2,jf x):(mg s y6 numbers t ov numbers).Wf where
 n4:=I
 u32:=G
 Q2:=λx E=>G x (yU E)
 cP:=h.cZ
 Q9:=h.qy
 cX:=h.cZ
 uC:=.nil
 nodup:=by show (numbers++([]++(y6++[]))).Nodup;rw[xH,xG,yM];exact⟨FR h.cZ,h.nodup,λx E y J e=>h.J3 y J (e▸E)⟩
 range:=λx E=>by have E:x∈numbers++([]++(y6++[])):=E;rw[xH,xG,zD] at E;rcases E with E|E;exact h.qy x E;exact h.xe x E
 body:=λe O=>by cases O
def qvg{β:Type}{v:β}{l:List (Int×β)}(h:n∉l.map (·.1)):iU n v l=l++[(n,v)]:=by rw[iU,Bc.2 h]
def qsK{β:Type}{v:β}{l:List (Int×β)}(h:n∈l.map (·.1)):(iU n v l).map (·.1)=l.map (·.1):=by
 unfold iU;cases G:look n l with
 | none=>exact absurd h (Bc.1 G)
 | some q=>
  rw[map_set];apply ext_getElem?;intro j;rw[xV];by_cases hj:q.1=j;subst hj;have I:=(ya G).1;obtain⟨E,J⟩:=zP.1 I;simp[E,J];rw[iN hj]
def qrU{β:Type}{l:List (Int×β)}(h:n∈l.map (·.1)):(l.map (·.1)).Perm (n::(ln n l).map (·.1)):=by
 unfold ln;cases I:look n l with
 | none=>exact absurd h (Bc.1 I)
 | some q=>
  have J:=(ya I).1;obtain⟨E,O⟩:=zP.1 J;rw[As];have U:(l.map (·.1))[q.1]'(oS E)=n:=(by simp[O]);have G:q.1<(l.map (·.1)).length:=(oS E);have V:l.map (·.1)=(l.map (·.1)).take q.1++n::(l.map (·.1)).drop (q.1+1):=by rw[<- U,<- zX G,xD]
  rw[eraseIdx_eq_take_drop_succ];conv=>lhs;rw[V]
  exact perm_middle
def qC0:iu M n=true↔(2<=n/\n<M.j9.2.getD 0 0)/\n∉M.all:=by unfold iu eU.all;simp only[yB,zT,L6,L7,Option.isNone_iff_eq_none,Bc,zD,not_or];constructor;rintro⟨⟨⟨⟨⟨J,O⟩,h⟩,E⟩,G⟩,I⟩;exact⟨⟨oL,oL⟩,E,G,h,I⟩;rintro⟨⟨J,O⟩,h,E,G,I⟩;exact⟨⟨⟨⟨⟨oL,oL⟩,G⟩,h⟩,E⟩,I⟩
def qAj{r:Ml}{v:MD}(E:M.Q1=n::r)(I:M.Wf):(r++(M.J7++(M.Q5++(iU n v M.J8).map (·.1)))).Perm M.all:=by
 have h:n∉M.J8.map (·.1):=λJ=>by have G:=I.nodup;rw[E,xI,LP] at G;exact G.1 (zI _ (zI _ (zI _ J)))
 rw[qvg h,xL,eU.all,E];show (r++(M.J7++(M.Q5++(M.J8.map (·.1)++[n])))).Perm (n::(r++(M.J7++(M.Q5++M.J8.map (·.1)))));rw[<- zV M.Q5,<- zV M.J7,<- zV r];exact LN n _
def Iu(h:M.Wf)(E:M'.j9=M.j9)(G:M'.Q9=M.Q9)(J:∀x∈M'.Q2,jf x)(I:M'.all.Perm M.all)(O:M'.Q1.Pairwise (· < ·))(U:M'.J7.Pairwise (· < ·))(V:∀e∈M'.J8,(0<=e.2.1/\e.2.1<256)/\e.2.2.length<=500/\fj e.2.2):M'.Wf where
 n4:=by rw[E];exact h.n4
 u32:=by rw[E];exact h.u32
 Q2:=J
 cP:=by rw[G];exact h.cP
 Q9:=by rw[G,E];exact h.Q9
 cX:=O
 uC:=U
 nodup:=I.nodup_iff.2 h.nodup
 range:=λx hx=>by rw[E];exact h.range x (I.mem_iff.1 hx)
 body:=V
def qw4(E:M.Wf)(J:0<=kind/\kind<256)(O:fj body):(ij M kind body).2.Wf/\(ij M kind body).2.all.Perm M.all:=by
 unfold ij;split;exact⟨E,.refl _⟩;split;exact⟨E,.refl _⟩;rename_i V;split;exact⟨E,.refl _⟩;rename_i n r G;have I:=qAj (v:=(kind,body)) G E;refine⟨Iu E rfl rfl E.Q2 I ?_ E.uC λe U=>?_,I⟩;have:=E.cX;rw[G,yJ] at this;exact this.2;rcases Gk U with h|h;exact E.body e h;rw[h];exact⟨J,by show body.length<=500;omega,O⟩
def qAC(E:M.Wf)(I:0<=kind/\kind<256)(J:fj body):(kZ M n kind body).2.Wf/\(kZ M n kind body).2.all.Perm M.all:=by
 unfold kZ;split;exact⟨E,.refl _⟩;split;exact⟨E,.refl _⟩;rename_i q O;split;exact⟨E,.refl _⟩;rename_i h5;have U:n∈M.J8.map (·.1):=mem_map.2 ⟨_,(ya O).2,rfl⟩;have G:({ M with J8:=iU n (kind,body) M.J8 }:eU).all=M.all:=by show M.Q1++(M.J7++(M.Q5++(iU n (kind,body) M.J8).map (·.1)))=_;rw[qsK U];rfl
 refine⟨Iu E rfl rfl E.Q2 (by rw[G]) E.cX E.uC λe V=>?_,by rw[G]⟩;rcases Gk V with h|h;exact E.body e h;rw[h];exact⟨I,by show body.length<=500;omega,J⟩
def qwK(E:M.Wf):(gf M n).2.Wf:=by
 unfold gf;split;exact E;split;rename_i q U;have V:n∈M.J8.map (·.1):=mem_map.2 ⟨_,(ya U).2,rfl⟩;have hn:=E.nodup;have J:n∉M.Q1:=λh=>by rw[yM] at hn;exact hn.2.2 n h n (zI _ (zI _ V)) rfl
 have I:({ M with J8:=ln n M.J8,Q1:=ins n M.Q1 }:eU).all.Perm M.all:=by
  show (ins n M.Q1++(M.J7++(M.Q5++(ln n M.J8).map (·.1)))).Perm (M.Q1++(M.J7++(M.Q5++M.J8.map (·.1))));refine ((Cp J).append_right _).trans ?_;have h1:=qrU V;have h2:(M.J7++(M.Q5++M.J8.map (·.1))).Perm (n::(M.J7++(M.Q5++(ln n M.J8).map (·.1)))):=by refine ((h1.append_left M.Q5).append_left M.J7).trans ?_;rw[<- zV,<- zV];exact perm_middle
  exact (perm_middle.symm.trans (h2.symm.append_left M.Q1))
 exact Iu E rfl rfl E.Q2 I (EK E.cX) E.uC λe he=>E.body e (quM he);rename_i U;split;rename_i G;have G:=qC0.1 G;have O:n∉M.J7:=λh=>G.2 (zI _ (zH _ h));have I:({ M with J7:=ins n M.J7 }:eU).all.Perm (n::M.all):=by show (M.Q1++(ins n M.J7++(M.Q5++M.J8.map (·.1)))).Perm (n::(M.Q1++(M.J7++(M.Q5++M.J8.map (·.1)))));exact (((Cp O).append_right _).append_left M.Q1).trans perm_middle
 refine { n4:=E.n4,u32:=E.u32,Q2:=E.Q2,cP:=E.cP,Q9:=E.Q9,cX:=E.cX,uC:=EK E.uC,nodup:=I.nodup_iff.2 (nodup_cons.2 ⟨G.2,E.nodup⟩),range:=λx hx=>?_,body:=E.body };rcases zG.1 (I.mem_iff.1 hx) with rfl|h;exact G.1;exact E.range x h;exact E
def qCD(E:j9.2.length=27)(G:Q2.length=24):((gA db j9 sl sn x6 Q3 fb defb mb Q2).toList.drop 36).take 24=Q2.map (Value.int .u32):=by have h:((Value.pointer db::gh j9.1 j9.2)++qc sl sn x6 Q3 fb defb mb).length=36:=(by rw[zF,vv E];rfl);show (((Value.pointer db::gh j9.1 j9.2)++qc sl sn x6 Q3 fb defb mb++Q2.map (Value.int .u32)).drop 36).take 24=_;rw[<- h,LW (zM _),drop_length,xH,zS (by rw[zK,G];exact zM _)]
def uQ (dbk:Nat) (M:eU):Option Addr:=if M.Q3 then none else pW dbk
structure Lz (w:Md) (dbk pb:Nat) (FD F:Mk) (D:dQ) (M:eU) (k:Nat):Prop where
 cR:fO w dbk FD D
 lim:oV D k
 x8:fY w FD pb (uQ dbk M) F M
def fQ (M:eU) (t h r1 E:Int):Int×eU:=
 if M.Q3 then (7,M) else if t<0\/t>7 then (4,M) else (0,{ M with Q2:=M.Q2.take (3*t.toNat)++[h,r1,E]++M.Q2.drop (3*t.toNat+3) })
def dO (D:dQ) (M:eU) (n:Int):Int×List Int×Int:=
 if M.Q3 then (0,[],7) else match look n M.J8 with|some q=>(q.2.1,q.2.2,0)|none=>if iu M n=false then (0,[],10) else if (eW D n).2≠0 then (0,[],(eW D n).2) else fX n (eW D n).1
def qif(E:D.Ok)(G:∀e∈M.J8,fj e.2.2)(n:Int):fj (dO D M n).2.1:=by have h:fj ([]:Ml):=λx I=>nomatch I;unfold dO;split;exact h;split;rename_i q J;exact G _ (ya J).2;split;exact h;split;exact h;exact (qss (BL E n).1 n).1
def eU.z9 (M:eU):Prop:=(M.Q1++M.J8.map (·.1)).Perm M.Q9
def qvI(s:rH)(y6 numbers:Ml)(t:Int)(ov:Bool):(mg s y6 numbers t ov numbers).z9:=by show (numbers++[]).Perm numbers;rw[xG]
def qyf(J:M.Wf)(h:M.z9):(ij M kd l).2.z9:=by
 unfold ij;split;exact h;split;exact h;split;exact h;rename_i n r G;have E:n∉M.J8.map (·.1):=λO=>by have I:=J.nodup;rw[G,xI,LP] at I;exact I.1 (zI _ (zI _ (zI _ O)))
 show (r++(iU n (kd,l) M.J8).map (·.1)).Perm M.Q9;rw[qvg E,xL,<- zV];refine (LN n _).trans ?_;have:=h;rw[eU.z9,G] at this;exact this
def qAA(h:M.z9):(kZ M n kd l).2.z9:=by unfold kZ;split;exact h;split;exact h;rename_i q E;split;exact h;have G:n∈M.J8.map (·.1):=mem_map.2 ⟨_,(ya E).2,rfl⟩;show (M.Q1++(iU n (kd,l) M.J8).map (·.1)).Perm M.Q9;rw[qsK G];exact h
def qxX(J:M.Wf)(h:M.z9):(gf M n).2.z9:=by
 unfold gf;split;exact h;split;rename_i q O;have G:n∈M.J8.map (·.1):=mem_map.2 ⟨_,(ya O).2,rfl⟩;have I:=J.nodup;have E:n∉M.Q1:=λh=>by rw[yM] at I;exact I.2.2 n h n (zI _ (zI _ G)) rfl
 show (ins n M.Q1++(ln n M.J8).map (·.1)).Perm M.Q9;refine (((Cp E).append_right _).trans ?_).trans h;exact perm_middle.symm.trans ((qrU G).symm.append_left M.Q1);split;exact h;exact h
def eU.z9.mem(h:M.z9)(x:Int):x∈M.Q9↔x∈M.Q1\/x∈M.J8.map (·.1):=by rw[<- h.mem_iff,zD]
def Fs (l:Ml):ByteArray:=⟨(Lib.bytesOf l).toArray⟩
def iS {β:Type} (n:Int) (l:List (Int×β)):Option β:=(look n l).map (·.2)
def BB{β:Type}(n:Int)(p:Int×β)(r:List (Int×β)):iS n (p::r)=if n=p.1 then some p.2 else iS n r:=by unfold iS;rw[look];split;rfl;cases look n r<;>rfl
def qAT{β:Type}(n:Int)(v:β)(p:Int×β)(r:List (Int×β)):iU n v (p::r)=if n=p.1 then (n,v)::r else p::iU n v r:=by by_cases h:n=p.1;rw[iP h];unfold iU;rw[look,iP h];rfl;rw[iN h];unfold iU;rw[look,iN h];cases look n r<;>rfl
def qzy{β:Type}(n:Int)(p:Int×β)(r:List (Int×β)):ln n (p::r)=if n=p.1 then r else p::ln n r:=by by_cases h:n=p.1;rw[iP h];unfold ln;rw[look,iP h];rfl;rw[iN h];unfold ln;rw[look,iN h];cases look n r<;>rfl
def H7{β:Type}(n q:Int)(v:β):∀l:List (Int×β),iS q (iU n v l)=if q=n then some v else iS q l
 | []=>by show iS q [(n,v)]=_;rw[BB]
 | p::r=>by rw[qAT];by_cases h:n=p.1;rw[iP h,BB,BB,<- h];by_cases h2:q=n;rw[iP h2,iP h2];rw[iN h2,iN h2,iN h2];rw[iN h,BB,H7 n q v r,BB];by_cases h2:q=p.1;rw[iP h2,iN (λe=>h (by rw[<- e,h2])),iP h2];rw[iN h2,iN h2]
def KL{β:Type}{l:List (Int×β)}:iS n l=none↔n∉l.map (·.1):=by unfold iS;rw[Option.map_eq_none_iff,Bc]
def qsk{β:Type}(n q:Int):∀l:List (Int×β),(l.map (·.1)).Nodup->iS q (ln n l)=if q=n then none else iS q l
 | [],_=>by show iS q []=_;split<;>rfl
 | p::r,G=>by have E:=nodup_cons.1 (show (p.1::r.map (·.1)).Nodup from G);rw[qzy];by_cases h:n=p.1;rw[iP h,BB];by_cases h2:q=n;rw[iP h2,h2,h];exact KL.2 E.1;rw[iN h2,iN λe=>h2 (by rw[e,h])];rw[iN h,BB,qsk n q r E.2,BB];by_cases h2:q=p.1;rw[iP h2,iN (λe=>h (by rw[<- e,h2])),iP h2];rw[iN h2,iN h2]
def qz6(n:Int):∀l:Ml,l.length<=(ins n l).length
 | []=>yX _
 | a::l=>by
  have:=qz6 n l;simp only[ins];split;simp;split;exact zM _;simp only[yI];omega
def vt:iu M n=true↔2<=n/\n<M.j9.2.getD 0 0/\n∉M.Q5/\n∉M.Q1/\n∉M.J7/\iS n M.J8=none:=by unfold iu iS;rw[Option.map_eq_none_iff];simp only[yB,zT,L6,L7,Option.isNone_iff_eq_none];constructor;rintro⟨⟨⟨⟨⟨J,O⟩,h⟩,E⟩,G⟩,I⟩;exact⟨oL,oL,h,E,G,I⟩;rintro⟨J,O,h,E,G,I⟩;exact⟨⟨⟨⟨⟨oL,oL⟩,h⟩,E⟩,G⟩,I⟩
def eN (M:eU) (x:Int):Prop:=x∈M.J8.map (·.1)\/iu M x=true
def cN:x∈M.J8.map (·.1)↔∃q,iS x M.J8=some q:=by
 constructor;intro h;cases e:iS x M.J8 with|none=>exact absurd h (KL.1 e)|some q=>exact⟨q,rfl⟩
 rintro⟨q,e⟩;exact Classical.byContradiction λh=>by rw[KL.2 h] at e;cases e
def GO(h:M.Q3=false)(n:Int):dO D M n=match iS n M.J8 with|some q=>(q.1,q.2,0)|none=>if iu M n=false then (0,[],10) else if (eW D n).2≠0 then (0,[],(eW D n).2) else fX n (eW D n).1:=by
 unfold dO iS;rw[iN (by rw[h];decide)];cases look n M.J8<;>rfl
def JZ(E:M.Q3=false)(h:(dO D M n).2.2=0):eN M n:=by
 rw[GO E] at h;cases e:iS n M.J8 with
 | some q=>exact .inl (cN.2 ⟨q,e⟩)
 | none=>
  rw[e] at h;dsimp only at h;split at h;cases h;rename_i G;exact .inr (oS G)
def qAG(M:eU)(E:M.Q3=false){q:MD}(h:iS n M.J8=some q):dO D M n=(q.1,q.2,0):=by rw[GO E,h]
def Gf(M':eU)(E:M.Q3=false)(h:M'.Q3=false)(G:iS n M'.J8=iS n M.J8)(I:iu M' n=iu M n):dO D M' n=dO D M n:=by rw[GO E,GO h,G,I]
def Hz(M':eU)(h:iS n M'.J8=iS n M.J8)(E:iu M' n=iu M n):eN M' n↔eN M n:=by unfold eN;rw[cN,cN,h,E]
def Ex(E:M.Wf)(h:eN M x):2<=x/\x<M.j9.2.getD 0 0:=by rcases h with h|h;exact E.range x (by simp only[zD];exact .inr (.inr (.inr h)));exact⟨(vt.1 h).1,(vt.1 h).2.1⟩
structure pi (D:dQ) (M M':eU) (q p:Int) (r:Option (MD)):Prop where
 wf:M'.Wf
 Q3:M'.Q3=false
 Q2:M'.Q2=M.Q2
 j9:M'.j9=M.j9
 Q5:M'.Q5=M.Q5
 Q9:M'.Q9=M.Q9
 z9:M.z9->M'.z9
 x6:M'.x6=M.x6
 rest:∀ x,x≠q->x≠p->dO D M' x=dO D M x
 use:∀ x,x≠q->x≠p->(eN M' x↔eN M x)
 jT:∀ x,iu M' x=true->iu M x=true
 wrote:∀ y,r=some y->dO D M' q=(y.1,y.2,0)/\eN M' q
 left:p≠q->¬ eN M' p
def qv1{I:Ml}(V:M.Wf)(O:M.Q3=false)(hk:0<=kd/\kd<256)(hB:fj b)(hl:b.length<=500)(U:M.Q1=n::I): ∃M',ij M kd b=((n,0),M')/\pi D M M' n n (some (kd,b))/\¬eN M n/\M'.Q1=I/\M'.J7=M.J7:=by
 have e:ij M kd b=((n,0),{ M with Q1:=I,J8:=iU n (kd,b) M.J8 }):=(by rw[ij,iN (by rw[O];decide),iN,U]);have hw:=(qw4 V hk hB).1;rw[e] at hw;have aa:(n::(I++(M.J7++(M.Q5++M.J8.map (·.1))))).Nodup:=(by have:=V.nodup;rw[U] at this;exact this);have ab:=nodup_cons.1 aa;have ac:n∉M.J8.map (·.1):=λh=>ab.1 (by simp only[zD];exact .inr (.inr (.inr h)));have ad:¬eN M n:=λh=>by rcases h with h|h;exact ac h;exact (vt.1 h).2.2.2.1 (by rw[U];simp)
 have E:∀x,iS x (iU n (kd,b) M.J8)=if x=n then some (kd,b) else iS x M.J8:=λx=>H7 n x _ _
 have J:∀x,x≠n->iu { M with Q1:=I,J8:=iU n (kd,b) M.J8 } x=iu M x:=λx G=>by rw[LR,vt,vt];rw[E,iN G,U,zG];constructor;rintro⟨h1,h2,h3,h4,h5⟩;exact⟨h1,h2,h3,λh=>h.elim G h4,h5⟩;rintro⟨h1,h2,h3,h4,h5⟩;exact⟨h1,h2,h3,λh=>h4 (.inr h),h5⟩
 refine⟨_,e,⟨hw,O,rfl,rfl,rfl,rfl,λh=>?_,rfl,λx G _=>Gf { M with Q1:=I,J8:=iU n (kd,b) M.J8 } O O (by dsimp only;rw[E,iN G]) (J x G),λx G _=>Hz { M with Q1:=I,J8:=iU n (kd,b) M.J8 } (by dsimp only;rw[E,iN G]) (J x G),λx G=>?_,λy hy=>?_,λh=>absurd rfl h⟩,ad,rfl,rfl⟩;have:=qyf (kd:=kd) (l:=b) V h;rw[e] at this;exact this;by_cases hxn:x=n;have:=(vt.1 G).2.2.2.2.2;rw[E,iP hxn] at this;cases this;rw[J x hxn] at G;exact G;cases hy;refine⟨?_,.inl (cN.2 ⟨(kd,b),by dsimp only;rw[E,iP rfl]⟩)⟩;exact qAG { M with Q1:=I,J8:=iU n (kd,b) M.J8 } O (by dsimp only;rw[E,iP rfl])
def qys(V:M.Wf)(J:M.Q3=false)(hk:0<=kd/\kd<256)(hB:fj b)(hl:b.length<=500)(hf:n∈M.J8.map (·.1)): ∃M',kZ M n kd b=(0,M')/\pi D M M' n n (some (kd,b))/\M'.Q1=M.Q1/\M'.J7=M.J7:=by
 obtain⟨v,O⟩:=cN.1 hf;have e:kZ M n kd b=(0,{ M with J8:=iU n (kd,b) M.J8 }):=by unfold iS at O;obtain⟨q,hq,_⟩:=yT.1 O;rw[kZ,iN (by rw[J];decide),hq];rw[iN]
 have U:=(qAC (n:=n) V hk hB).1;rw[e] at U;have E:∀x,iS x (iU n (kd,b) M.J8)=if x=n then some (kd,b) else iS x M.J8:=λx=>H7 n x _ _
 have I:∀x,iu { M with J8:=iU n (kd,b) M.J8 } x=iu M x:=λx=>by rw[LR,vt,vt];rw[E];by_cases G:x=n;rw[iP G,G,O];simp;rw[iN G]
 refine⟨_,e,⟨U,J,rfl,rfl,rfl,rfl,λh=>?_,rfl,λx G _=>Gf { M with J8:=iU n (kd,b) M.J8 } J J (by dsimp only;rw[E,iN G]) (I x),λx G _=>Hz { M with J8:=iU n (kd,b) M.J8 } (by dsimp only;rw[E,iN G]) (I x),λx G=>by rw[I x] at G;exact G,λy hy=>?_,λh=>absurd rfl h⟩,rfl,rfl⟩;have:=qAA (n:=n) (kd:=kd) (l:=b) h;rw[e] at this;exact this;cases hy;refine⟨?_,.inl (cN.2 ⟨(kd,b),by dsimp only;rw[E,iP rfl]⟩)⟩;exact qAG { M with J8:=iU n (kd,b) M.J8 } J (by dsimp only;rw[E,iP rfl])
def qAB(h:M.Q3=false)(E:n∉M.J8.map (·.1)):kZ M n kd b=(10,M):=by rw[kZ,iN (by rw[h];decide),Bc.2 E]
def qnr(hW:M.Wf)(ho:M.Q3=false)(hu:eN M n)(U:n≠q): ∃M',gf M n=(0,M')/\pi D M M' q n none/\(dO D M' q=dO D M q)/\(eN M' q↔eN M q)/\M.Q1.length<=M'.Q1.length:=by
 have hw:=qwK (n:=n) hW;by_cases hf:n∈M.J8.map (·.1);obtain⟨v,hv⟩:=cN.1 hf;have ak:=hW.cC;have e:gf M n=(0,{ M with J8:=ln n M.J8,Q1:=ins n M.Q1 }):=by unfold iS at hv;obtain⟨y,hy,_⟩:=yT.1 hv;rw[gf,iN (by rw[ho];decide),hy]
 rw[e] at hw;have V:∀x,iS x (ln n M.J8)=if x=n then none else iS x M.J8:=λx=>qsk n x _ ak
 have I:∀x,x≠n->iu { M with J8:=ln n M.J8,Q1:=ins n M.Q1 } x=iu M x:=λx E=>by rw[LR,vt,vt];rw[V,iN E,Ev];constructor;rintro⟨h1,h2,h3,h4,h5⟩;exact⟨h1,h2,h3,λh=>h4 (.inr h),h5⟩;rintro⟨h1,h2,h3,h4,h5⟩;exact⟨h1,h2,h3,λh=>h.elim E h4,h5⟩
 have J:¬eN { M with J8:=ln n M.J8,Q1:=ins n M.Q1 } n:=λh=>by rcases h with h|h;obtain⟨y,hy⟩:=cN.1 h;rw[V,iP rfl] at hy;cases hy;exact (vt.1 h).2.2.2.1 (Ev.2 (.inl rfl))
 have O:∀x,x≠n->dO D { M with J8:=ln n M.J8,Q1:=ins n M.Q1 } x=dO D M x:=λx E=>Gf { M with J8:=ln n M.J8,Q1:=ins n M.Q1 } ho ho (by dsimp only;rw[V,iN E]) (I x E);have G:∀x,x≠n->(eN { M with J8:=ln n M.J8,Q1:=ins n M.Q1 } x↔eN M x):=λx E=>Hz { M with J8:=ln n M.J8,Q1:=ins n M.Q1 } (by dsimp only;rw[V,iN E]) (I x E);refine⟨_,e,⟨hw,ho,rfl,rfl,rfl,rfl,λh=>?_,rfl,λx _ E=>O x E,λx _ E=>G x E,λx E=>?_,λy hy=>(nomatch hy),λ_=>J⟩,O q λe=>U e.symm,G q λe=>U e.symm,?_⟩;have:=qxX (n:=n) hW h;rw[e] at this;exact this;by_cases hxn:x=n;subst hxn;exact absurd (.inr E) J;rw[I x hxn] at E;exact E;exact qz6 n M.Q1;have ah:iu M n=true:=hu.resolve_left hf;have e:gf M n=(0,{ M with J7:=ins n M.J7 }):=by rw[gf,iN (by rw[ho];decide),Bc.2 hf];rw[iP ah]
 rw[e] at hw;have I:∀x,x≠n->iu { M with J7:=ins n M.J7 } x=iu M x:=λx E=>by rw[LR,vt,vt];rw[Ev];constructor;rintro⟨h1,h2,h3,h4,h5,h6⟩;exact⟨h1,h2,h3,h4,λh=>h5 (.inr h),h6⟩;rintro⟨h1,h2,h3,h4,h5,h6⟩;exact⟨h1,h2,h3,h4,λh=>h.elim E h5,h6⟩
 have J:¬eN { M with J7:=ins n M.J7 } n:=λh=>by rcases h with h|h;exact hf h;exact (vt.1 h).2.2.2.2.1 (Ev.2 (.inl rfl))
 have O:∀x,x≠n->dO D { M with J7:=ins n M.J7 } x=dO D M x:=λx E=>Gf { M with J7:=ins n M.J7 } ho ho rfl (I x E);have G:∀x,x≠n->(eN { M with J7:=ins n M.J7 } x↔eN M x):=λx E=>Hz { M with J7:=ins n M.J7 } rfl (I x E);refine⟨_,e,⟨hw,ho,rfl,rfl,rfl,rfl,λh=>?_,rfl,λx _ E=>O x E,λx _ E=>G x E,λx E=>?_,λy hy=>(nomatch hy),λ_=>J⟩,O q λe=>U e.symm,G q λe=>U e.symm,zM _⟩;exact h;by_cases hxn:x=n;subst hxn;exact absurd (.inr E) J;rw[I x hxn] at E;exact E
noncomputable def dR (D:dQ) (M:eU) (k v:Nat) (p:Int):dX×Int:=
 if (dO D M p).2.2≠0 then (jx,(dO D M p).2.2) else jE (dO D M p).1 (dO D M p).2.1 k v
noncomputable def ee (k v:Nat) (M:eU) (p:Int) (n:dX):Mo×eU:=
 if (fu n k v).2.2≠0 then ((0,2),M)
 else if p≠0/\(kZ M p (fu n k v).1 (fu n k v).2.1).1≠10 then ((p,(kZ M p (fu n k v).1 (fu n k v).2.1).1),(kZ M p (fu n k v).1 (fu n k v).2.1).2)
 else if (ij M (fu n k v).1 (fu n k v).2.1).1.2=0/\p≠0 then (((ij M (fu n k v).1 (fu n k v).2.1).1.1,(gf (ij M (fu n k v).1 (fu n k v).2.1).2 p).1),(gf (ij M (fu n k v).1 (fu n k v).2.1).2 p).2)
 else ij M (fu n k v).1 (fu n k v).2.1
structure jq (n:dX) (k v:Nat):Prop where
 right:gp n k v
 J6:∀ a∈n.J6,fj a
 Q0:∀ a∈n.Q0,fj a
 J9:∀ x∈n.J9,x<4294967296
def jq.load{n:dX}(h:jq n k v)(E:dO D M p=(jQ n,ib n,0)):dR D M k v p=(n,0):=by unfold dR;rw[E];exact (iN λh=>h rfl).trans (qyu h.right h.J9)
def qvn{n:dX}(hW:M.Wf)(ho:M.Q3=false)(hn:jq n k v)(hp:p=0\/eN M p)(hf:M.Q1≠[]): ∃q M',ee k v M p n=((q,0),M')/\pi D M M' q (if p=0 then q else p) (some (jQ n,ib n))/\(q=p\/¬eN M q)/\M.Q1.length<=M'.Q1.length+1/\(p∈M.J8.map (·.1)->q=p/\M'.Q1=M.Q1):=by
 have hw:fu n k v=(jQ n,ib n,0):=(by unfold fu;rw[iP hn.right]);have hB:=qrK hn.J6 hn.Q0;have hl:=(GU hn.right).2;have hk:0<=jQ n/\jQ n<256:=(by unfold jQ;split<;>exact⟨oO,oO⟩);unfold ee;rw[hw];rw[iN λh=>h rfl];obtain⟨q,fr,O⟩:∃q fr,M.Q1=q::fr:=by
  cases e:M.Q1 with|nil=>exact absurd e hf|cons q fr=>exact⟨q,fr,rfl⟩
 obtain⟨M1,e1,E,U,ad,_⟩:=qv1 (D:=D) hW ho hk hB hl O;rcases hp with rfl|hp;rw[iN λh=>h.1 rfl,iN λh=>h.2 rfl,e1];refine⟨q,M1,rfl,by rw[iP rfl];exact E,.inr U,by rw[O,ad];exact zM _,λh=>?_⟩;have:=(Ex hW (.inl h)).1;omega;have I:p≠0:=(by have:=(Ex hW hp).1;omega);by_cases hfp:p∈M.J8.map (·.1);obtain⟨M2,e2,G,V,_⟩:=qys hW ho hk hB hl hfp;rw[e2,iP ⟨I,(show (0:Int)≠10 by decide)⟩];exact⟨p,M2,rfl,by rw[iN I];exact G,.inl rfl,by rw[V];omega,λ_=>⟨rfl,V⟩⟩;rw[qAB ho hfp,iN λh=>h.2 rfl,e1,iP ⟨rfl,I⟩];have aa:p≠q:=λe=>U (e▸hp);have ak:eN M1 p:=(E.use p aa aa).2 hp;obtain⟨M2,e2,G,al,an,V⟩:=qnr E.wf E.Q3 ak aa;dsimp only;rw[e2];refine⟨q,M2,rfl,?_,.inr U,by rw[O,yI,<- ad];omega,λh=>absurd h hfp⟩;rw[iN I];exact⟨G.wf,G.Q3,G.Q2.trans E.Q2,G.j9.trans E.j9,G.Q5.trans E.Q5,G.Q9.trans E.Q9,λh=>G.z9 (E.z9 h),G.x6.trans E.x6,λx J ab=>(G.rest x J ab).trans (E.rest x J J),λx J ab=>(G.use x J ab).trans (E.use x J J),λx J=>E.jT x (G.jT x J),λy hy=>by
  have:=E.wrote y hy;exact⟨al.trans this.1,an.2 this.2⟩,λh=>G.left h⟩
structure Grown where
 x5:Int
 J8:Bool
 key:Key
 x4:Int
def ru:Grown:=⟨0,false,[],0⟩
def gz {α:Type} (l:List α) (i:Nat) (x:α):List α:=l.take i++[x]++l.drop i
def fC (n:dX) (k v:Nat):Mu:=if n.Q4 then (n.J6.length,(eG k v).1) else (n.J9.length,(eG k v).2)
def eP (n:dX) (mid:Nat):dX×dX×Key:=
 if n.Q4 then ({ n with J6:=n.J6.take mid,Q0:=n.Q0.take mid },{ n with J6:=n.J6.drop mid,Q0:=n.Q0.drop mid },n.J6.getD mid [])
 else ({ n with J9:=n.J9.take mid,J6:=n.J6.take (mid-1) },{ n with J9:=n.J9.drop mid,J6:=n.J6.drop mid },n.J6.getD (mid-1) [])
noncomputable def gT (k v:Nat) (M:eU) (p:Int) (n:dX) (J8:Bool):(Grown×Int)×eU:=
 if (fC n k v).1>(fC n k v).2 then
  if (ee k v M 0 (eP n ((fC n k v).1 / 2)).2.1).1.2≠0 then ((ru,(ee k v M 0 (eP n ((fC n k v).1 / 2)).2.1).1.2),(ee k v M 0 (eP n ((fC n k v).1 / 2)).2.1).2)
  else ((⟨(ee k v (ee k v M 0 (eP n ((fC n k v).1 / 2)).2.1).2 p (eP n ((fC n k v).1 / 2)).1).1.1,J8,(eP n ((fC n k v).1 / 2)).2.2,(ee k v M 0 (eP n ((fC n k v).1 / 2)).2.1).1.1⟩,
    (ee k v (ee k v M 0 (eP n ((fC n k v).1 / 2)).2.1).2 p (eP n ((fC n k v).1 / 2)).1).1.2),
    (ee k v (ee k v M 0 (eP n ((fC n k v).1 / 2)).2.1).2 p (eP n ((fC n k v).1 / 2)).1).2)
 else ((⟨(ee k v M p n).1.1,J8,[],0⟩,(ee k v M p n).1.2),(ee k v M p n).2)
def iz (n:dX) (c:Nat) (g:Grown):dX:=
 if g.x4≠0 then { n with J9:=gz (n.J9.set c g.x5) (c+1) g.x4,J6:=gz n.J6 c g.key } else { n with J9:=n.J9.set c g.x5 }
noncomputable def jg (D:dQ) (k v:Nat) (key val:Key):Nat->eU->Int->(Grown×Int)×eU
 | 0,M,_=>((ru,-1),M)
 | f+1,M,p=>
  if (dR D M k v p).2≠0 then ((ru,(dR D M k v p).2),M)
  else if (dR D M k v p).1.Q4 then
   if (dR D M k v p).1.J6[eh (dR D M k v p).1.J6 key]?=some key then gT k v M p { (dR D M k v p).1 with Q0:=(dR D M k v p).1.Q0.set (eh (dR D M k v p).1.J6 key) val } false
   else gT k v M p { (dR D M k v p).1 with J6:=gz (dR D M k v p).1.J6 (eh (dR D M k v p).1.J6 key) key,Q0:=gz (dR D M k v p).1.Q0 (eh (dR D M k v p).1.J6 key) val } true
  else if (jg D k v key val f M ((dR D M k v p).1.J9.getD (ga (dR D M k v p).1.J6 key) 0)).1.2≠0 then
   ((ru,(jg D k v key val f M ((dR D M k v p).1.J9.getD (ga (dR D M k v p).1.J6 key) 0)).1.2),(jg D k v key val f M ((dR D M k v p).1.J9.getD (ga (dR D M k v p).1.J6 key) 0)).2)
  else if (jg D k v key val f M ((dR D M k v p).1.J9.getD (ga (dR D M k v p).1.J6 key) 0)).1.1.x5=(dR D M k v p).1.J9.getD (ga (dR D M k v p).1.J6 key) 0/\(jg D k v key val f M ((dR D M k v p).1.J9.getD (ga (dR D M k v p).1.J6 key) 0)).1.1.x4=0 then
   ((⟨p,(jg D k v key val f M ((dR D M k v p).1.J9.getD (ga (dR D M k v p).1.J6 key) 0)).1.1.J8,[],0⟩,0),(jg D k v key val f M ((dR D M k v p).1.J9.getD (ga (dR D M k v p).1.J6 key) 0)).2)
  else gT k v (jg D k v key val f M ((dR D M k v p).1.J9.getD (ga (dR D M k v p).1.J6 key) 0)).2 p (iz (dR D M k v p).1 (ga (dR D M k v p).1.J6 key) (jg D k v key val f M ((dR D M k v p).1.J9.getD (ga (dR D M k v p).1.J6 key) 0)).1.1) (jg D k v key val f M ((dR D M k v p).1.J9.getD (ga (dR D M k v p).1.J6 key) 0)).1.1.J8
structure jF where
 x5:Int
 size:Nat
 y5:iF
 y6:Ml
abbrev lI:=Key×jF
def fL (L:iF):dX:=⟨true,L.map (·.1),L.map (·.2),[]⟩
def eK (es:List lI):dX:=⟨false,(es.map (·.1)).tail,[],es.map (·.2.x5)⟩
structure gI (es:List lI):Prop where
 pair:es.Pairwise λa b=>gX a.1 b.1/\∀ x∈a.2.y5,gX x.1 b.1
 low:∀ e∈es,∀ x∈e.2.y5,pr e.1 x.1
def minOf (k v:Nat) (h:Nat):Nat:=if h=0 then (eG k v).1 / 2 else (eG k v).2 / 2
def Has (D:dQ) (M:eU) (k v:Nat):Nat->jF->Prop
 | 0,s=>s.y6=[s.x5]/\s.size=s.y5.length/\jq (fL s.y5) k v/\dO D M s.x5=(3,ib (fL s.y5),0)
 | h+1,s=>∃E:List lI,(E.map (·.1)).head?=some []/\s.size=E.length/\s.y5=E.flatMap (·.2.y5)/\s.y6=s.x5::E.flatMap (·.2.y6)/\jq (eK E) k v/\dO D M s.x5=(4,ib (eK E),0)/\gI E/\
   ∀e∈E,Has D M k v h e.2/\minOf k v h<=e.2.size
def ES(x:Key):pr [] x:=by unfold pr gX;cases x<;>simp[cmpL]
def qnN{x:Key}:¬gX x []:=ES x
def Has.mem:∀ {h:Nat} {s:jF},Has D M k v h s->s.x5∈s.y6
 | 0,s,E=>by rw[E.1];simp
 | h+1,s,⟨I,_,_,_,G,_⟩=>by rw[G];simp
def Has.j0:∀ {h:Nat} {s:jF},Has D M k v h s->(∀x∈s.y6,dO D M' x=dO D M x)->Has D M' k v h s
 | 0,s,⟨G,J,E,O⟩,I=>⟨G,J,E,by rw[I s.x5 (by rw[G];simp)];exact O⟩
 | h+1,s,⟨es,h0,G,J,E,O,h5,h6,V⟩,I=>⟨es,h0,G,J,E,O,by rw[I s.x5 (by rw[E];simp)];exact h5,h6,λe U=>⟨(V e U).1.j0 λx hx=>I x (by rw[E];exact zN _ (yK.2 ⟨e,U,hx⟩)),(V e U).2⟩⟩
def Has.read:∀ {h:Nat} {s:jF},Has D M k v h s->∀x∈s.y6,(dO D M x).2.2=0
 | 0,s,⟨G,O,I,J⟩,x,E=>by rw[G] at E;rw[zE.1 E,J]
 | h+1,s,⟨es,h0,G,O,I,J,U,h6,V⟩,x,E=>by rw[I] at E;rcases zG.1 E with rfl|E;rw[U];obtain⟨e,he,E⟩:=yK.1 E;exact (V e he).1.read x E
def Has.J4(E:M.Q3=false){s:jF}(G:Has D M k v h s):∀x∈s.y6,eN M x:=λx I=>JZ E (G.read x I)
def gp.CQ{L:iF}(h:gp (fL L) k v):L≠[]:=λe=>by
 have:=h.2.2.2;rw[iP (show (fL L).Q4=true from rfl)] at this;have E:=this.2.1;rw[e] at E;exact absurd E oO
variable {es:List lI} {P:Ml}
def gp.x9(h:gp (eK es) k v):2<=es.length/\es.length<=(eG k v).2:=by
 have:=h.2.2.2;rw[iN (show ¬(eK es).Q4=true from λe=>nomatch e)] at this;have E:=this.2.2.1;have G:=this.2.2.2.1;have e:(eK es).J9.length=es.length:=(by show (es.map _).length=_;rw[zK]);rw[e] at E G;exact⟨E,G⟩
def Has.ne:∀ {h:Nat} {s:jF},Has D M k v h s->s.y5≠[]
 | 0,s,⟨J,E,G,I⟩=>G.right.CQ
 | h+1,s,⟨O,V,J,E,G,I,h5,h6,U⟩=>λe=>by
  have:=I.right.x9
  cases O with
  | nil=>simp at this
  | cons a r=>
   rw[E,yH] at e;exact (U a oN).1.ne (append_eq_nil_iff.1 e).1
def gI.mid{A B:List lI}{e:lI}(h:gI (A++e::B)):(∀a∈A,∀x∈a.2.y5,gX x.1 e.1)/\(∀b∈B,gX e.1 b.1/\(∀x∈e.2.y5,gX x.1 b.1)/\∀y∈b.2.y5,pr b.1 y.1):=by
 have E:=pairwise_append.1 h.pair;refine⟨λa I x J=>(E.2.2 a I e oN).2 x J,λb G=>?_⟩;have:=(yJ.1 E.2.1).1 b G;exact⟨this.1,this.2,h.low b (by simp[G])⟩
def gI.sort:∀ {es:List lI},gI es->(∀e∈es,gq e.2.y5)->gq (es.flatMap (·.2.y5))
 | [],_,_=>.nil
 | e::es,h,I=>by rw[yH,gq.xq];have J:=yJ.1 h.pair;refine⟨I e oN,gI.sort ⟨J.2,λe E=>h.low e (zN _ E)⟩ λe E=>I e (zN _ E),λx U y G=>?_⟩;obtain⟨b,O,G⟩:=yK.1 G;exact vY ((J.1 b O).2 x U) (h.low b (zN _ O) y G)
def Has.sort:∀ {h:Nat} {s:jF},Has D M k v h s->gq s.y5
 | 0,s,⟨I,E,G,J⟩=>G.right.2.2.1
 | h+1,s,⟨es,h0,I,E,G,J,h5,O,U⟩=>by rw[E];exact O.sort λe V=>(U e V).1.sort
def pg (k v:Nat) (L:iF):Prop:=∀x∈L,x.1.length=k/\x.2.length=v/\fj x.1/\fj x.2
def Has.BK:∀ {h:Nat} {s:jF},Has D M k v h s->pg k v s.y5
 | 0,s,⟨J,I,G,O⟩=>λx E=>⟨G.right.1 x.1 (zY E),G.right.2.1 x.2 (zY E),G.J6 x.1 (zY E),G.Q0 x.2 (zY E)⟩
 | h+1,s,⟨es,h0,J,I,G,O,h5,h6,U⟩=>λx E=>by rw[I] at E;obtain⟨e,V,E⟩:=yK.1 E;exact (U e V).1.BK x E
def EB{L:iF}(G:pg k v L)(I:gq L)(J:1<=L.length)(O:L.length<=(eG k v).1):jq (fL L) k v:=by refine⟨⟨λa E=>?_,λa E=>?_,I,?_⟩,λa E=>?_,λa E=>?_,λx h=>nomatch h⟩;obtain⟨x,h,rfl⟩:=mem_map.1 E;exact (G x h).1;obtain⟨x,h,rfl⟩:=mem_map.1 E;exact (G x h).2.1;rw[iP (show (fL L).Q4=true from rfl)];refine⟨rfl,?_,?_,?_⟩;show 1<=(L.map _).length;rw[zK];exact J;show (L.map _).length<=_;rw[zK];exact O;show (L.map _).length=(L.map _).length;rw[zK,zK];obtain⟨x,h,rfl⟩:=mem_map.1 E;exact (G x h).2.2.1;obtain⟨x,h,rfl⟩:=mem_map.1 E;exact (G x h).2.2.2
def qDR(I:∀a∈(es.map (·.1)).tail,a.length=k/\fj a)(O:gQ (es.map (·.1)).tail)(U:2<=es.length)(V:es.length<=(eG k v).2)(J:∀e∈es,2<=e.2.x5/\e.2.x5<4294967296):jq (eK es) k v:=by refine⟨⟨λa h=>(I a h).1,λa h=>(nomatch h),O,?_⟩,λa h=>(I a h).2,λa h=>(nomatch h),λx E=>?_⟩;rw[iN (show ¬(eK es).Q4=true from λe=>nomatch e)];have e1:(eK es).J9.length=es.length:=(by show (es.map _).length=_;rw[zK]);have e2:(eK es).J6.length=es.length-1:=(by show ((es.map _).tail).length=_;rw[length_tail,zK]);refine⟨λx E=>?_,rfl,by rw[e1];exact U,by rw[e1];exact V,by rw[e1,e2];omega⟩;obtain⟨e,G,rfl⟩:=mem_map.1 E;exact (J e G).1;obtain⟨e,G,rfl⟩:=mem_map.1 E;exact (J e G).2
def gI.rising(h:gI es):gQ (es.map (·.1)).tail:=by have E:=pairwise_map.2 (h.pair.imp λh=>h.1);exact List.Pairwise.sublist (tail_sublist _) E
structure Step (D:dQ) (M M':eU) (P P':Ml):Prop where
 wf:M'.Wf
 Q3:M'.Q3=false
 Q2:M'.Q2=M.Q2
 j9:M'.j9=M.j9
 Q5:M'.Q5=M.Q5
 Q9:M'.Q9=M.Q9
 z9:M.z9->M'.z9
 x6:M'.x6=M.x6
 rest:∀ x,eN M x->x∉P->dO D M' x=dO D M x/\eN M' x/\x∉P'
 use:∀ x,eN M' x->x∈P'\/(eN M x/\x∉P)
 has:∀ x∈P',eN M' x
 new:∀ x∈P',x∈P\/¬ eN M x
 nodup:P'.Nodup
 jT:∀ x,iu M' x=true->iu M x=true
def Step.refl(G:M.Wf)(I:M.Q3=false)(J:∀x∈P,eN M x)(O:P.Nodup):Step D M M P P:=
 ⟨G,I,rfl,rfl,rfl,rfl,id,rfl,λx E U=>⟨rfl,E,U⟩,λx E=>by by_cases h:x∈P;exact .inl h;exact .inr ⟨E,h⟩,J,λx E=>.inl E,O,λx E=>E⟩
def Step.perm{P' Q O:Ml}(h:Step D M M' P P')(J:P.Perm Q)(E:P'.Perm O):Step D M M' Q O:=
 ⟨h.wf,h.Q3,h.Q2,h.j9,h.Q5,h.Q9,h.z9,h.x6,λx G U=>by obtain⟨V,h2,h3⟩:=h.rest x G λI=>U (J.mem_iff.1 I);exact⟨V,h2,λI=>h3 (E.mem_iff.2 I)⟩,λx G=>(h.use x G).imp (λh=>E.mem_iff.1 h) λh=>⟨h.1,λI=>h.2 (J.mem_iff.2 I)⟩,λx G=>h.has x (E.mem_iff.2 G),λx G=>(h.new x (E.mem_iff.2 G)).imp (λh=>J.mem_iff.1 h) id,E.nodup_iff.1 h.nodup,h.jT⟩
def Step.beside{P' Z:Ml}(h:Step D M M' P P')(V:∀x∈Z,eN M x)(hn:(Z++P).Nodup):Step D M M' (Z++P) (Z++P'):=by have hd:=yM.1 hn;have I:∀x∈Z,x∉P:=λx E O=>hd.2.2 x E x O rfl;refine⟨h.wf,h.Q3,h.Q2,h.j9,h.Q5,h.Q9,h.z9,h.x6,λx E O=>?_,λx E=>?_,λx E=>?_,λx E=>?_,?_,h.jT⟩;obtain⟨J,U,h3⟩:=h.rest x E λG=>O (zI _ G);exact⟨J,U,λG=>(zD.1 G).elim (λG=>O (zH _ G)) h3⟩;rcases h.use x E with J|⟨J,U⟩;exact .inl (zI _ J);by_cases hz:x∈Z;exact .inl (zH _ hz);exact .inr ⟨J,λG=>(zD.1 G).elim hz U⟩;rcases zD.1 E with E|E;exact (h.rest x (V x E) (I x E)).2.1;exact h.has x E;rcases zD.1 E with E|E;exact .inl (zH _ E);exact (h.new x E).imp (λh=>zI _ h) id;rw[yM];exact⟨hd.1,h.nodup,λx E y hy e=>(h.rest x (V x E) (I x E)).2.2 (e▸hy)⟩
def Step.trans{M1:eU}{Q R:Ml}(h:Step D M M1 P Q)(g:Step D M1 M' Q R):Step D M M' P R:=
 ⟨g.wf,g.Q3,g.Q2.trans h.Q2,g.j9.trans h.j9,g.Q5.trans h.Q5,g.Q9.trans h.Q9,λx=>g.z9 (h.z9 x),g.x6.trans h.x6,λx G O=>by
  obtain⟨E,I,J⟩:=h.rest x G O;obtain⟨U,V,g3⟩:=g.rest x I J;exact⟨U.trans E,V,g3⟩,λx G=>by
  rcases g.use x G with E|⟨E,I⟩;exact .inl E;exact (h.use x E).elim (λJ=>absurd J I) .inr,g.has,λx G=>by
  rcases g.new x G with E|E;exact h.new x E;by_cases hP:x∈P;exact .inl hP;by_cases hu:eN M x;exact absurd (h.rest x hu hP).2.1 E;exact .inr hu,g.nodup,λx G=>h.jT x (g.jT x G)⟩
def pi.step{r:MD}(U:M.Q3=false)(h:pi D M M' q p (some r))(V:eN M p)(I:q=p\/¬eN M q):Step D M M' [p] [q]:=by
 have O:=h.wrote r rfl;refine⟨h.wf,h.Q3,h.Q2,h.j9,h.Q5,h.Q9,h.z9,h.x6,λx J E=>?_,λx J=>?_,λx J=>?_,λx J=>?_,oN,h.jT⟩;have E:x≠p:=(oS E);have G:x≠q:=λe=>by rcases I with I|I;exact E (e.trans I);exact I (e▸J)
 exact⟨h.rest x G E,(h.use x G E).2 J,by simpa using G⟩;by_cases G:x=q;exact .inl (by simp[G]);by_cases E:x=p;subst E;exact absurd J (h.left λe=>G e);exact .inr ⟨(h.use x G E).1 J,by simpa using E⟩;rw[zE.1 J];exact O.2;rw[zE.1 J];rcases I with I|I;exact .inl (by simp[I]);exact .inr I
def pi.J8{r:MD}(O:M.Q3=false)(h:pi D M M' q q (some r))(I:¬eN M q):Step D M M' [] [q]:=by have J:=h.wrote r rfl;refine⟨h.wf,h.Q3,h.Q2,h.j9,h.Q5,h.Q9,h.z9,h.x6,λx G _=>?_,λx G=>?_,λx G=>?_,λx G=>?_,oN,h.jT⟩;have E:x≠q:=λe=>I (e▸G);exact⟨h.rest x E E,(h.use x E E).2 G,by simpa using E⟩;by_cases E:x=q;exact .inl (by simp[E]);exact .inr ⟨(h.use x E E).1 G,oN⟩;rw[zE.1 G];exact J.2;rw[zE.1 G];exact .inr I
end Go.Proofs.YtcnddmfogfebiaaGreatDoor
