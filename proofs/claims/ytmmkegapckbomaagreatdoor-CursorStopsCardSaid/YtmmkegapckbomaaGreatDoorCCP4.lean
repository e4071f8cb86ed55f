/- Texts TrE, TrF, NdC, ReA, NdD, NdE, NdF, NdG, NdH, NdI, NdJ, TrG, TrH, PrO, TrI, TeA, TeB, TeC, TeD, TeE: contracts of the program's functions, one behind the other. Conditions: those that stand in each line. -/
import Derived.Test.YtmmkegapckbomaaGreatDoorCCP3
import Derived.Test.YtmmkegapckbomaaGreatDoorCCP1
import Derived.Test.YtmmkegapckbomaaGreatDoorCCP2
set_option linter.unusedVariables false
set_option linter.unusedSimpArgs false
section
namespace Go.Proofs.YtmmkegapckbomaaGreatDoor
open Go Go.Pt List
open Classical
section
variable {D:DiskM} {M M':PgM} {k v:Nat}
theorem qfU {p:Int} {n:NodeM} (A:M.Wf) (C:M.over=false) (E:NodeOk n k v) (h:InUse M p) (G:M.free≠[]) :
  ∃ q M',storeN k v M p n=((q,0),M')/\Step D M M' [p] [q]/\pagerReadM D M' q=(kindN n,bodyN n,0)/\M.free.length<=M'.free.length+1/\(p∈M.fresh.map (·.1)->q=p/\M'.free=M.free):=by
 obtain ⟨q,M',e,t,I,J,K⟩:=qnF (D:=D) A C E (.inr h) G
 have u:p≠0:=by have:=(qfz A h).1; omega
 rw [if_neg u] at t
 exact ⟨q,M',e,t.step C h I,(t.wrote _ rfl).1,J,K⟩
theorem qhT {n:NodeM} (C:M.Wf) (u:M.over=false) (E:NodeOk n k v) (G:M.free≠[]) :
  ∃ q M',storeN k v M 0 n=((q,0),M')/\Step D M M' [] [q]/\pagerReadM D M' q=(kindN n,bodyN n,0)/\M.free.length<=M'.free.length+1/\q≠0:=by
 obtain ⟨q,M',e,t,I,J,_⟩:=qnF (D:=D) C u E (.inl rfl) G
 rw [if_pos rfl] at t
 have A:=t.wrote _ rfl
 have K:=(qfz t.wf A.2).1
 have h:¬ InUse M q:=I.resolve_left (by omega)
 exact ⟨q,M',e,t.fresh u h,A.1,J,by omega⟩
theorem qi1 {p:Int} {n:NodeM} {fresh:Bool} (h:M.Wf) (u:M.over=false) (A:NodeOk n k v) (J:(sizeN n k v).1<=(sizeN n k v).2) (C:InUse M p) (E:M.free≠[]) :
  ∃ q M',splitN k v M p n fresh=((⟨q,fresh,[],0⟩,0),M')/\Step D M M' [p] [q]/\pagerReadM D M' q=(kindN n,bodyN n,0)/\M.free.length<=M'.free.length+1:=by
 obtain ⟨q,M',e,st,G,I,_⟩:=qfU (D:=D) h u A C E
 refine ⟨q,M',?_,st,G,I⟩
 unfold splitN
 rw [if_neg (by omega),e]
theorem qlx {p:Int} {n:NodeM} {fresh:Bool} {mid:Nat} (hW:M.Wf) (ho:M.over=false) (A:(sizeN n k v).1 / 2=mid) (h1:NodeOk (halvesN n mid).1 k v) (h2:NodeOk (halvesN n mid).2.1 k v) (hs:(sizeN n k v).1>(sizeN n k v).2) (U:InUse M p) (V:2<=M.free.length) :
  ∃ q o M',splitN k v M p n fresh=((⟨q,fresh,(halvesN n mid).2.2,o⟩,0),M')/\o≠0/\Step D M M' [p] [q,o]/\pagerReadM D M' q=(kindN (halvesN n mid).1,bodyN (halvesN n mid).1,0)/\pagerReadM D M' o=(kindN (halvesN n mid).2.1,bodyN (halvesN n mid).2.1,0)/\M.free.length<=M'.free.length+2:=by
 subst A
 obtain ⟨o,M1,e1,u,J,C,K⟩:=qhT (D:=D) hW ho h2 (fun e=>by rw [e] at V; exact absurd V (by decide))
 have s1:=u.beside (Z:=[p]) (fun x O=>by rw [zE.1 O]; exact U) (by simp)
 have Q:InUse M1 p:=s1.has p (by simp)
 obtain ⟨q,M2,e2,E,R,ai,_⟩:=qfU (D:=D) u.wf u.over h1 Q (fun e=>by rw [e] at C; simp at C; omega)
 have G:o≠p:=fun e=>by
  rcases u.new o (by simp) with h | h
  ·cases h
  ·exact h (e▸U)
 have I:InUse M1 o:=u.has o (by simp)
 have s2:=E.beside (Z:=[o]) (fun x O=>by rw [zE.1 O]; exact I) (by simpa using G)
 refine ⟨q,o,M2,?_,K,(s1.perm (.refl _) (List.Perm.swap _ _ _)).trans (s2.perm (.refl _) (List.Perm.swap _ _ _)),R,?_,by omega⟩
 ·unfold splitN
  rw [if_pos hs,e1]
  dsimp only
  rw [if_neg (fun h=>h rfl),e2]
 ·rw [(E.rest o I (by simpa using G)).1]; exact J
theorem quf {L:Prs} {key val:Key} {i:Nat} (h:(keysP L)[i]?=some key):(⟨(lfOf L).leaf,keysP L,(lfOf L).vals.set i val,(lfOf L).kids⟩:NodeM)=lfOf (L.set i (key,val)):=by
 unfold lfOf
 rw [map_set,map_set]
 have:(L.map (·.1)).set i key=L.map (·.1):=by
  obtain ⟨u,A⟩:=zP.1 h
  rw [<- A]
  exact set_getElem_self u
 rw [this]
theorem qtY {L:Prs} {key val:Key} {i:Nat}:(⟨(lfOf L).leaf,insAt (keysP L) i key,insAt (lfOf L).vals i val,(lfOf L).kids⟩:NodeM)=lfOf (L.take i++[(key,val)]++L.drop i):=by
 unfold lfOf insAt
 simp only [xM,xO,xP,xN,map_nil]
theorem qqT {L:Prs} {mid:Nat} (h:mid<L.length):halvesN (lfOf L) mid=(lfOf (L.take mid),lfOf (L.drop mid),L[mid].1):=by
 unfold halvesN
 rw [if_pos (show (lfOf L).leaf=true from rfl)]
 unfold lfOf
 simp only [xO,xP,Prod.mk.injEq,true_and]
 rw [yQ,zQ,zA h]
 rfl
theorem qh5 {L:Prs}:sizeN (lfOf L) k v=(L.length,(capsV k v).1):=by
 unfold sizeN
 rw [if_pos (show (lfOf L).leaf=true from rfl)]
 show ((L.map _).length,_)=_
 rw [zK]
theorem PrsOk.sub {L L':Prs} (h:PrsOk k v L) (u:∀ x∈L',x∈L):PrsOk k v L':=fun x A=>h x (u x A)
theorem SortP.take {L:Prs} (h:SortP L) (n:Nat):SortP (L.take n):=by unfold SortP keysP; rw [xO]; exact Rising.take h n
theorem SortP.drop {L:Prs} (h:SortP L) (n:Nat):SortP (L.drop n):=by unfold SortP keysP; rw [xP]; exact Rising.drop h n
theorem qdS {q:Int} {L:Prs} (h:NodeOk (lfOf L) k v) (u:pagerReadM D M q=(3,bodyN (lfOf L),0)):Has D M k v 0 ⟨q,L.length,L,[q]⟩:=⟨rfl,rfl,h,u⟩
structure PutOk (D:DiskM) (M:PgM) (k v:Nat) (h:Nat) (s:Seg) (key val:Key) (g:Grown) (M':PgM):Prop where
 fresh:g.fresh=decide (key∉keysP s.prs)
 free:M.free.length<=M'.free.length+2*(h+1)
 res:(g.other=0/\∃ n P,Has D M' k v h ⟨g.page,n,insP key val s.prs,P⟩/\Step D M M' s.pages P/\s.size<=n)\/
  (g.other≠0/\∃ n1 L1 P1 n2 L2 P2,Has D M' k v h ⟨g.page,n1,L1,P1⟩/\Has D M' k v h ⟨g.other,n2,L2,P2⟩/\L1++L2=insP key val s.prs/\(∀ x∈L1,KLt x.1 g.key)/\(∀ y∈L2,KLe g.key y.1)/\g.key.length=k/\IsB g.key/\minOf k v h<=n1/\minOf k v h<=n2/\Step D M M' s.pages (P1++P2))
structure CapsOk (k v:Nat):Prop where
 leaf:2<=(capsV k v).1
 inner:4<=(capsV k v).2
theorem qng {p:Int} {L L':Prs} {key val:Key} {fresh:Bool} (hc:CapsOk k v) (hW:M.Wf) (ho:M.over=false) (hp:InUse M p) (R:2<=M.free.length)
  (K:PrsOk k v L') (O:SortP L') (h1:1<=L'.length) (h2:L'.length<=(capsV k v).1+1) (h3:L.length<=L'.length) (he:L'=insP key val L) (A:fresh=decide (key∉keysP L)) :
  ∃ g M',splitN k v M p (lfOf L') fresh=((g,0),M')/\PutOk D M k v 0 ⟨p,L.length,L,[p]⟩ key val g M':=by
 by_cases hb:L'.length<=(capsV k v).1
 ·have hn:=qe4 K O h1 hb
  obtain ⟨q,M',e,st,hr,hl⟩:=qi1 (D:=D) (fresh:=fresh) hW ho hn (by rw [qh5]; exact hb) hp (fun e=>by rw [e] at R; exact absurd R (by decide))
  refine ⟨_,M',e,A,by show M.free.length<=M'.free.length+2; omega,.inl ⟨rfl,L'.length,[q],?_,st,h3⟩⟩
  rw [<- he]
  exact qdS hn hr
 ·have af:L'.length=(capsV k v).1+1:=by omega
  have ap:=hc.leaf
  have h:L'.length / 2<L'.length:=by omega
  have U:=qqT h
  have n1:NodeOk (lfOf (L'.take (L'.length / 2))) k v:=qe4 (K.sub fun x C=>yU C) (O.take _) (by rw [yK]; omega) (by rw [yK]; omega)
  have n2:NodeOk (lfOf (L'.drop (L'.length / 2))) k v:=qe4 (K.sub fun x C=>yT C) (O.drop _) (by rw [yB]; omega) (by rw [yB]; omega)
  obtain ⟨q,o,M',e,V,st,E,G,hl⟩:=qlx (D:=D) (k:=k) (v:=v) (p:=p) (fresh:=fresh) (mid:=L'.length / 2) (n:=lfOf L') hW ho (by rw [qh5]) (by rw [U]; exact n1) (by rw [U]; exact n2) (by rw [qh5]; show L'.length>_; omega) hp R
  rw [U] at e E G
  have I:L'=L'.take (L'.length / 2)++L'.drop (L'.length / 2):=(xD _ _).symm
  have hd:=zX h
  have u:=O
  rw [I] at u
  have u:=SortP.app.1 u
  have J:=K _ (zW h)
  refine ⟨⟨q,fresh,L'[L'.length / 2].1,o⟩,M',e,A,by show M.free.length<=M'.free.length+2; omega,.inr ⟨V,(L'.take (L'.length / 2)).length,_,[q],(L'.drop (L'.length / 2)).length,_,[o],qdS n1 E,qdS n2 G,by rw [<- I]; exact he,fun x C=>u.2.2 x C _ (by rw [hd]; exact mem_cons_self),fun y Q=>?_,J.1,J.2.2.1,?_,?_,st⟩⟩
  ·have h5:=u.2.1
   rw [hd] at Q h5
   rcases zG.1 Q with rfl | Q
   ·exact qax
   ·exact qaS (qbn (x:=L'[L'.length / 2].1) (r:=keysP _) h5 y.1 (zY Q))
  ·rw [yK]
   show (capsV k v).1 / 2<=_
   omega
  ·rw [yB]
   show (capsV k v).1 / 2<=_
   omega
theorem qbB {es:List Ent} {key:Key} (u:(es.map (·.1)).head?=some []) (K:SepE es):∃ A e B,es=A++e::B/\A.length=kidV ((es.map (·.1)).tail) key/\KLe e.1 key/\(∀ b∈B,KLt key b.1)/\(es.map (·.2.page)).getD (kidV ((es.map (·.1)).tail) key) 0=e.2.page:=by
 have O:=K.rising
 have C:=qdL ((es.map (·.1)).tail) key
 have E:es≠[]:=fun e=>by rw [e] at u; cases u
 have I:0<es.length:=length_pos_iff.2 E
 have h:kidV ((es.map (·.1)).tail) key<es.length:=by rw [length_tail,zK] at C; omega
 generalize J:kidV ((es.map (·.1)).tail) key=c at h
 have G:es=es.take c++es[c]::es.drop (c+1):=by rw [<- zX h,xD]
 refine ⟨es.take c,es[c],es.drop (c+1),G,by rw [yK]; omega,?_,fun b Q=>?_,?_⟩
 ·cases c with
  | zero=>
   have:es[0].1=[]:=by
    cases es with
    | nil=>cases u
    | cons a r=>simpa using u
   rw [this]; exact qe9 _
  | succ c=>
   refine qko (l:=(es.map (·.1)).tail) (k:=key) ?_
   rw [J]
   have R:(es.map (·.1)).tail[c]?=some es[c+1].1:=by rw [List.getElem?_tail,zQ,zA h]; rfl
   refine yE (i:=c) ?_
   rw [xA,if_pos (by omega)]
   exact R
 ·refine qiS (l:=(es.map (·.1)).tail) O ?_
  rw [J]
  have:(es.map (·.1)).tail.drop c=(es.drop (c+1)).map (·.1):=by rw [<- drop_one,xC,xP,Nat.add_comm]
  rw [this]
  exact zY Q
 ·rw [yQ,zQ,zA h]; rfl
theorem qaD {α:Type} {f:Ent->List α} {A B:List Ent} {e:Ent}:(A++e::B).flatMap f=A.flatMap f++(f e++B.flatMap f):=by rw [yP,yG]
theorem SepE.put {A B:List Ent} {e:Ent} {s:Seg} {key:Key} (h:SepE (A++e::B)) (I:KLe e.1 key) (J:∀ b∈B,KLt key b.1) (O:∀ x∈s.prs,x.1=key\/x∈e.2.prs):SepE (A++(e.1,s)::B):=by
 have G:=pairwise_append.1 h.pair
 have K:=yI.1 G.2.1
 refine ⟨pairwise_append.2 ⟨G.1,yI.2 ⟨fun b u=>⟨(K.1 b u).1,fun x E=>?_⟩,K.2⟩,fun a Q b u=>?_⟩,fun b u x E=>?_⟩
 ·rcases O x E with C | C
  ·rw [C]; exact J b u
  ·exact (K.1 b u).2 x C
 ·rcases zG.1 u with rfl | u
  ·exact G.2.2 a Q e (by simp)
  ·exact G.2.2 a Q b (by simp [u])
 ·rcases zD.1 u with u | u
  ·exact h.low b (by simp [u]) x E
  rcases zG.1 u with rfl | u
  ·rcases O x E with C | C
   ·rw [C]; exact I
   ·exact h.low e (by simp) x C
  ·exact h.low b (by simp [u]) x E
theorem SepE.cut2 {A B:List Ent} {lo:Key} {s s1 s2:Seg} {m:Key} (h:SepE (A++(lo,s)::B)) (G:s.prs=s1.prs++s2.prs) (h1:∀ x∈s1.prs,KLt x.1 m) (h2:∀ y∈s2.prs,KLe m y.1) (I:s1.prs≠[]) (J:s2.prs≠[]):SepE (A++(lo,s1)::(m,s2)::B):=by
 have U:=pairwise_append.1 h.pair
 have K:=yI.1 U.2.1
 have O:=h.low (lo,s) (by simp)
 obtain ⟨V,Q⟩:=exists_mem_of_ne_nil _ I
 obtain ⟨y1,R⟩:=exists_mem_of_ne_nil _ J
 have hm:KLt lo m:=qh2 (O V (by show V∈s.prs; rw [G]; exact zH _ Q)) (h1 V Q)
 have ac:∀ b∈B,KLt m b.1:=fun b u=>qh2 (h2 y1 R) ((K.1 b u).2 y1 (by show y1∈s.prs; rw [G]; exact zI _ R))
 refine ⟨pairwise_append.2 ⟨U.1,yI.2 ⟨fun b u=>?_,yI.2 ⟨fun b u=>⟨ac b u,fun x C=>(K.1 b u).2 x (by show x∈s.prs; rw [G]; exact zI _ C)⟩,K.2⟩⟩,fun a ha b u=>?_⟩,fun b u x C=>?_⟩
 ·rcases zG.1 u with rfl | u
  ·exact ⟨hm,fun x C=>h1 x C⟩
  ·exact ⟨(K.1 b u).1,fun x C=>(K.1 b u).2 x (by show x∈s.prs; rw [G]; exact zH _ C)⟩
 ·have E:=U.2.2 a ha (lo,s) (by simp)
  rcases zG.1 u with rfl | u
  ·exact E
  rcases zG.1 u with rfl | u
  ·exact ⟨qau E.1 hm,fun x C=>qau (E.2 x C) hm⟩
  ·exact U.2.2 a ha b (by simp [u])
 ·rcases zD.1 u with u | u
  ·exact h.low b (by simp [u]) x C
  rcases zG.1 u with rfl | u
  ·exact O x (by show x∈s.prs; rw [G]; exact zH _ C)
  rcases zG.1 u with rfl | u
  ·exact h2 x C
  ·exact h.low b (by simp [u]) x C
theorem qh6 {es:List Ent}:sizeN (inOf es) k v=(es.length,(capsV k v).2):=by
 unfold sizeN
 rw [if_neg (show ¬ (inOf es).leaf=true from fun e=>nomatch e)]
 show ((es.map _).length,_)=_
 rw [zK]
def relow:List Ent->List Ent
 | []=>[]
 | e::r=>([],e.2)::r
theorem qsV (es:List Ent):inOf (relow es)=inOf es:=by cases es <;> rfl
theorem qrx {es:List Ent} {mid:Nat} (C:1<=mid) (h:mid<es.length):halvesN (inOf es) mid=(inOf (es.take mid),inOf (relow (es.drop mid)),es[mid].1):=by
 unfold halvesN
 rw [if_neg (show ¬ (inOf es).leaf=true from fun e=>nomatch e),qsV]
 unfold inOf
 have e1:(es.map (·.1)).tail.take (mid-1)=((es.take mid).map (·.1)).tail:=by
  rw [<- drop_one,<- drop_one,xO,drop_take]
 have u:(es.map (·.1)).tail.drop mid=((es.drop mid).map (·.1)).tail:=by
  rw [<- drop_one,<- drop_one,xP,xC,xC,Nat.add_comm]
 have A:(es.map (·.1)).tail.getD (mid-1) []=es[mid].1:=by
  rw [yQ,List.getElem?_tail,zQ,show mid-1+1=mid by omega,zA h]; rfl
 dsimp only
 rw [e1,u,A]
 simp only [xO,xP]
theorem SepE.take {es:List Ent} (h:SepE es) (n:Nat):SepE (es.take n):=⟨List.Pairwise.sublist (take_sublist n es) h.pair,fun e u=>h.low e (yU u)⟩
theorem SepE.drop {es:List Ent} (h:SepE es) (n:Nat):SepE (es.drop n):=⟨List.Pairwise.sublist (drop_sublist n es) h.pair,fun e u=>h.low e (yT u)⟩
theorem SepE.relow {es:List Ent} (h:SepE es):SepE (relow es):=by
 cases es with
 | nil=>exact h
 | cons e r=>
  have A:=yI.1 h.pair
  refine ⟨yI.2 ⟨fun b u=>⟨?_,(A.1 b u).2⟩,A.2⟩,fun b u x E=>?_⟩
  ·have:=(A.1 b u).1
   cases C:b.1 with
   | nil=>rw [C] at this; exact absurd this qiM
   | cons y l=>show cmpL [] (y::l)<0; simp [cmpL]
  ·rcases zG.1 u with rfl | u
   ·exact qe9 _
   ·exact h.low b (zN _ u) x E
theorem qkM {α:Type} {f:Seg->List α} (es:List Ent):(relow es).flatMap (fun e=>f e.2)=es.flatMap fun e=>f e.2:=by cases es <;> rfl
theorem qmk {P:Seg->Prop} {es:List Ent} (h:∀ e∈es,P e.2):∀ e∈relow es,P e.2:=by
 cases es with
 | nil=>exact h
 | cons a r=>
  intro e u
  rcases zG.1 u with rfl | u
  ·exact h a (by simp)
  ·exact h e (zN _ u)
theorem qqn {es:List Ent} (h:es≠[]):((relow es).map (·.1)).head?=some []:=by cases es with | nil=>exact absurd rfl h | cons a r=>rfl
theorem qqx (es:List Ent):(relow es).length=es.length:=by cases es <;> rfl
def KeysOk (k:Nat) (es:List Ent):Prop:=∀ e∈es.tail,e.1.length=k/\IsB e.1
theorem KeysOk.tail {es:List Ent} (h:KeysOk k es):∀ a∈(es.map (·.1)).tail,a.length=k/\IsB a:=fun a u=>by
 rw [<- map_tail] at u
 obtain ⟨e,A,rfl⟩:=mem_map.1 u
 exact h e A
theorem KeysOk.of {es:List Ent} (h:NodeOk (inOf es) k v):KeysOk k es:=fun e u=>by
 have:e.1∈(inOf es).keys:=by show e.1∈(es.map (·.1)).tail; rw [<- map_tail]; exact zY u
 exact ⟨h.right.1 _ this,h.keys _ this⟩
theorem qbq (u:M.Wf) {x:Int} (h:InUse M x):2<=x/\x<4294967296:=by
 have A:=qfz u h
 have C:=u.n4
 omega
theorem qcp {h:Nat} {q:Int} {es:List Ent} (u:(es.map (·.1)).head?=some []) (A:NodeOk (inOf es) k v) (C:pagerReadM D M q=(4,bodyN (inOf es),0)) (E:SepE es) (G:∀ e∈es,Has D M k v h e.2/\minOf k v h<=e.2.size) :
  Has D M k v (h+1) ⟨q,es.length,es.flatMap (·.2.prs),q::es.flatMap (·.2.pages)⟩:=⟨es,u,rfl,rfl,rfl,A,C,E,G⟩
theorem qr5 {A B:List Ent} {e:Ent} {s1 s2:Seg} {m:Key} (K:((A++e::B).map (·.1)).head?=some []) {g:Grown} (u:g.page=s1.page) (C:g.other=s2.page) (E:g.key=m) (G:g.other≠0):grownN (inOf (A++e::B)) A.length g=inOf (A++(e.1,s1)::(m,s2)::B):=by
 unfold grownN
 rw [if_pos G,u,C,E]
 unfold inOf insAt
 dsimp only
 congr 1
 ·cases A with
  | nil=>simp
  | cons a A=>
   have:(A.map (·.1)++e.1::B.map (·.1)).take (A.length+1)=A.map (·.1)++[e.1]:=by
    rw [show A.map (·.1)++e.1::B.map (·.1)=(A.map (·.1)++[e.1])++B.map (·.1) by simp]
    exact take_left' (by simp)
   have I:(A.map (·.1)++e.1::B.map (·.1)).drop (A.length+1)=B.map (·.1):=by
    rw [show A.map (·.1)++e.1::B.map (·.1)=(A.map (·.1)++[e.1])++B.map (·.1) by simp]
    exact drop_left' (by simp)
   simp only [xM,xN,xI,tail_cons,yH]
   rw [this,I]
   simp
 ·have J:(A.map (·.2.page)).length=A.length:=zK _
  have h:(A.map (·.2.page)++e.2.page::B.map (·.2.page)).set A.length s1.page=(A.map (·.2.page)++[s1.page])++B.map (·.2.page):=by
   rw [set_append_right _ _ (by omega),J,Nat.sub_self]
   simp
  simp only [xM,xN]
  rw [h,take_left' (by simp),drop_left' (by simp)]
  simp
theorem qrN {A B:List Ent} {e:Ent} {s1:Seg} {g:Grown} (u:g.page=s1.page) (C:g.other=0):grownN (inOf (A++e::B)) A.length g=inOf (A++(e.1,s1)::B):=by
 unfold grownN
 rw [if_neg (fun h=>h C),u]
 unfold inOf
 dsimp only
 have E:(A.map (·.2.page)).length=A.length:=zK _
 congr 1
 ·simp
 ·simp only [xM,xN]
  rw [set_append_right _ _ (by omega),E,Nat.sub_self]
  rfl
theorem qfV {α:Type} {a x b z:List α}:(a++(x++b)).Perm ((a++b)++x):=by
 rw [zV]
 exact List.Perm.append_left a perm_append_comm
theorem Step.node {M1 E:PgM} {p:Int} {a b x y:List Int} {Q:List Int} (G:∀ z∈p::(a++(x++b)),InUse M z) (I:(p::(a++(x++b))).Nodup) (J:Step D M M1 x y) (K:Step D M1 E [p] Q):Step D M E (p::(a++(x++b))) (Q++(a++(y++b))):=by
 have h:(p::(a++(x++b))).Perm ((p::(a++b))++x):=by
  rw [xI]
  exact (qfV (z:=a)).cons p
 have A:=(J.beside (Z:=p::(a++b)) (fun z C=>G z (h.mem_iff.2 (zH _ C))) (h.nodup_iff.1 I))
 have u:((p::(a++b))++y).Perm ((a++(y++b))++[p]):=by
  refine List.Perm.trans ?_ perm_append_comm
  rw [xI]
  exact ((qfV (z:=a)).symm).cons p
 have O:=K.beside (Z:=a++(y++b)) (fun z C=>A.has z (u.mem_iff.2 (zH _ C))) (u.nodup_iff.1 A.nodup)
 exact ((A.perm (h.symm) u).trans O).perm (.refl _) perm_append_comm
theorem qi8 {h:Nat} {p:Int} {es:List Ent} {fresh:Bool} (O:M.Wf) (G:M.over=false) (Q:(es.map (·.1)).head?=some []) (I:NodeOk (inOf es) k v) (u:es.length<=(capsV k v).2) (R:SepE es) (C:∀ e∈es,Has D M k v h e.2/\minOf k v h<=e.2.size) (U:InUse M p) (E:p∉es.flatMap (·.2.pages)) (J:1<=M.free.length) :
  ∃ q M',splitN k v M p (inOf es) fresh=((⟨q,fresh,[],0⟩,0),M')/\Step D M M' [p] [q]/\Has D M' k v (h+1) ⟨q,es.length,es.flatMap (·.2.prs),q::es.flatMap (·.2.pages)⟩/\M.free.length<=M'.free.length+1:=by
 obtain ⟨q,M',e,st,V,hl⟩:=qi1 (D:=D) (fresh:=fresh) O G I (by rw [qh6]; exact u) U (fun e=>by rw [e] at J; exact absurd J (by decide))
 refine ⟨q,M',e,st,qcp Q I V R fun b A=>⟨(C b A).1.frame fun x K=>?_,(C b A).2⟩,hl⟩
 exact (st.rest x ((C b A).1.used G x K) (fun hm=>E (yJ.2 ⟨b,A,by rw [<- zE.1 hm]; exact K⟩))).1
theorem qc0 {h:Nat} {es:List Ent} (C:M.Wf) (E:M.over=false) (G:KeysOk k es) (I:SepE es) (J:2<=es.length) (K:es.length<=(capsV k v).2) (u:∀ e∈es,Has D M k v h e.2):NodeOk (inOf es) k v:=
 qt7 G.tail I.rising J K fun e A=>qbq C ((u e A).used E e.2.page (u e A).mem)
theorem qpB {es:List Ent} (h:KeysOk k es):KeysOk k (relow es):=by cases es <;> exact h
theorem qrX {h:Nat} {p:Int} {es:List Ent} {fresh:Bool} (hc:CapsOk k v) (hW:M.Wf) (ho:M.over=false) (h0:(es.map (·.1)).head?=some []) (hk:KeysOk k es) (av:es.length=(capsV k v).2+1) (hs:SepE es) (J:∀ e∈es,Has D M k v h e.2/\minOf k v h<=e.2.size) (hu:InUse M p) (ak:p∉es.flatMap (·.2.pages)) (hf:2<=M.free.length) :
  ∃ q o m M' K L1 P1 O L2 P2,splitN k v M p (inOf es) fresh=((⟨q,fresh,m,o⟩,0),M')/\o≠0/\Step D M M' [p] [q,o]/\Has D M' k v (h+1) ⟨q,K,L1,q::P1⟩/\Has D M' k v (h+1) ⟨o,O,L2,o::P2⟩/\L1++L2=es.flatMap (·.2.prs)/\P1++P2=es.flatMap (·.2.pages)/\(∀ x∈L1,KLt x.1 m)/\(∀ y∈L2,KLe m y.1)/\m.length=k/\IsB m/\minOf k v (h+1)<=K/\minOf k v (h+1)<=O/\M.free.length<=M'.free.length+2:=by
 have aD:=hc.inner
 have A:es.length / 2<es.length:=by omega
 have hh:=qrx (es:=es) (mid:=es.length / 2) (by omega) A
 have lt:(es.take (es.length / 2)).length=es.length / 2:=by rw [yK]; omega
 have ld:(relow (es.drop (es.length / 2))).length=es.length-es.length / 2:=by rw [qqx,yB]
 have C:∀ e∈es.take (es.length / 2),Has D M k v h e.2/\minOf k v h<=e.2.size:=fun e u=>J e (yU u)
 have am:∀ e∈relow (es.drop (es.length / 2)),Has D M k v h e.2/\minOf k v h<=e.2.size:=qmk (P:=fun s=>Has D M k v h s/\minOf k v h<=s.size) fun e u=>J e (yT u)
 have Q:=hs.take (es.length / 2)
 have R:=(hs.drop (es.length / 2)).relow
 have an:KeysOk k (es.take (es.length / 2)):=fun e u=>by
  refine hk e ?_
  rw [<- drop_one,drop_take] at u
  rw [<- drop_one]
  exact yU u
 have ao:KeysOk k (relow (es.drop (es.length / 2))):=qpB fun e u=>by
  refine hk e ?_
  rw [<- drop_one,xC,show es.length / 2+1=1+es.length / 2 by omega,<- xC] at u
  rw [<- drop_one]
  exact yT u
 have K:=qc0 hW ho an Q (by omega) (by omega) fun e u=>(C e u).1
 have O:=qc0 hW ho ao R (by omega) (by omega) fun e u=>(am e u).1
 have E:es.take (es.length / 2)++es.drop (es.length / 2)=es:=xD _ _
 have hd:=zX A
 obtain ⟨q,o,M',e,aq,st,U,V,hl⟩:=qlx (D:=D) (k:=k) (v:=v) (p:=p) (fresh:=fresh) (mid:=es.length / 2) (n:=inOf es) hW ho (by rw [qh6]) (by rw [hh]; exact K) (by rw [hh]; exact O) (by rw [qh6]; show es.length>_; omega) hu hf
 rw [hh] at e U V
 have fr:∀ b∈es,∀ x∈b.2.pages,pagerReadM D M' x=pagerReadM D M x:=fun b G x I=>
  (st.rest x ((J b G).1.used ho x I) (fun hm=>ak (yJ.2 ⟨b,G,by rw [<- zE.1 hm]; exact I⟩))).1
 have f1:∀ e∈es.take (es.length / 2),Has D M' k v h e.2/\minOf k v h<=e.2.size:=fun e u=>⟨(C e u).1.frame (fr e (yU u)),(C e u).2⟩
 have f2:∀ e∈relow (es.drop (es.length / 2)),Has D M' k v h e.2/\minOf k v h<=e.2.size:=qmk (P:=fun s=>Has D M' k v h s/\minOf k v h<=s.size) fun e u=>⟨(J e (yT u)).1.frame (fr e (yT u)),(J e (yT u)).2⟩
 have ar:((es.take (es.length / 2)).map (·.1)).head?=some []:=by
  rw [xO]
  cases ab:es.map (·.1) with
  | nil=>rw [ab] at h0; cases h0
  | cons a r=>
   rw [ab] at h0
   rw [show es.length / 2=(es.length / 2-1)+1 by omega,take_succ_cons]
   exact h0
 have au:((relow (es.drop (es.length / 2))).map (·.1)).head?=some []:=qqn (by rw [hd]; exact cons_ne_nil _ _)
 have ac:=hs
 rw [<- E,hd] at ac
 have hm:=ac.mid
 have ad:=hk es[es.length / 2] (by
  rw [<- drop_one]
  exact yE (i:=es.length / 2-1) (by rw [yZ,show 1+(es.length / 2-1)=es.length / 2 by omega,zA A]))
 have ep:(relow (es.drop (es.length / 2))).flatMap (·.2.prs)=(es.drop (es.length / 2)).flatMap (·.2.prs):=qkM (f:=Seg.prs) _
 have eg:(relow (es.drop (es.length / 2))).flatMap (·.2.pages)=(es.drop (es.length / 2)).flatMap (·.2.pages):=qkM (f:=Seg.pages) _
 have H2:=qcp au O V R f2
 refine ⟨q,o,es[es.length / 2].1,M',_,_,_,_,_,_,e,aq,st,qcp ar K U Q f1,H2,?_,?_,fun x I=>?_,fun y hy=>?_,ad.1,ad.2,?_,?_,hl⟩
 ·rw [ep,<- yP,E]
 ·rw [eg,<- yP,E]
 ·obtain ⟨a,ha,I⟩:=yJ.1 I
  exact hm.1 a ha x I
 ·rw [ep,hd] at hy
  obtain ⟨b,G,hy⟩:=yJ.1 hy
  rcases zG.1 G with rfl | G
  ·exact hs.low _ (zW A) y hy
  ·exact qcb (qaS (hm.2 b G).1) ((hm.2 b G).2.2 y hy)
 ·show (capsV k v).2 / 2<=_; omega
 ·show (capsV k v).2 / 2<=_; omega
theorem qjA {A B:List Ent} {e:Ent} {s:Seg} (h:KeysOk k (A++e::B)):KeysOk k (A++(e.1,s)::B):=by
 cases A with
 | nil=>exact h
 | cons a A=>
  intro b u
  rcases zD.1 (show b∈A++(e.1,s)::B from u) with u | u
  ·exact h b (show b∈A++e::B from zH _ u)
  rcases zG.1 u with rfl | u
  ·exact h e (show e∈A++e::B from zI _ mem_cons_self)
  ·exact h b (show b∈A++e::B from zI _ (zN _ u))
theorem qnT {A B:List Ent} {e:Ent} {s1 s2:Seg} {m:Key} (h:KeysOk k (A++e::B)) (G:m.length=k/\IsB m):KeysOk k (A++(e.1,s1)::(m,s2)::B):=by
 have E:∀ b∈(m,s2)::B,(∀ c∈B,c.1.length=k/\IsB c.1)->b.1.length=k/\IsB b.1:=fun b u I=>(zG.1 u).elim (fun e=>by rw [e]; exact G) (I b)
 cases A with
 | nil=>exact fun b u=>E b u fun c C=>h c C
 | cons a A=>
  intro b u
  rcases zD.1 (show b∈A++(e.1,s1)::(m,s2)::B from u) with u | u
  ·exact h b (show b∈A++e::B from zH _ u)
  rcases zG.1 u with rfl | u
  ·exact h e (show e∈A++e::B from zI _ mem_cons_self)
  ·exact E b u fun c C=>h c (show c∈A++e::B from zI _ (zN _ C))
theorem qpe (hc:CapsOk k v) {key val:Key} (hk:key.length=k/\IsB key) (hv:val.length=v/\IsB val):∀ (h:Nat) (M:PgM) (s:Seg),Has D M k v h s->M.Wf->M.over=false->s.pages.Nodup->s.size<=1000->2*(h+1)<=M.free.length->
  ∃ g M',putN D k v key val (h+1) M s.page=((g,0),M')/\PutOk D M k v h s key val g M'
 | 0,M,⟨p,n,L,P⟩,⟨h1,h2,h3,h4⟩,hW,ho,aO,_,hf=>by
  dsimp only at h1 h2 h3 h4
  subst h1 h2
  have hp:InUse M p:=qnI ho (by rw [h4])
  have hl:loadN D M k v p=(lfOf L,0):=h3.load h4
  have hs:SortP L:=h3.right.2.2.1
  have hL:PrsOk k v L:=fun x E=>⟨h3.right.1 x.1 (zY E),h3.right.2.1 x.2 (zY E),h3.keys x.1 (zY E),h3.vals x.2 (zY E)⟩
  have I:=h3.right.2.2.2
  rw [if_pos (show (lfOf L).leaf=true from rfl)] at I
  have aY:1<=L.length/\L.length<=(capsV k v).1:=by
   have e:(lfOf L).keys.length=L.length:=zK _
   rw [e] at I
   exact ⟨I.2.1,I.2.2.1⟩
  have aP:(lfOf L).keys=keysP L:=rfl
  have ah:=qpQ (v:=val) (k:=key) hs
  have av:PrsOk k v (insP key val L):=fun x E=>(qdX E).elim (fun e=>by rw [e]; exact ⟨hk.1,hv.1,hk.2,hv.2⟩) (hL x)
  have aw:=ql2 (k:=key) (v:=val) hs
  unfold putN
  rw [hl]
  dsimp only
  rw [if_neg (fun h=>h rfl),if_pos (show (lfOf L).leaf=true from rfl),aP]
  by_cases K:(keysP L)[placeV (keysP L) key]?=some key
  ·rw [if_pos K,quf K]
   rw [if_pos K] at ah
   have ai:=qbT (v:=val) hs ((qbN hs).1 K)
   rw [ah] at av aw ai
   exact qng hc hW ho hp (by omega) av aw (by omega) (by omega) (by omega) ah.symm (by rw [zU (fun h=>h ((qbN hs).1 K))])
  ·rw [if_neg K,qtY]
   rw [if_neg K] at ah
   have aZ:key∉keysP L:=fun h=>K ((qbN hs).2 h)
   have ai:=qbR (v:=val) aZ
   rw [ah] at av aw ai
   exact qng hc hW ho hp (by omega) av aw (by omega) (by omega) (by omega) ah.symm (by rw [zZ aZ])
 | h+1,M,⟨p,n,L,P⟩,⟨J,h0,h1,h2,h3,h4,h5,h6,h7⟩,hW,ho,aO,h8,hf=>by
  dsimp only at h1 h2 h3 h5 aO h8
  subst h1 h2 h3
  have hp:InUse M p:=qnI ho (by rw [h5])
  have hl:loadN D M k v p=(inOf J,0):=h4.load h5
  have bL:=h4.right.innerTwo
  obtain ⟨A,e,B,G,hA,aQ,aR,aS⟩:=qbB (key:=key) h0 h6
  have aT:(inOf J).kids.getD (kidV (inOf J).keys key) 0=e.2.page:=aS
  have bu:kidV (inOf J).keys key=A.length:=hA.symm
  have bv:e∈J:=by rw [G]; simp
  obtain ⟨ay,am⟩:=h7 e bv
  have aa:∀ z∈p::J.flatMap (·.2.pages),InUse M z:=fun z hz=>(zG.1 hz).elim (fun e=>by rw [e]; exact hp) fun hz=>by
   obtain ⟨b,u,hz⟩:=yJ.1 hz
   exact (h7 b u).1.used ho z hz
  have ad:J.flatMap (·.2.pages)=A.flatMap (·.2.pages)++(e.2.pages++B.flatMap (·.2.pages)):=by rw [G,qaD]
  have ab:J.flatMap (·.2.prs)=A.flatMap (·.2.prs)++(e.2.prs++B.flatMap (·.2.prs)):=by rw [G,qaD]
  have O:=aO
  have af:=aa
  rw [ad] at O af
  have bw:e.2.size<=1000:=by
   have:=qfc (k:=k) (v:=v)
   cases h with
   | zero=>
    have h9:=ay.2.2.1.right.2.2.2
    rw [if_pos (show (lfOf e.2.prs).leaf=true from rfl)] at h9
    have bx:=h9.2.2.1
    have e1:(lfOf e.2.prs).keys.length=e.2.prs.length:=zK _
    rw [e1] at bx
    rw [ay.2.1]; omega
   | succ h=>
    obtain ⟨bS,_,g1,_,_,g4,_⟩:=ay
    have:=g4.right.innerTwo
    rw [g1]; omega
  have a0:e.2.pages.Nodup:=(yL.1 (yL.1 (nodup_cons.1 O).2).2.1).1
  obtain ⟨g,M1,eg,ok⟩:=qpe hc hk hv h M e.2 ay hW ho a0 bw (by omega)
  have bA:=ok.free
  have ag:=h6
  rw [G] at ag
  have an:=ag.mid
  have a1:∀ x∈A.flatMap (·.2.prs),KLt x.1 key:=fun x E=>by
   obtain ⟨a,ha,E⟩:=yJ.1 E
   exact qa5 (an.1 a ha x E) aQ
  have a2:∀ x∈B.flatMap (·.2.prs),KLt key x.1:=fun x E=>by
   obtain ⟨b,u,E⟩:=yJ.1 E
   exact qa5 (aR b u) ((an.2 b u).2.2 x E)
  have aI:insP key val (J.flatMap (·.2.prs))=A.flatMap (·.2.prs)++(insP key val e.2.prs++B.flatMap (·.2.prs)):=by
   rw [ab,qcH a1,qiG a2]
  have az:g.fresh=decide (key∉keysP (J.flatMap (·.2.prs))):=by
   rw [ok.fresh]
   refine decide_eq_decide.2 (not_congr ⟨fun K=>?_,fun K=>?_⟩)
   ·obtain ⟨x,E,rfl⟩:=mem_map.1 K
    exact zY (by rw [ab]; exact zI _ (zH _ E))
   ·obtain ⟨x,E,rfl⟩:=mem_map.1 K
    rw [ab] at E
    rcases zD.1 E with E | E
    ·exact absurd (a1 x E) qax
    rcases zD.1 E with E | E
    ·exact zY E
    ·exact absurd (a2 x E) qax
  have ao:p∉e.2.pages:=fun K=>(nodup_cons.1 O).1 (zI _ (zH _ K))
  have a3:∀ b,b∈A\/b∈B->∀ z∈b.2.pages,z∉e.2.pages:=fun b u z hz K=>by
   have h9:=yL.1 (nodup_cons.1 O).2
   rcases u with u | u
   ·exact h9.2.2 z (yJ.2 ⟨b,u,hz⟩) z (zH _ K) rfl
   ·exact (yL.1 h9.2.1).2.2 z K z (yJ.2 ⟨b,u,hz⟩) rfl
  have ac:=KeysOk.of h4
  have a4:∀ {MM:PgM} {Q:List Int},Step D M MM e.2.pages Q->p∉A.flatMap (·.2.pages)++(Q++B.flatMap (·.2.pages)):=fun st K=>by
   have h9:=(nodup_cons.1 O).1
   rcases zD.1 K with K | K
   ·exact h9 (zH _ K)
   rcases zD.1 K with K | K
   ·exact (st.rest p hp ao).2.2 K
   ·exact h9 (zI _ (zI _ K))
  unfold putN
  rw [hl]
  dsimp only
  rw [if_neg (fun h=>h rfl),if_neg (show ¬ (inOf J).leaf=true from fun e=>nomatch e),aT,eg]
  dsimp only
  rw [if_neg (fun h=>h rfl),bu]
  have V:∀ {MM:PgM},(∀ x∈p::J.flatMap (·.2.pages),x∉e.2.pages->pagerReadM D MM x=pagerReadM D M x)->∀ b,b∈A\/b∈B->Has D MM k v h b.2/\minOf k v h<=b.2.size:=fun hr b u=>by
   have aU:b∈J:=by rw [G]; rcases u with u | u <;> simp [u]
   exact ⟨(h7 b aU).1.frame fun x E=>hr x (zN _ (yJ.2 ⟨b,aU,E⟩)) (a3 b u x E),(h7 b aU).2⟩
  rcases ok.res with ⟨aA,n',P',aJ,st,aK⟩ | ⟨aA,n1,L1,P1,n2,L2,P2,a5,a6,aL,a7,a8,a9,a',bB,bC,st⟩
  ·-- no page beside it
   have R:((A++(e.1,(⟨g.page,n',insP key val e.2.prs,P'⟩:Seg))::B).map (·.1)).head?=some []:=by
    rw [G] at h0
    rw [xM,xN] at h0 ⊢
    exact h0
   have U:SepE (A++(e.1,(⟨g.page,n',insP key val e.2.prs,P'⟩:Seg))::B):=ag.put aQ aR fun x E=>(qdX E).imp (fun e=>by rw [e]) id
   have C:∀ x∈p::J.flatMap (·.2.pages),x∉e.2.pages->pagerReadM D M1 x=pagerReadM D M x:=fun x E aV=>(st.rest x (aa x E) aV).1
   have I:(A++(e.1,(⟨g.page,n',insP key val e.2.prs,P'⟩:Seg))::B).length=J.length:=by rw [G]; simp
   have aq:(A++(e.1,(⟨g.page,n',insP key val e.2.prs,P'⟩:Seg))::B).flatMap (·.2.prs)=insP key val (J.flatMap (·.2.prs)):=by rw [qaD,aI]
   have ae:(A++(e.1,(⟨g.page,n',insP key val e.2.prs,P'⟩:Seg))::B).flatMap (·.2.pages)=A.flatMap (·.2.pages)++(P'++B.flatMap (·.2.pages)):=by rw [qaD]
   by_cases hsame:g.page=e.2.page/\g.other=0
   ·rw [if_pos hsame]
    have ba:inOf (A++(e.1,(⟨g.page,n',insP key val e.2.prs,P'⟩:Seg))::B)=inOf J:=by
     rw [G]
     unfold inOf
     simp [hsame.1]
    have bD:pagerReadM D M1 p=(4,bodyN (inOf (A++(e.1,(⟨g.page,n',insP key val e.2.prs,P'⟩:Seg))::B)),0):=by rw [C p (by simp) ao,h5,ba]
    refine ⟨_,M1,rfl,az,by omega,.inl ⟨rfl,J.length,p::(A.flatMap (·.2.pages)++(P'++B.flatMap (·.2.pages))),?_,?_,zM _⟩⟩
    ·have:=qcp R (by rw [ba]; exact h4) bD U (h:=h) fun b u=>?_
     ·rw [I,aq,ae] at this
      exact this
     ·rcases zD.1 u with u | u
      ·exact V C b (.inl u)
      rcases zG.1 u with rfl | u
      ·exact ⟨aJ,zL am aK⟩
      ·exact V C b (.inr u)
    ·show Step D M M1 (p::J.flatMap (·.2.pages)) _
     rw [ad]
     have h9:=Step.node (p:=p) af O st (Step.refl (D:=D) st.wf st.over (P:=[p]) (fun x E=>by rw [zE.1 E]; exact (st.rest p hp ao).2.1) (by simp))
     exact h9
   ·rw [if_neg hsame,G,qrN (s1:=⟨g.page,n',insP key val e.2.prs,P'⟩) rfl aA]
    have aj:∀ b∈A++(e.1,(⟨g.page,n',insP key val e.2.prs,P'⟩:Seg))::B,Has D M1 k v h b.2/\minOf k v h<=b.2.size:=fun b u=>by
     rcases zD.1 u with u | u
     ·exact V C b (.inl u)
     rcases zG.1 u with rfl | u
     ·exact ⟨aJ,zL am aK⟩
     ·exact V C b (.inr u)
    have aD:KeysOk k (A++(e.1,(⟨g.page,n',insP key val e.2.prs,P'⟩:Seg))::B):=qjA (by rw [<- G]; exact ac)
    have hN:=qc0 st.wf st.over aD U (by omega) (by omega) fun b u=>(aj b u).1
    obtain ⟨q,M2,e2,ar,H2,ai⟩:=qi8 (fresh:=g.fresh) st.wf st.over R hN (by omega) U aj (st.rest p hp ao).2.1 (by rw [ae]; exact a4 st) (by omega)
    refine ⟨_,M2,e2,by rw [<- G]; exact az,by omega,.inl ⟨rfl,J.length,q::(A.flatMap (·.2.pages)++(P'++B.flatMap (·.2.pages))),?_,?_,Nat.le_of_eq (by rw [G])⟩⟩
    ·rw [I,aq,ae] at H2
     rw [<- G]
     exact H2
    ·show Step D M M2 (p::(A++e::B).flatMap (·.2.pages)) _
     rw [qaD]
     exact Step.node (p:=p) af O st ar
  ·-- a page beside it
   have bd:L1≠[]:=a5.ne
   have bf:L2≠[]:=a6.ne
   rw [if_neg (fun h=>aA h.2)]
   have U:SepE (A++(e.1,(⟨g.page,n1,L1,P1⟩:Seg))::(g.key,⟨g.other,n2,L2,P2⟩)::B):=
    (ag.put (s:=⟨0,0,insP key val e.2.prs,[]⟩) aQ aR fun x E=>(qdX E).imp (fun e=>by rw [e]) id).cut2 aL.symm a7 a8 bd bf
   have R:((A++(e.1,(⟨g.page,n1,L1,P1⟩:Seg))::(g.key,⟨g.other,n2,L2,P2⟩)::B).map (·.1)).head?=some []:=by
    rw [G] at h0
    rw [xM,xN] at h0 ⊢
    cases A with
    | nil=>exact h0
    | cons a A=>exact h0
   have C:∀ x∈p::J.flatMap (·.2.pages),x∉e.2.pages->pagerReadM D M1 x=pagerReadM D M x:=fun x E aV=>(st.rest x (aa x E) aV).1
   have I:(A++(e.1,(⟨g.page,n1,L1,P1⟩:Seg))::(g.key,⟨g.other,n2,L2,P2⟩)::B).length=J.length+1:=by rw [G]; simp; omega
   have aq:(A++(e.1,(⟨g.page,n1,L1,P1⟩:Seg))::(g.key,⟨g.other,n2,L2,P2⟩)::B).flatMap (·.2.prs)=insP key val (J.flatMap (·.2.prs)):=by
    rw [qaD,yG,aI,<- aL,zV]
   have ae:(A++(e.1,(⟨g.page,n1,L1,P1⟩:Seg))::(g.key,⟨g.other,n2,L2,P2⟩)::B).flatMap (·.2.pages)=A.flatMap (·.2.pages)++((P1++P2)++B.flatMap (·.2.pages)):=by rw [qaD,yG,zV P1]
   have aj:∀ b∈A++(e.1,(⟨g.page,n1,L1,P1⟩:Seg))::(g.key,⟨g.other,n2,L2,P2⟩)::B,Has D M1 k v h b.2/\minOf k v h<=b.2.size:=fun b u=>by
    rcases zD.1 u with u | u
    ·exact V C b (.inl u)
    rcases zG.1 u with rfl | u
    ·exact ⟨a5,bB⟩
    rcases zG.1 u with rfl | u
    ·exact ⟨a6,bC⟩
    ·exact V C b (.inr u)
   have aD:KeysOk k (A++(e.1,(⟨g.page,n1,L1,P1⟩:Seg))::(g.key,⟨g.other,n2,L2,P2⟩)::B):=qnT (by rw [<- G]; exact ac) ⟨a9,a'⟩
   have bg:p∉(A++(e.1,(⟨g.page,n1,L1,P1⟩:Seg))::(g.key,⟨g.other,n2,L2,P2⟩)::B).flatMap (·.2.pages):=by rw [ae]; exact a4 st
   have bh:=(st.rest p hp ao).2.1
   have bF:grownN (inOf J) A.length g=inOf (A++(e.1,(⟨g.page,n1,L1,P1⟩:Seg))::(g.key,⟨g.other,n2,L2,P2⟩)::B):=by
    rw [G]
    exact qr5 (by rw [<- G]; exact h0) rfl rfl rfl aA
   rw [bF]
   have bi:∀ {M2:PgM} {Q:List Int},Step D M1 M2 [p] Q->Step D M M2 (p::J.flatMap (·.2.pages)) (Q++(A.flatMap (·.2.pages)++((P1++P2)++B.flatMap (·.2.pages)))):=fun h2=>by
    rw [ad]
    exact Step.node (p:=p) af O st h2
   by_cases u:J.length+1<=(capsV k v).2
   ·have hN:=qc0 st.wf st.over aD U (by omega) (by omega) fun b u=>(aj b u).1
    obtain ⟨q,M2,e2,ar,H2,ai⟩:=qi8 (fresh:=g.fresh) st.wf st.over R hN (by omega) U aj bh bg (by omega)
    rw [I,aq,ae] at H2
    exact ⟨_,M2,e2,az,by omega,.inl ⟨rfl,_,_,H2,bi ar,by show J.length<=J.length+1; omega⟩⟩
   ·obtain ⟨q,o,m,M2,n3,L3,P3,n4,L4,P4,e2,bG,ar,H3,H4,hL,hP,bH,aY,bj,bk,bI,bJ,ai⟩:=qrX (fresh:=g.fresh) hc st.wf st.over R aD (by omega) U aj bh bg (by omega)
    rw [aq] at hL
    rw [ae] at hP
    refine ⟨_,M2,e2,az,by omega,.inr ⟨bG,_,_,_,_,_,_,H3,H4,hL,bH,aY,bj,bk,bI,bJ,?_⟩⟩
    have:=bi ar
    rw [<- hP] at this
    refine this.perm (.refl _) ?_
    show (q::o::(P3++P4)).Perm (q::(P3++o::P4))
    exact (perm_middle.symm).cons q
end
section
def delAt {α:Type} (l:List α) (i:Nat):List α:=l.take i++l.drop (i+1)
def lowN (n:NodeM) (k v:Nat):Prop:=(sizeN n k v).1<(sizeN n k v).2 / 2
def spareN (n:NodeM) (k v:Nat):Prop:=(sizeN n k v).1>(sizeN n k v).2 / 2
def giveN (l r:NodeM) (key:Key):NodeM×NodeM×Key:=
 if l.leaf then
  ({ l with keys:=l.keys.take (l.keys.length-1),vals:=l.vals.take (l.keys.length-1) },
  { r with keys:=l.keys.getD (l.keys.length-1) []::r.keys,vals:=l.vals.getD (l.keys.length-1) []::r.vals },l.keys.getD (l.keys.length-1) [])
 else
  ({ l with keys:=l.keys.take (l.keys.length-1),kids:=l.kids.take (l.keys.length-1+1) },
  { r with keys:=key::r.keys,kids:=l.kids.getD (l.keys.length-1+1) 0::r.kids },l.keys.getD (l.keys.length-1) [])
def takeN (l r:NodeM) (key:Key):NodeM×NodeM×Key:=
 if l.leaf then
  ({ l with keys:=l.keys++[r.keys.getD 0 []],vals:=l.vals++[r.vals.getD 0 []] },{ r with keys:=r.keys.drop 1,vals:=r.vals.drop 1 },(r.keys.drop 1).getD 0 [])
 else
  ({ l with keys:=l.keys++[key],kids:=l.kids++[r.kids.getD 0 0] },{ r with keys:=r.keys.drop 1,kids:=r.kids.drop 1 },r.keys.getD 0 [])
def joinN (l r:NodeM) (key:Key):NodeM:=⟨l.leaf,(if l.leaf then l.keys else l.keys++[key])++r.keys,l.vals++r.vals,l.kids++r.kids⟩
noncomputable def joinM (k v:Nat) (M:PgM) (n:NodeM) (i:Nat) (l r:NodeM):(NodeM×Int)×PgM:=
 if (storeN k v M (n.kids.getD i 0) (joinN l r (n.keys.getD i []))).1.2≠0 then ((zeroN,(storeN k v M (n.kids.getD i 0) (joinN l r (n.keys.getD i []))).1.2),(storeN k v M (n.kids.getD i 0) (joinN l r (n.keys.getD i []))).2)
 else if (dropV (storeN k v M (n.kids.getD i 0) (joinN l r (n.keys.getD i []))).2 (n.kids.getD (i+1) 0)).1≠0 then ((zeroN,(dropV (storeN k v M (n.kids.getD i 0) (joinN l r (n.keys.getD i []))).2 (n.kids.getD (i+1) 0)).1),(dropV (storeN k v M (n.kids.getD i 0) (joinN l r (n.keys.getD i []))).2 (n.kids.getD (i+1) 0)).2)
 else (({ n with kids:=delAt (n.kids.set i (storeN k v M (n.kids.getD i 0) (joinN l r (n.keys.getD i []))).1.1) (i+1),keys:=delAt n.keys i },0),(dropV (storeN k v M (n.kids.getD i 0) (joinN l r (n.keys.getD i []))).2 (n.kids.getD (i+1) 0)).2)
noncomputable def bothM (k v:Nat) (M:PgM) (n:NodeM) (i:Nat) (r:NodeM×NodeM×Key):(NodeM×Int)×PgM:=
 if (storeN k v M (n.kids.getD i 0) r.1).1.2≠0 then ((zeroN,(storeN k v M (n.kids.getD i 0) r.1).1.2),(storeN k v M (n.kids.getD i 0) r.1).2)
 else (({ n with keys:=n.keys.set i r.2.2,kids:=(n.kids.set i (storeN k v M (n.kids.getD i 0) r.1).1.1).set (i+1) (storeN k v (storeN k v M (n.kids.getD i 0) r.1).2 (n.kids.getD (i+1) 0) r.2.1).1.1 },(storeN k v (storeN k v M (n.kids.getD i 0) r.1).2 (n.kids.getD (i+1) 0) r.2.1).1.2),(storeN k v (storeN k v M (n.kids.getD i 0) r.1).2 (n.kids.getD (i+1) 0) r.2.1).2)
noncomputable def evenM (D:DiskM) (k v:Nat) (M:PgM) (n:NodeM) (side c:Nat) (x:NodeM):(NodeM×Int)×PgM:=
 if (loadN D M k v (n.kids.getD side 0)).2≠0 then ((zeroN,(loadN D M k v (n.kids.getD side 0)).2),M)
 else if side<c then
  if ¬ spareN (loadN D M k v (n.kids.getD side 0)).1 k v then joinM k v M n side (loadN D M k v (n.kids.getD side 0)).1 x
  else bothM k v M n side (giveN (loadN D M k v (n.kids.getD side 0)).1 x (n.keys.getD side []))
 else
  if ¬ spareN (loadN D M k v (n.kids.getD side 0)).1 k v then joinM k v M n c x (loadN D M k v (n.kids.getD side 0)).1
  else bothM k v M n c (takeN x (loadN D M k v (n.kids.getD side 0)).1 (n.keys.getD c []))
noncomputable def cutN (D:DiskM) (k v:Nat) (key:Key):Nat->PgM->Int->(NodeM×Int)×PgM
 | 0,M,_=>((zeroN,-1),M)
 | f+1,M,p=>
  if (loadN D M k v p).2≠0 then ((zeroN,(loadN D M k v p).2),M)
  else if (loadN D M k v p).1.leaf then
   if (loadN D M k v p).1.keys[placeV (loadN D M k v p).1.keys key]?=some key then (({ (loadN D M k v p).1 with keys:=delAt (loadN D M k v p).1.keys (placeV (loadN D M k v p).1.keys key),vals:=delAt (loadN D M k v p).1.vals (placeV (loadN D M k v p).1.keys key) },0),M)
   else ((zeroN,5),M)
  else if (cutN D k v key f M ((loadN D M k v p).1.kids.getD (kidV (loadN D M k v p).1.keys key) 0)).1.2≠0 then
   ((zeroN,(cutN D k v key f M ((loadN D M k v p).1.kids.getD (kidV (loadN D M k v p).1.keys key) 0)).1.2),(cutN D k v key f M ((loadN D M k v p).1.kids.getD (kidV (loadN D M k v p).1.keys key) 0)).2)
  else if ¬ lowN (cutN D k v key f M ((loadN D M k v p).1.kids.getD (kidV (loadN D M k v p).1.keys key) 0)).1.1 k v then
   (({ (loadN D M k v p).1 with kids:=(loadN D M k v p).1.kids.set (kidV (loadN D M k v p).1.keys key) (storeN k v (cutN D k v key f M ((loadN D M k v p).1.kids.getD (kidV (loadN D M k v p).1.keys key) 0)).2 ((loadN D M k v p).1.kids.getD (kidV (loadN D M k v p).1.keys key) 0) (cutN D k v key f M ((loadN D M k v p).1.kids.getD (kidV (loadN D M k v p).1.keys key) 0)).1.1).1.1 },
    (storeN k v (cutN D k v key f M ((loadN D M k v p).1.kids.getD (kidV (loadN D M k v p).1.keys key) 0)).2 ((loadN D M k v p).1.kids.getD (kidV (loadN D M k v p).1.keys key) 0) (cutN D k v key f M ((loadN D M k v p).1.kids.getD (kidV (loadN D M k v p).1.keys key) 0)).1.1).1.2),
    (storeN k v (cutN D k v key f M ((loadN D M k v p).1.kids.getD (kidV (loadN D M k v p).1.keys key) 0)).2 ((loadN D M k v p).1.kids.getD (kidV (loadN D M k v p).1.keys key) 0) (cutN D k v key f M ((loadN D M k v p).1.kids.getD (kidV (loadN D M k v p).1.keys key) 0)).1.1).2)
  else if kidV (loadN D M k v p).1.keys key>0 then
   evenM D k v (cutN D k v key f M ((loadN D M k v p).1.kids.getD (kidV (loadN D M k v p).1.keys key) 0)).2 (loadN D M k v p).1 (kidV (loadN D M k v p).1.keys key-1) (kidV (loadN D M k v p).1.keys key) (cutN D k v key f M ((loadN D M k v p).1.kids.getD (kidV (loadN D M k v p).1.keys key) 0)).1.1
  else evenM D k v (cutN D k v key f M ((loadN D M k v p).1.kids.getD (kidV (loadN D M k v p).1.keys key) 0)).2 (loadN D M k v p).1 (kidV (loadN D M k v p).1.keys key+1) (kidV (loadN D M k v p).1.keys key) (cutN D k v key f M ((loadN D M k v p).1.kids.getD (kidV (loadN D M k v p).1.keys key) 0)).1.1
section
variable {D:DiskM} {M M':PgM} {k v:Nat}
def HasN (D:DiskM) (M:PgM) (k v:Nat):Nat->NodeM->Nat->Prs->List Int->Prop
 | 0,N,n,L,R=>N=lfOf L/\n=L.length/\R=[]/\PrsOk k v L/\SortP L/\n<=(capsV k v).1
 | h+1,N,n,L,R=>∃ u:List Ent,(u.map (·.1)).head?=some []/\N=inOf u/\n=u.length/\L=u.flatMap (·.2.prs)/\R=u.flatMap (·.2.pages)/\KeysOk k u/\SepE u/\n<=(capsV k v).2/\∀ e∈u,Has D M k v h e.2/\minOf k v h<=e.2.size
def oneOf (h:Nat):Nat:=if h=0 then 1 else 2
theorem HasN.size {h:Nat} {N:NodeM} {n:Nat} {L:Prs} {R:List Int} (u:HasN D M k v h N n L R):sizeN N k v=(n,if h=0 then (capsV k v).1 else (capsV k v).2):=by
 cases h with
 | zero=>
  obtain ⟨rfl,rfl,_⟩:=u
  exact qh5
 | succ h=>
  obtain ⟨A,_,rfl,rfl,_⟩:=u
  exact qh6
theorem HasN.used {h:Nat} {N:NodeM} {n:Nat} {L:Prs} {R:List Int} (C:M.over=false) (A:HasN D M k v h N n L R):∀ x∈R,InUse M x:=by
 cases h with
 | zero=>obtain ⟨_,_,rfl,_⟩:=A; exact fun x u=>nomatch u
 | succ h=>
  obtain ⟨I,_,_,_,_,rfl,_,_,_,E⟩:=A
  intro x u
  obtain ⟨e,G,u⟩:=yJ.1 u
  exact (E e G).1.used C x u
theorem HasN.frame {h:Nat} {N:NodeM} {n:Nat} {L:Prs} {R:List Int} (A:HasN D M k v h N n L R) (E:∀ x∈R,pagerReadM D M' x=pagerReadM D M x):HasN D M' k v h N n L R:=by
 cases h with
 | zero=>exact A
 | succ h=>
  obtain ⟨G,I,J,K,O,rfl,Q,U,V,C⟩:=A
  exact ⟨G,I,J,K,O,rfl,Q,U,V,fun e u=>⟨(C e u).1.frame fun x hx=>E x (yJ.2 ⟨e,u,hx⟩),(C e u).2⟩⟩
theorem HasN.ok {h:Nat} {N:NodeM} {n:Nat} {L:Prs} {R:List Int} (C:M.Wf) (E:M.over=false) (u:HasN D M k v h N n L R) (A:oneOf h<=n):NodeOk N k v:=by
 cases h with
 | zero=>
  obtain ⟨rfl,rfl,_,G,I,J⟩:=u
  exact qe4 G I A J
 | succ h=>
  obtain ⟨es,h2,rfl,rfl,h4,rfl,K,O,Q,U⟩:=u
  exact qc0 C E K O A Q fun e V=>(U e V).1
theorem HasN.stored {h:Nat} {N:NodeM} {n:Nat} {L:Prs} {R:List Int} {q:Int} (E:M.Wf) (G:M.over=false) (A:HasN D M k v h N n L R) (I:oneOf h<=n) (C:pagerReadM D M q=(kindN N,bodyN N,0)):Has D M k v h ⟨q,n,L,q::R⟩:=by
 have u:=A.ok E G I
 cases h with
 | zero=>
  obtain ⟨rfl,rfl,rfl,Q,U,V⟩:=A
  exact qdS u C
 | succ h=>
  obtain ⟨es,J,rfl,rfl,rfl,rfl,h6,K,h8,O⟩:=A
  exact qcp J u C K O
theorem Has.load {h:Nat} {s:Seg} (K:Has D M k v h s):∃ N R,loadN D M k v s.page=(N,0)/\HasN D M k v h N s.size s.prs R/\s.pages=s.page::R/\N.leaf=decide (h=0)/\oneOf h<=s.size:=by
 cases h with
 | zero=>
  obtain ⟨E,G,A,I⟩:=K
  have u:=A.right.2.2.2
  rw [if_pos (show (lfOf s.prs).leaf=true from rfl)] at u
  have e:(lfOf s.prs).keys.length=s.prs.length:=zK _
  rw [e] at u
  exact ⟨lfOf s.prs,[],A.load I,⟨rfl,G,rfl,fun x J=>⟨A.right.1 x.1 (zY J),A.right.2.1 x.2 (zY J),A.keys x.1 (zY J),A.vals x.2 (zY J)⟩,A.right.2.2.1,by rw [G]; exact u.2.2.1⟩,E,rfl,by rw [G]; exact u.2.1⟩
 | succ h=>
  obtain ⟨O,Q,E,G,A,I,U,V,h7⟩:=K
  have C:=I.right.innerTwo
  exact ⟨inOf O,_,I.load U,⟨O,Q,rfl,E,G,rfl,KeysOk.of I,V,by rw [E]; exact C.2,h7⟩,A,rfl,by rw [E]; exact C.1⟩
theorem HasN.store {h:Nat} {N:NodeM} {n:Nat} {L:Prs} {R:List Int} {p:Int} (E:M.Wf) (u:M.over=false) (A:HasN D M k v h N n L R) (G:oneOf h<=n) (K:InUse M p) (C:p∉R) (I:1<=M.free.length) :
  ∃ q M',storeN k v M p N=((q,0),M')/\Step D M M' [p] [q]/\Has D M' k v h ⟨q,n,L,q::R⟩/\M.free.length<=M'.free.length+1:=by
 obtain ⟨q,M',e,st,O,Q,_⟩:=qfU (D:=D) E u (A.ok E u G) K (fun e=>by rw [e] at I; exact absurd I (by decide))
 exact ⟨q,M',e,st,(A.frame fun x J=>(st.rest x (A.used u x J) (fun U=>C (by rw [<- zE.1 U]; exact J))).1).stored st.wf st.over G O,Q⟩
theorem qtv {L1 L2:Prs} {z:Key×Key} {key:Key}:giveN (lfOf (L1++[z])) (lfOf L2) key=(lfOf L1,lfOf (z::L2),z.1):=by
 unfold giveN
 rw [if_pos (show (lfOf _).leaf=true from rfl)]
 unfold lfOf
 simp
theorem qtI {L1 L2:Prs} {z y:Key×Key} {key:Key}:takeN (lfOf L1) (lfOf (z::y::L2)) key=(lfOf (L1++[z]),lfOf (y::L2),y.1):=by
 unfold takeN
 rw [if_pos (show (lfOf _).leaf=true from rfl)]
 unfold lfOf
 simp
theorem qtx {L1 L2:Prs} {key:Key}:joinN (lfOf L1) (lfOf L2) key=lfOf (L1++L2):=by
 unfold joinN
 unfold lfOf
 simp
theorem qtZ {a z b:Ent} {h u:List Ent} {key:Key}:giveN (inOf (a::h++[z])) (inOf (b::u)) key=(inOf (a::h),inOf (([],z.2)::(key,b.2)::u),z.1):=by
 unfold giveN
 rw [if_neg (show ¬ (inOf _).leaf=true from fun e=>nomatch e)]
 unfold inOf
 simp
theorem qtQ {h u:List Ent} {a z y:Ent} {key:Key}:takeN (inOf (a::h)) (inOf (z::y::u)) key=(inOf (a::h++[(key,z.2)]),inOf (([],y.2)::u),y.1):=by
 unfold takeN
 rw [if_neg (show ¬ (inOf _).leaf=true from fun e=>nomatch e)]
 unfold inOf
 simp
theorem qth {h u:List Ent} {a b:Ent} {key:Key}:joinN (inOf (a::h)) (inOf (b::u)) key=inOf (a::h++(key,b.2)::u):=by
 unfold joinN
 unfold inOf
 simp
theorem SepE.app {a b:List Ent} (u:SepE a) (A:SepE b) (h:∀ x∈a,∀ y∈b,KLt x.1 y.1/\∀ z∈x.2.prs,KLt z.1 y.1):SepE (a++b):=
 ⟨pairwise_append.2 ⟨u.pair,A.pair,fun x C y E=>h x C y E⟩,fun e G=>(zD.1 G).elim (u.low e) (A.low e)⟩
theorem SepE.sub {a b:List Ent} (h:SepE b) (u:a.Sublist b):SepE a:=⟨h.pair.sublist u,fun e A=>h.low e (u.subset A)⟩
theorem qla {e:Ent} (h:∀ x∈e.2.prs,KLe e.1 x.1):SepE [e]:=⟨pairwise_singleton _ _,fun a u=>by rw [zE.1 u]; exact h⟩
theorem qo2 {a b:Key} (h:KLt a b):KLt [] b:=by
 cases b with
 | nil=>exact absurd h qiM
 | cons y l=>show cmpL [] (y::l)<0; simp [cmpL]
theorem SepE.head {x:Ent} {r:List Ent} {m:Key} (h:SepE (x::r)) (C:∀ b∈r,KLt m b.1) (E:∀ y∈x.2.prs,KLe m y.1):SepE ((m,x.2)::r):=by
 have A:=yI.1 h.pair
 exact ⟨yI.2 ⟨fun b u=>⟨C b u,(A.1 b u).2⟩,A.2⟩,fun b u=>(zG.1 u).elim (fun e=>by rw [e]; exact E) fun u=>h.low b (zN _ u)⟩
theorem qlk {h:Nat} {x:Ent} {r:List Ent} {m:Key} (A:SepE (x::r)) (C:Has D M k v h x.2) (E:∀ y∈x.2.prs,KLe m y.1):∀ b∈r,KLt m b.1:=fun b G=>by
 obtain ⟨y,u⟩:=exists_mem_of_ne_nil _ C.ne
 exact qh2 (E y u) (((yI.1 A.pair).1 b G).2 y u)
structure TwoOk (D:DiskM) (M:PgM) (k v:Nat) (h:Nat) (r:NodeM×NodeM×Key) (L:Prs) (P:List Int):Prop where
 res:∃ n1 L1 R1 n2 L2 R2,HasN D M k v h r.1 n1 L1 R1/\HasN D M k v h r.2.1 n2 L2 R2/\L1++L2=L/\R1++R2=P/\(∀ x∈L1,KLt x.1 r.2.2)/\(∀ y∈L2,KLe r.2.2 y.1)/\r.2.2.length=k/\IsB r.2.2/\minOf k v h<=n1/\minOf k v h<=n2/\L1≠[]/\L2≠[]
theorem CapsOk.min (u:CapsOk k v) (h:Nat):oneOf h<=minOf k v h/\1<=minOf k v h:=by
 have A:=u.leaf
 have C:=u.inner
 unfold oneOf minOf
 split <;> omega
theorem qt0 {h:Nat} {es:List Ent} (A:∀ e∈es,Has D M k v h e.2/\minOf k v h<=e.2.size) (u:es≠[]):es.flatMap (·.2.prs)≠[]:=by
 cases es with
 | nil=>exact absurd rfl u
 | cons a r=>intro e; rw [yG] at e; exact (A a (by simp)).1.ne (append_eq_nil_iff.1 e).1
theorem qtj (E:CapsOk k v) {h:Nat} {Nl Nr:NodeM} {n1 n2:Nat} {L1 L2:Prs} {R1 R2:List Int} {key:Key} (hl:HasN D M k v h Nl n1 L1 R1) (hr:HasN D M k v h Nr n2 L2 R2) (R:minOf k v h<n1) (h2:n2+1=minOf k v h) (h3:∀ x∈L1,KLt x.1 key) (h4:∀ y∈L2,KLe key y.1) (hk:key.length=k/\IsB key) :
  TwoOk D M k v h (giveN Nl Nr key) (L1++L2) (R1++R2):=by
 have ao:=E.min h
 cases h with
 | zero=>
  obtain ⟨rfl,rfl,rfl,af,J,K⟩:=hl
  obtain ⟨rfl,rfl,rfl,ap,O,ag⟩:=hr
  have ah:L1≠[]:=fun e=>by rw [e] at R; simp at R
  obtain ⟨L,z,rfl⟩:∃ L z,L1=L++[z]:=⟨L1.dropLast,L1.getLast ah,(vA ah).symm⟩
  rw [qtv]
  have U:=af z (by simp)
  have ai:=SortP.app.1 J
  rw [zF] at R K
  have aq:SortP (z::L2):=by
   refine yI.2 ⟨fun a ha=>?_,O⟩
   obtain ⟨y,C,rfl⟩:=mem_map.1 ha
   exact qa5 (h3 z (by simp)) (h4 y C)
  have ar:minOf k v 0=(capsV k v).1 / 2:=rfl
  refine ⟨L.length,L,[],L2.length+1,z::L2,[],⟨rfl,rfl,rfl,af.sub fun x I=>zH _ I,ai.1,?_⟩,⟨rfl,rfl,rfl,fun x I=>(zG.1 I).elim (fun e=>by rw [e]; exact U) (ap x),aq,by omega⟩,by simp,rfl,fun x I=>ai.2.2 x I z (by simp),fun y C=>?_,U.1,U.2.2.1,?_,by omega,?_,by simp⟩
  ·simp at K; omega
  ·rcases zG.1 C with rfl | C
   ·exact qax
   ·exact qaS (qa5 (h3 z (by simp)) (h4 y C))
  ·simp at R; omega
  ·intro e; rw [e] at R; simp at R; omega
 | succ h=>
  obtain ⟨V,au,rfl,rfl,rfl,rfl,aj,J,K,aa⟩:=hl
  obtain ⟨u,av,rfl,rfl,rfl,rfl,aw,O,ag,ab⟩:=hr
  obtain ⟨a,G,z,rfl⟩:∃ a G z,V=a::G++[z]:=by
   have:2<=V.length:=by have:=ao.1; unfold oneOf at this; rw [if_neg (by omega)] at this; omega
   match V,this with
   | a::b::r,_=>exact ⟨a,(b::r).dropLast,(b::r).getLast (by simp),by rw [xI,vA]⟩
  obtain ⟨b,u,rfl⟩:∃ b G,u=b::G:=by
   cases u with
   | nil=>cases av
   | cons b r=>exact ⟨b,r,rfl⟩
  rw [qtZ]
  have U:=aa z (by simp)
  have ak:=aj z (show z∈G++[z] by simp)
  have al:=SepE.mid (A:=a::G) (e:=z) (B:=[]) J
  have Q:KLt z.1 key:=by
   obtain ⟨x,I⟩:=exists_mem_of_ne_nil _ U.1.ne
   exact qh2 (J.low z (by simp) x I) (h3 x (yJ.2 ⟨z,by simp,I⟩))
  have am:∀ y∈b.2.prs,KLe key y.1:=fun y C=>h4 y (by rw [yG]; exact zH _ C)
  have ac:∀ c∈u,KLt key c.1:=qlk O (ab b (by simp)).1 am
  have ad:SepE (([],z.2)::(key,b.2)::u):=by
   refine SepE.app (a:=[([],z.2)]) (qla fun x _=>qe9 _) (O.head ac am) fun x I y C=>?_
   rw [zE.1 I]
   rcases zG.1 C with rfl | C
   ·exact ⟨qo2 Q,fun w hw=>h3 w (yJ.2 ⟨z,by simp,hw⟩)⟩
   ·exact ⟨qo2 (ac y C),fun w hw=>qau (h3 w (yJ.2 ⟨z,by simp,hw⟩)) (ac y C)⟩
  have ar:minOf k v (h+1)=(capsV k v).2 / 2:=rfl
  simp only [zF,yH,xJ] at R h2 K ag
  have ay:(a::G++[z]).flatMap (·.2.prs)=(a::G).flatMap (·.2.prs)++z.2.prs:=by simp [yP]
  have az:(a::G++[z]).flatMap (·.2.pages)=(a::G).flatMap (·.2.pages)++z.2.pages:=by simp [yP]
  refine ⟨G.length+1,(a::G).flatMap (·.2.prs),(a::G).flatMap (·.2.pages),u.length+2,z.2.prs++(b.2.prs++u.flatMap (·.2.prs)),z.2.pages++(b.2.pages++u.flatMap (·.2.pages)),⟨a::G,au,rfl,rfl,rfl,rfl,fun c E=>aj c (show c∈G++[z] from zH _ E),J.sub (sublist_append_left _ _),by omega,fun c E=>aa c (zH _ E)⟩,⟨([],z.2)::(key,b.2)::u,rfl,rfl,rfl,rfl,rfl,fun c E=>(zG.1 E).elim (fun e=>by rw [e]; exact hk) (aw c),ad,by omega,fun c E=>?_⟩,?_,?_,fun x I=>?_,fun y C=>?_,ak.1,ak.2,by omega,by omega,?_,?_⟩
  ·rcases zG.1 E with rfl | E
   ·exact U
   rcases zG.1 E with rfl | E
   ·exact ab b (by simp)
   ·exact ab c (by simp [E])
  ·rw [ay]; simp only [yG,zV]
  ·rw [az]; simp only [yG,zV]
  ·obtain ⟨c,E,I⟩:=yJ.1 I
   exact al.1 c E x I
  ·rcases zD.1 C with C | C
   ·exact J.low z (by simp) y C
   ·exact qcb (qaS Q) (h4 y (by rw [yG]; exact C))
  ·exact qt0 (fun c E=>aa c (zH _ E)) (by simp)
  ·intro e; exact U.1.ne (append_eq_nil_iff.1 e).1
theorem qri {h:Nat} {es:List Ent} {key:Key} (C:SepE es) (E:∀ e∈es,Has D M k v h e.2/\minOf k v h<=e.2.size) (G:∀ x∈es.flatMap (·.2.prs),KLt x.1 key):∀ e∈es,KLt e.1 key:=fun e u=>by
 obtain ⟨x,A⟩:=exists_mem_of_ne_nil _ (E e u).1.ne
 exact qh2 (C.low e u x A) (G x (yJ.2 ⟨e,u,A⟩))
theorem qtD (hc:CapsOk k v) {h:Nat} {Nl Nr:NodeM} {n1 n2:Nat} {L1 L2:Prs} {R1 R2:List Int} {key:Key} (hl:HasN D M k v h Nl n1 L1 R1) (hr:HasN D M k v h Nr n2 L2 R2) (h1:n1+1=minOf k v h) (h2:minOf k v h<n2) (h3:∀ x∈L1,KLt x.1 key) (h4:∀ y∈L2,KLe key y.1) (hk:key.length=k/\IsB key) :
  TwoOk D M k v h (takeN Nl Nr key) (L1++L2) (R1++R2):=by
 have hmn:=hc.min h
 cases h with
 | zero=>
  obtain ⟨rfl,rfl,rfl,hL1,hs1,hb1⟩:=hl
  obtain ⟨rfl,rfl,rfl,hL2,hs2,hb2⟩:=hr
  obtain ⟨z,y,L,rfl⟩:∃ z y L,L2=z::y::L:=by
   match L2,h2 with
   | [],h=>simp at h
   | [_],h=>simp at h; omega
   | z::y::L,_=>exact ⟨z,y,L,rfl⟩
  rw [qtI]
  have hz:=hL2 z (by simp)
  have hy:=hL2 y (by simp)
  have hcs:=yI.1 (show (z.1::keysP (y::L)).Pairwise KLt from hs2)
  simp only [yH] at h2 hb2
  have hml:minOf k v 0=(capsV k v).1 / 2:=rfl
  have hzy:KLt z.1 y.1:=hcs.1 y.1 (by simp)
  refine ⟨L1.length+1,L1++[z],[],L.length+1,y::L,[],⟨rfl,by simp,rfl,fun x hx=>(zD.1 hx).elim (hL1 x) fun hx=>by rw [zE.1 hx]; exact hz,?_,by omega⟩,⟨rfl,by simp,rfl,fun x hx=>hL2 x (zN _ hx),hcs.2,by omega⟩,by simp,rfl,fun x hx=>?_,fun w hw=>?_,hy.1,hy.2.2.1,by omega,by omega,by simp,by simp⟩
  ·exact SortP.app.2 ⟨hs1,pairwise_singleton _ _,fun x hx w hw=>by rw [zE.1 hw]; exact qa5 (h3 x hx) (h4 z (by simp))⟩
  ·rcases zD.1 hx with hx | hx
   ·exact qau (qa5 (h3 x hx) (h4 z (by simp))) hzy
   ·rw [zE.1 hx]; exact hzy
  ·rcases zG.1 hw with rfl | hw
   ·exact qax
   ·exact qaS ((yI.1 (show (y.1::keysP L).Pairwise KLt from hcs.2)).1 w.1 (zY hw))
 | succ h=>
  obtain ⟨es1,hh1,rfl,rfl,rfl,rfl,hk1,hs1,hb1,hp1⟩:=hl
  obtain ⟨es2,hh2,rfl,rfl,rfl,rfl,hk2,hs2,hb2,hp2⟩:=hr
  obtain ⟨a,es,rfl⟩:∃ a es,es1=a::es:=by
   cases es1 with
   | nil=>cases hh1
   | cons b r=>exact ⟨b,r,rfl⟩
  obtain ⟨z,y,es2,rfl⟩:∃ z y es,es2=z::y::es:=by
   have h9:=hmn.2
   match es2,h2 with
   | [],h=>simp at h
   | [_],h=>simp at h; omega
   | z::y::L,_=>exact ⟨z,y,L,rfl⟩
  rw [qtQ]
  have hz:=hp2 z (by simp)
  have hyk:=hk2 y (show y∈y::es2 by simp)
  have hz4:∀ w∈z.2.prs,KLe key w.1:=fun w hw=>h4 w (by rw [yG]; exact zH _ hw)
  have hky:KLt key y.1:=qlk hs2 hz.1 hz4 y (by simp)
  have hcs:=yI.1 hs2.pair
  have hcy:=yI.1 hcs.2
  have hsl:SepE (a::es++[(key,z.2)]):=SepE.app hs1 (qla hz4) fun x hx w hw=>by
   rw [zE.1 hw]
   exact ⟨qri hs1 hp1 h3 x hx,fun q hq=>h3 q (yJ.2 ⟨x,hx,hq⟩)⟩
  have hsr:SepE (([],y.2)::es2):=SepE.relow (es:=y::es2) (hs2.sub (sublist_cons_self _ _))
  have hml:minOf k v (h+1)=(capsV k v).2 / 2:=rfl
  simp only [yH] at h1 h2 hb1 hb2
  refine ⟨es.length+2,(a::es).flatMap (·.2.prs)++z.2.prs,(a::es).flatMap (·.2.pages)++z.2.pages,es2.length+1,y.2.prs++es2.flatMap (·.2.prs),y.2.pages++es2.flatMap (·.2.pages),⟨a::es++[(key,z.2)],hh1,rfl,by simp,by simp [yP],by simp [yP],fun c hc=>?_,hsl,by omega,fun c hc=>?_⟩,⟨([],y.2)::es2,rfl,rfl,rfl,rfl,rfl,fun c hc=>hk2 c (show c∈y::es2 from zN _ hc),hsr,by omega,fun c hc=>?_⟩,?_,?_,fun x hx=>?_,fun w hw=>?_,hyk.1,hyk.2,by omega,by omega,?_,?_⟩
  ·rcases zD.1 (show c∈es++[(key,z.2)] from hc) with hc | hc
   ·exact hk1 c hc
   ·rw [zE.1 hc]; exact hk
  ·rcases zD.1 hc with hc | hc
   ·exact hp1 c hc
   ·rw [zE.1 hc]; exact hz
  ·rcases zG.1 hc with rfl | hc
   ·exact hp2 y (by simp)
   ·exact hp2 c (by simp [hc])
  ·simp only [yG,zV]
  ·simp only [yG,zV]
  ·rcases zD.1 hx with hx | hx
   ·exact qau (h3 x hx) hky
   ·exact (hcs.1 y (by simp)).2 x hx
  ·rcases zD.1 hw with hw | hw
   ·exact hs2.low y (by simp) w hw
   ·obtain ⟨c,hc,hw⟩:=yJ.1 hw
    exact qcb (qaS (hcy.1 c hc).1) (hs2.low c (by simp [hc]) w hw)
  ·intro e; exact hz.1.ne (append_eq_nil_iff.1 e).2
  ·intro e; exact (hp2 y (by simp)).1.ne (append_eq_nil_iff.1 e).1
theorem qtt {h:Nat} {Nl Nr:NodeM} {n1 n2:Nat} {L1 L2:Prs} {R1 R2:List Int} {key:Key} (hl:HasN D M k v h Nl n1 L1 R1) (hr:HasN D M k v h Nr n2 L2 R2) (h1:n1+n2<=(if h=0 then (capsV k v).1 else (capsV k v).2)) (h3:∀ x∈L1,KLt x.1 key) (h4:∀ y∈L2,KLe key y.1) (hk:key.length=k/\IsB key) :
  HasN D M k v h (joinN Nl Nr key) (n1+n2) (L1++L2) (R1++R2):=by
 cases h with
 | zero=>
  obtain ⟨rfl,rfl,rfl,ad,C,ae⟩:=hl
  obtain ⟨rfl,rfl,rfl,af,E,ag⟩:=hr
  rw [qtx]
  exact ⟨rfl,by simp,rfl,fun x K=>(zD.1 K).elim (ad x) (af x),SortP.app.2 ⟨C,E,fun x K y G=>qa5 (h3 x K) (h4 y G)⟩,h1⟩
 | succ h=>
  obtain ⟨Q,R,rfl,rfl,rfl,rfl,ah,C,ae,U⟩:=hl
  obtain ⟨A,ai,rfl,rfl,rfl,rfl,aj,E,ag,I⟩:=hr
  obtain ⟨a,O,rfl⟩:∃ a O,Q=a::O:=by
   cases Q with
   | nil=>cases R
   | cons b r=>exact ⟨b,r,rfl⟩
  obtain ⟨b,A,rfl⟩:∃ b O,A=b::O:=by
   cases A with
   | nil=>cases ai
   | cons b r=>exact ⟨b,r,rfl⟩
  rw [qth]
  have V:∀ y∈b.2.prs,KLe key y.1:=fun y G=>h4 y (by rw [yG]; exact zH _ G)
  have J:=qlk E (I b (by simp)).1 V
  refine ⟨a::O++(key,b.2)::A,R,rfl,by simp; omega,by simp [yP],by simp [yP],fun c u=>?_,SepE.app C (E.head J V) fun x K y G=>?_,by simpa using h1,fun c u=>?_⟩
  ·rcases zD.1 (show c∈O++(key,b.2)::A from u) with u | u
   ·exact ah c u
   rcases zG.1 u with rfl | u
   ·exact hk
   ·exact aj c u
  ·have aa:=qri C U h3 x K
   have ab:∀ w∈x.2.prs,KLt w.1 key:=fun w hw=>h3 w (yJ.2 ⟨x,K,hw⟩)
   rcases zG.1 G with rfl | G
   ·exact ⟨aa,ab⟩
   ·exact ⟨qau aa (J y G),fun w hw=>qau (ab w hw) (J y G)⟩
  ·rcases zD.1 u with u | u
   ·exact U c u
   rcases zG.1 u with rfl | u
   ·exact I b (by simp)
   ·exact I c (by simp [u])
end
end
end Go.Proofs.YtmmkegapckbomaaGreatDoor
end
section
namespace Go.Proofs.YtmmkegapckbomaaGreatDoor
open Go Go.Pt List
attribute [local irreducible] ld ldA ldV fld fldA newZ st new idx idxS idxA slc slcS slcP mkS chk nn call callV inv run runQ runU join loop held ext rng undefer s2a nxt ent IntKind.wrap
theorem qkh:∃ i,Tryz.prog.info? 23=some i/\i.zero=some (.slice none 0 0)/\i.size=1/\i.bytes=24:=qcV (by kernel_rfl)
abbrev elSl (s:Sl):Value:=s.v
abbrev elU (n:Int):Value:=.u n
theorem qic {α:Type} (e:α->Value) (l:List α) (i:Nat) (x:α):(l.take i++[x]++l.drop i).map e=(l.map e).take i++[e x]++(l.map e).drop i:=by
 rw [xM,xM,xO,xP]; rfl
theorem qoP {α:Type} (e:α->Value) (l:List α) (i:Nat):(l.take i++l.drop (i+1)).map e=(l.map e).take i++(l.map e).drop (i+1):=by
 rw [xM,xO,xP]
theorem qdM {a:Addr} {len cap:Nat} {hi:Int} {u:Nat} {K:Sl->Prop} (n:Nat) (A:hi=n) (h:n<=cap) (k:K ⟨some a,n,cap⟩):slc ⟨some a,len,cap⟩ none (some hi) none u K:=by
 subst A
 refine qe3 ⟨by omega,by dsimp only; omega⟩ ?_
 rw [zJ]; exact k
theorem qaL {b len cap:Nat} {lo:Int} {K:Sl->Prop} (n:Nat) (h:lo=n) (A:n<=len) (u:len<=cap) (C:n<cap) (k:K ⟨some ⟨b,n,none⟩,len-n,cap-n⟩):slc ⟨pW b,len,cap⟩ (some lo) none none 1 K:=by
 subst h
 refine qjB (by omega) (by omega) u (by omega) ?_
 rw [zJ,xT,xR]; exact k
theorem qrw {s:Sl} {lo hi mx:Int} {u:Nat} {K:Sl->Prop} (h:0<=lo/\lo<=hi/\hi<=mx/\mx<=s.cap) (k:∀ A,K A):slc s (some lo) (some hi) (some mx) u K:=by
 unfold slc
 exact ⟨by simpa using h,k _⟩
theorem qcg {α:Type} {e:α->Value} {w:World} {b:Nat} {cs:Array Value} {T:TypeId} {C:Nat×Nat} {l:List α} (E:w.heap[b]?=some (.cells cs T C)) (G:cs.toList.take l.length=l.map e) (i:Nat):∀ (j:Nat) u,((l.map e).drop i)[j]?=some u->w.cell? (Addr.add ⟨b,i,none⟩ j)=some u:=fun j u A=>by
 rw [Addr.add_mk,qaf E]
 rw [yZ] at A
 have h:=(zP.1 A).1
 rw [zK] at h
 rw [<- G,xA,if_pos h] at A
 simpa using A
theorem qiE {α:Type} {e:α->Value} {cs:Array Value} {l:List α} (h:cs.toList.take l.length=l.map e) {i:Nat} (hi:i<=l.length):cs.toList.take i=(l.map e).take i:=by
 rw [<- h,take_take,xQ hi]
theorem qig {α:Type} {enc:α->List Value} {e:α->Value} (u:∀ x,enc x=[e x]) {cs:Array Value} {l:List α} (h:cs.toList.take l.length=l.flatMap enc):cs.toList.take l.length=l.map e:=by rw [h,qcZ u]
theorem qpp {w:World} {s:Sl} {l:List Sl} {B:List Nat} {i:Nat} {ii:Int} {x:Sl} {vb:Nat} {T':TypeId} {K:Sl->WP} (h:Buf encSl 1 w s l B) (hi:i<=l.length) (he:ii=i) (hl:l.length<=100000) (hv:w.heap[vb]?=some (.cells #[elSl x] T' (0,0))) (ah:vb∉B)
  (kk:∀ s' B' w',Buf encSl 1 w' s' (insAt l i x) B'->Fr B w w'->(∀ b∈B',b∈B\/w.heap.size<=b)->K s' w') :
  cW 138 [s.v,.i ii,.slice (pW vb) 1 1] [.one .slice] w K:=by
 obtain ⟨aE,U,hz,ai,aj⟩:=qkh
 refine qis (s:=s) (i:=ii) (v:=⟨pW vb,1,1⟩) ?_
 unfold qeH
 subst he
 have ak:=h.len
 have V:∀ w',Fr B w w'->∀ (j:Nat) u,([elSl x]:List Value)[j]?=some u->w'.cell? (Addr.add ⟨vb,0,none⟩ j)=some u:=fun w' f j u hj=>by
  rw [Addr.add_mk,qaf (by rw [f.block vb (qab hv) ah]; exact hv),xR]
  simpa using hj
 refine Rds.part (S:=[]) (Buf.rds (enc:=encSl) (k:=1) (fun _=>rfl) h (fun _ _ h=>nomatch h)) (lo:=some (i:Int)) (hi:=none) i l.length rfl (by rw [xW,ak]) hi (zM _) fun s1 _ _ _=>?_
 refine cond_false rfl ?_
 refine qaa (fun hc=>?_) (fun hc=>?_)
 ·have I:i=l.length:=by have:=yO.1 hc; omega
  have al:Src Tryz.prog 1 22 (.slice (pW vb) 1 1) 1 ([x].flatMap encSl) w:=.ofSlice w (e':=23) (by kernel_rfl) _ 1 1 _ rfl (V w (.refl _ _)) (fun u hu=>by
   rw [yG,flatMap_nil,xG] at hu
   rw [zE.1 hu]; rfl)
  refine Buf.appSrc (ys:=[x]) (e:=23) h (fun _=>rfl) (by kernel_rfl) U hz ai rfl al rfl (by rw [aj]; omega) (by omega) fun s' B' w' b' f' n' _=>kk s' B' w' ?_ f' n'
  have e:insAt l i x=l++[x]:=by unfold insAt; rw [I,xZ,drop_length,xG]
  rw [e]; exact b'
 have I:i<l.length:=by
  have:=(zR.1 hc)
  omega
 have aG:l≠[]:=fun e=>by rw [e] at I; exact absurd I (xY _)
 obtain ⟨b,cs,T,rfl,ha,hb,hn,am,an,aH⟩:=h.ptr aG
 have hM:=qig (e:=elSl) (fun _=>rfl) aH
 obtain ⟨sa,sn,sc⟩:=s
 dsimp only at ha hn am an
 subst ha hn
 have aI:vb≠b:=by simpa using ah
 have C:(l.map elSl).length=l.length:=zK ..
 have ao:∀ v∈(l.map elSl).drop i,Value.oneCell' v=true:=fun v G=>by
  obtain ⟨y,_,rfl⟩:=mem_map.1 (yT G)
  rfl
 have J:((l.map elSl).drop i).length=l.length-i:=by rw [yB,C]
 have O:IntKind.wrap .i64 ((l.length:Int)+1)=((l.length+1:Nat):Int):=by rw [wi' _ (by omega)]; rfl
 have ap:IntKind.wrap .i64 ((i:Int)+1)=((i+1:Nat):Int):=by rw [wi' _ (by omega)]; rfl
 have aJ:IntKind.wrap .i64 (((l.length+1:Nat):Int)-(i:Int))=((l.length+1-i:Nat):Int):=by rw [wi' _ (by omega)]; omega
 refine qaa (fun hc=>?_) (fun hc=>?_)
 ·have hg:sc<l.length+1:=by
   have:=zC hc
   dsimp only at this
   rw [show (((1:Nat):Int))=1 from rfl,O] at this
   omega
  refine qdM i rfl (by omega) ?_
  dsimp only
  rw [show (((1:Nat):Int))=1 from rfl,O,aJ,ap]
  have aq:i+(l.length+1-i)=l.length+1:=by omega
  refine qjN (e:=23) (i:=aE) (kn:=.i64) (olds:=(l.map elSl).take i) (by kernel_rfl) (by kernel_rfl) U hz ai rfl (by rw [yK,C]; omega) (fun h=>nomatch h) (fun a ha j u hj=>?_) (by omega) (by omega) (by rw [aq,aj]; omega) (by omega) fun b2 aL c w2 e2 ac R Q aM aN=>?_
  ·cases ha
   have ar:=qcg hb hM 0 j u
   rw [xE] at ar
   rw [xA] at hj
   split at hj
   ·exact ar hj
   ·cases hj
  rw [aq] at Q ⊢
  have au:=qab hb
  have aX:Fr [b2] w w2:=R.mono fun _ h _=>nomatch h
  refine qaL i rfl (by omega) Q (by omega) ?_
  refine qdm (vs:=[elSl x]) (src:=⟨pW vb,1,1⟩) ac (el:=23) (by kernel_rfl) (by kernel_rfl) ?_ (fun _=>⟨_,rfl,V w2 (R.mono fun _ h _=>nomatch h)⟩) (fun v G=>by rw [zE.1 G]; rfl) (by simp; omega) fun w3 ad f3=>?_
  ·show 1=min 1 (l.length+1-i); omega
  refine qaL (i+1) rfl (by omega) Q (by omega) ?_
  refine qaL i rfl (by omega) (by omega) (by omega) ?_
  have aO:w3.heap[b]?=some (.cells cs T (0,0)):=by
   rw [f3.block b (yC au R.size) (by simp; omega),R.block b au (fun h=>nomatch h)]; exact hb
  refine qdm (w:=w3.drew) (vs:=(l.map elSl).drop i) (src:=⟨some ⟨b,i,none⟩,l.length-i,sc-i⟩) ad (el:=23) (by kernel_rfl) (by kernel_rfl) ?_ (fun _=>⟨_,rfl,qcg (w:=w3.drew) aO hM i⟩) ao (by rw [qao,J]; omega) fun w4 aP f4=>?_
  ·rw [J]; show l.length-i=min (l.length-i) (l.length+1-(i+1)); omega
  have E:=qrG (cs:=aL) (M:=l.map elSl) (i:=i) (v:=elSl x) (by rw [C]; omega) (by rw [C]; omega) aN
  have A:(insAt l i x).length=l.length+1:=by unfold insAt; simp; omega
  refine kk _ [b2] w4 (Buf.one (e:=elSl) (fun _=>rfl) aP A.symm Q (by rw [qao,qao]; exact aM) ?_) ?_ (fun b' ae=>?_)
  ·rw [A]
   rw [C] at E
   rw [E]
   exact (qic elSl l i x).symm
  ·refine Fr.trans' (S:=[b]) (T:=[b2]) (R.mono fun _ h _=>nomatch h) (f3.drew.trans f4) fun i hi=>.inr ?_
   rw [zE.1 hi,e2]; exact zM _
  ·rw [zE.1 ae,e2]; exact .inr (zM _)
 ·have hg:l.length+1<=sc:=by
   have:=zB hc
   dsimp only at this
   rw [show (((1:Nat):Int))=1 from rfl,O] at this
   omega
  dsimp only
  rw [show (((1:Nat):Int))=1 from rfl,O,ap]
  refine qdM (l.length+1) rfl hg ?_
  refine qaL (i+1) rfl (by omega) hg (by omega) ?_
  refine qkG (e:=Extern.SlicesOverlaps.overlaps #[22,22] #[4]) Tryz.func172 (by kernel_rfl) (by kernel_rfl) (by kernel_rfl) (by kernel_rfl) false w (qkv (by kernel_rfl) U hv hb aI (by omega)) ?_
  refine cond_true rfl ?_
  refine qaL (i+1) rfl (by omega) hg (by omega) ?_
  refine qaL i rfl (by omega) hg (by omega) ?_
  refine qdm (w:=w.drew) (vs:=(l.map elSl).drop i) (src:=⟨some ⟨b,i,none⟩,l.length+1-i,sc-i⟩) hb (el:=23) (by kernel_rfl) (by kernel_rfl) ?_ (fun _=>⟨_,rfl,qcg (w:=w.drew) hb hM i⟩) ao (by rw [J]; omega) fun w2 ac R=>?_
  ·rw [J]; show l.length-i=min (l.length+1-i) (l.length+1-(i+1)); omega
  refine qaL i rfl (by omega) hg (by omega) ?_
  refine qdm (vs:=[elSl x]) (src:=⟨pW vb,1,1⟩) ac (el:=23) (by kernel_rfl) (by kernel_rfl) ?_ (fun _=>⟨_,rfl,V w2 ((Fr.refl [b] w).drew.trans R)⟩) (fun v G=>by rw [zE.1 G]; rfl) (by rw [qao]; simp; omega) fun w3 ad f3=>?_
  ·show 1=min 1 (l.length+1-i); omega
  have E:=qq0 (cs:=cs) (M:=l.map elSl) (i:=i) (v:=elSl x) (by rw [C]; omega) (by rw [C]; omega) (qiE hM (by omega))
  have A:(insAt l i x).length=l.length+1:=by unfold insAt; simp; omega
  refine kk _ [b] w3 (Buf.one (e:=elSl) (fun _=>rfl) ad A.symm hg (by rw [qao,qao]; exact an) ?_) (((Fr.refl [b] w).drew.trans R).trans f3) (fun b' ae=>.inl ae)
  rw [A]
  rw [C] at E
  rw [E]
  exact (qic elSl l i x).symm
theorem qpS {w:World} {s:Sl} {l:List Sl} {B:List Nat} {i:Nat} {ii jj:Int} {K:Sl->WP} (h:Buf encSl 1 w s l B) (hi:i<l.length) (he:ii=i) (hj:jj=((i+1:Nat):Int)) (hl:l.length<=100000)
  (kk:∀ s' w',Buf encSl 1 w' s' (delAt l i) B->Fr B w w'->K s' w') :
  cW 141 [s.v,.i ii,.i jj] [.one .slice] w K:=by
 obtain ⟨ar,V,hz,aa,au⟩:=qkh
 refine qiu ?_
 unfold qel
 subst he hj
 have ab:l≠[]:=fun e=>by rw [e] at hi; exact absurd hi (xY _)
 obtain ⟨b,cs,T,rfl,ha,hb,hn,O,E,ac⟩:=h.ptr ab
 have hM:=qig (e:=elSl) (fun _=>rfl) ac
 obtain ⟨sa,sn,sc⟩:=s
 dsimp only at ha hn O E
 subst ha hn
 have A:(l.map elSl).length=l.length:=zK ..
 have ax:∀ v∈(l.map elSl).drop (i+1),Value.oneCell' v=true:=fun v ad=>by
  obtain ⟨y,_,rfl⟩:=mem_map.1 (yT ad)
  rfl
 have ay:((l.map elSl).drop (i+1)).length=l.length-(i+1):=by rw [yB,A]
 refine qrw (by dsimp only; omega) fun _=>?_
 refine cond_false (zR.2 (by omega)) ?_
 refine qdM i rfl (by omega) ?_
 have ae:∀ J,J.heap[b]?=some (.cells (splice cs i ((l.map elSl).drop (i+1))) T (0,0))->Fr [b] w J->slc ⟨pW b,l.length-1,sc⟩ (some (((l.length-1:Nat)):Int)) (some ((l.length:Nat):Int)) none 1 fun (G:Sl)=>
  run [] ((Builtin.clear_ #[22] 0 (#[Value.slice G.a G.len G.cap])).run Tryz.prog J)<|
  fun (az:PUnit) (af:World)=>
  K ⟨pW b,l.length-1,sc⟩ af:=fun J I f5=>by
  refine qh9 (by omega) (by omega) (by omega) (by omega) ?_
  rw [zJ,zJ,xT,xR]
  have h1:l.length-(l.length-1)=1:=by omega
  rw [h1]
  dsimp only
  refine qpj (e:=23) (z:=(Value.slice none 0 0)) I (by kernel_rfl) (by kernel_rfl) rfl rfl (by omega) (by rw [qao]; omega) fun w6 ah f6=>?_
  have C:=qqA (cs:=cs) (M:=l.map elSl) (i:=i) (z:=(Value.slice none 0 0)) (by rw [A]; omega) (by rw [A]; exact hM)
  have Q:(delAt l i).length=l.length-1:=by unfold delAt; simp; omega
  refine kk _ w6 (Buf.one (e:=elSl) (fun _=>rfl) ah Q.symm (by omega) (by rw [qao,qao]; exact E) ?_) (f5.trans f6)
  rw [Q]
  rw [A] at C
  rw [show List.replicate 1 ((Value.slice none 0 0))=[(Value.slice none 0 0)] from rfl,C]
  exact (qoP elSl l i).symm
 refine Rds.part (S:=[]) (Buf.rds (enc:=encSl) (k:=1) (fun _=>rfl) h (fun _ _ h=>nomatch h)) (lo:=some ((i+1:Nat):Int)) (hi:=none) (i+1) l.length rfl rfl (by omega) (zM _) fun s3 R h3 aE=>?_
 have U:Src Tryz.prog 1 22 s3.v s3.len ((l.map elSl).drop (i+1)) w.drew:=by
  have:=qdN (P:=Tryz.prog) (tx:=22) (e':=23) (h3.same (Same.refl w).drew) (fun _=>rfl) (fun x u hu=>by rw [zE.1 hu]; rfl) (by kernel_rfl)
  rw [qcZ (enc:=encSl) (e:=elSl) (fun _=>rfl),xZ,xP] at this
  exact this
 dsimp only
 refine qoX (w:=w.drew) (e:=23) hb (by kernel_rfl) V aa U (by rw [R]; omega) E fun J I f5=>?_
 have e:i+s3.len=l.length-1:=by rw [R]; omega
 rw [e]
 exact ae J I ((Fr.refl [b] w).drew.trans f5)
theorem qp5 {w:World} {s:Sl} {l:List Int} {B:List Nat} {i:Nat} {ii:Int} {x:Int} {vb:Nat} {T':TypeId} {K:Sl->WP} (h:Buf encU 1 w s l B) (hi:i<=l.length) (he:ii=i) (hl:l.length<=100000) (hv:w.heap[vb]?=some (.cells #[elU x] T' (0,0))) (ah:vb∉B)
  (kk:∀ s' B' w',Buf encU 1 w' s' (insAt l i x) B'->Fr B w w'->(∀ b∈B',b∈B\/w.heap.size<=b)->K s' w') :
  cW 140 [s.v,.i ii,.slice (pW vb) 1 1] [.one .slice] w K:=by
 obtain ⟨aE,U,hz,ai,aj⟩:=qdY
 refine qiA (s:=s) (i:=ii) (v:=⟨pW vb,1,1⟩) ?_
 unfold qeA
 subst he
 have ak:=h.len
 have V:∀ w',Fr B w w'->∀ (j:Nat) u,([elU x]:List Value)[j]?=some u->w'.cell? (Addr.add ⟨vb,0,none⟩ j)=some u:=fun w' f j u hj=>by
  rw [Addr.add_mk,qaf (by rw [f.block vb (qab hv) ah]; exact hv),xR]
  simpa using hj
 refine Rds.part (S:=[]) (Buf.rds (enc:=encU) (k:=1) (fun _=>rfl) h (fun _ _ h=>nomatch h)) (lo:=some (i:Int)) (hi:=none) i l.length rfl (by rw [xW,ak]) hi (zM _) fun s1 _ _ _=>?_
 refine cond_false rfl ?_
 refine qaa (fun hc=>?_) (fun hc=>?_)
 ·have I:i=l.length:=by have:=yO.1 hc; omega
  have al:Src Tryz.prog 1 92 (.slice (pW vb) 1 1) 1 ([x].flatMap encU) w:=.ofSlice w (e':=37) (by kernel_rfl) _ 1 1 _ rfl (V w (.refl _ _)) (fun u hu=>by
   rw [yG,flatMap_nil,xG] at hu
   rw [zE.1 hu]; rfl)
  refine Buf.appSrc (ys:=[x]) (e:=37) h (fun _=>rfl) (by kernel_rfl) U hz ai rfl al rfl (by rw [aj]; omega) (by omega) fun s' B' w' b' f' n' _=>kk s' B' w' ?_ f' n'
  have e:insAt l i x=l++[x]:=by unfold insAt; rw [I,xZ,drop_length,xG]
  rw [e]; exact b'
 have I:i<l.length:=by
  have:=(zR.1 hc)
  omega
 have aG:l≠[]:=fun e=>by rw [e] at I; exact absurd I (xY _)
 obtain ⟨b,cs,T,rfl,ha,hb,hn,am,an,aH⟩:=h.ptr aG
 have hM:=qig (e:=elU) (fun _=>rfl) aH
 obtain ⟨sa,sn,sc⟩:=s
 dsimp only at ha hn am an
 subst ha hn
 have aI:vb≠b:=by simpa using ah
 have C:(l.map elU).length=l.length:=zK ..
 have ao:∀ v∈(l.map elU).drop i,Value.oneCell' v=true:=fun v G=>by
  obtain ⟨y,_,rfl⟩:=mem_map.1 (yT G)
  rfl
 have J:((l.map elU).drop i).length=l.length-i:=by rw [yB,C]
 have O:IntKind.wrap .i64 ((l.length:Int)+1)=((l.length+1:Nat):Int):=by rw [wi' _ (by omega)]; rfl
 have ap:IntKind.wrap .i64 ((i:Int)+1)=((i+1:Nat):Int):=by rw [wi' _ (by omega)]; rfl
 have aJ:IntKind.wrap .i64 (((l.length+1:Nat):Int)-(i:Int))=((l.length+1-i:Nat):Int):=by rw [wi' _ (by omega)]; omega
 refine qaa (fun hc=>?_) (fun hc=>?_)
 ·have hg:sc<l.length+1:=by
   have:=zC hc
   dsimp only at this
   rw [show (((1:Nat):Int))=1 from rfl,O] at this
   omega
  refine qdM i rfl (by omega) ?_
  dsimp only
  rw [show (((1:Nat):Int))=1 from rfl,O,aJ,ap]
  have aq:i+(l.length+1-i)=l.length+1:=by omega
  refine qjN (e:=37) (i:=aE) (kn:=.i64) (olds:=(l.map elU).take i) (by kernel_rfl) (by kernel_rfl) U hz ai rfl (by rw [yK,C]; omega) (fun h=>nomatch h) (fun a ha j u hj=>?_) (by omega) (by omega) (by rw [aq,aj]; omega) (by omega) fun b2 aL c w2 e2 ac R Q aM aN=>?_
  ·cases ha
   have ar:=qcg hb hM 0 j u
   rw [xE] at ar
   rw [xA] at hj
   split at hj
   ·exact ar hj
   ·cases hj
  rw [aq] at Q ⊢
  have au:=qab hb
  have aX:Fr [b2] w w2:=R.mono fun _ h _=>nomatch h
  refine qaL i rfl (by omega) Q (by omega) ?_
  refine qdm (vs:=[elU x]) (src:=⟨pW vb,1,1⟩) ac (el:=37) (by kernel_rfl) (by kernel_rfl) ?_ (fun _=>⟨_,rfl,V w2 (R.mono fun _ h _=>nomatch h)⟩) (fun v G=>by rw [zE.1 G]; rfl) (by simp; omega) fun w3 ad f3=>?_
  ·show 1=min 1 (l.length+1-i); omega
  refine qaL (i+1) rfl (by omega) Q (by omega) ?_
  refine qaL i rfl (by omega) (by omega) (by omega) ?_
  have aO:w3.heap[b]?=some (.cells cs T (0,0)):=by
   rw [f3.block b (yC au R.size) (by simp; omega),R.block b au (fun h=>nomatch h)]; exact hb
  refine qdm (w:=w3.drew) (vs:=(l.map elU).drop i) (src:=⟨some ⟨b,i,none⟩,l.length-i,sc-i⟩) ad (el:=37) (by kernel_rfl) (by kernel_rfl) ?_ (fun _=>⟨_,rfl,qcg (w:=w3.drew) aO hM i⟩) ao (by rw [qao,J]; omega) fun w4 aP f4=>?_
  ·rw [J]; show l.length-i=min (l.length-i) (l.length+1-(i+1)); omega
  have E:=qrG (cs:=aL) (M:=l.map elU) (i:=i) (v:=elU x) (by rw [C]; omega) (by rw [C]; omega) aN
  have A:(insAt l i x).length=l.length+1:=by unfold insAt; simp; omega
  refine kk _ [b2] w4 (Buf.one (e:=elU) (fun _=>rfl) aP A.symm Q (by rw [qao,qao]; exact aM) ?_) ?_ (fun b' ae=>?_)
  ·rw [A]
   rw [C] at E
   rw [E]
   exact (qic elU l i x).symm
  ·refine Fr.trans' (S:=[b]) (T:=[b2]) (R.mono fun _ h _=>nomatch h) (f3.drew.trans f4) fun i hi=>.inr ?_
   rw [zE.1 hi,e2]; exact zM _
  ·rw [zE.1 ae,e2]; exact .inr (zM _)
 ·have hg:l.length+1<=sc:=by
   have:=zB hc
   dsimp only at this
   rw [show (((1:Nat):Int))=1 from rfl,O] at this
   omega
  dsimp only
  rw [show (((1:Nat):Int))=1 from rfl,O,ap]
  refine qdM (l.length+1) rfl hg ?_
  refine qaL (i+1) rfl (by omega) hg (by omega) ?_
  refine qkG (e:=Extern.SlicesOverlaps.overlaps #[92,92] #[4]) Tryz.func176 (by kernel_rfl) (by kernel_rfl) (by kernel_rfl) (by kernel_rfl) false w (qkv (by kernel_rfl) U hv hb aI (by omega)) ?_
  refine cond_true rfl ?_
  refine qaL (i+1) rfl (by omega) hg (by omega) ?_
  refine qaL i rfl (by omega) hg (by omega) ?_
  refine qdm (w:=w.drew) (vs:=(l.map elU).drop i) (src:=⟨some ⟨b,i,none⟩,l.length+1-i,sc-i⟩) hb (el:=37) (by kernel_rfl) (by kernel_rfl) ?_ (fun _=>⟨_,rfl,qcg (w:=w.drew) hb hM i⟩) ao (by rw [J]; omega) fun w2 ac R=>?_
  ·rw [J]; show l.length-i=min (l.length+1-i) (l.length+1-(i+1)); omega
  refine qaL i rfl (by omega) hg (by omega) ?_
  refine qdm (vs:=[elU x]) (src:=⟨pW vb,1,1⟩) ac (el:=37) (by kernel_rfl) (by kernel_rfl) ?_ (fun _=>⟨_,rfl,V w2 ((Fr.refl [b] w).drew.trans R)⟩) (fun v G=>by rw [zE.1 G]; rfl) (by rw [qao]; simp; omega) fun w3 ad f3=>?_
  ·show 1=min 1 (l.length+1-i); omega
  have E:=qq0 (cs:=cs) (M:=l.map elU) (i:=i) (v:=elU x) (by rw [C]; omega) (by rw [C]; omega) (qiE hM (by omega))
  have A:(insAt l i x).length=l.length+1:=by unfold insAt; simp; omega
  refine kk _ [b] w3 (Buf.one (e:=elU) (fun _=>rfl) ad A.symm hg (by rw [qao,qao]; exact an) ?_) (((Fr.refl [b] w).drew.trans R).trans f3) (fun b' ae=>.inl ae)
  rw [A]
  rw [C] at E
  rw [E]
  exact (qic elU l i x).symm
theorem qqd {w:World} {s:Sl} {l:List Int} {B:List Nat} {i:Nat} {ii jj:Int} {K:Sl->WP} (h:Buf encU 1 w s l B) (hi:i<l.length) (he:ii=i) (hj:jj=((i+1:Nat):Int)) (hl:l.length<=100000)
  (kk:∀ s' w',Buf encU 1 w' s' (delAt l i) B->Fr B w w'->K s' w') :
  cW 214 [s.v,.i ii,.i jj] [.one .slice] w K:=by
 obtain ⟨ar,V,hz,aa,au⟩:=qdY
 refine qiv ?_
 unfold qev
 subst he hj
 have ab:l≠[]:=fun e=>by rw [e] at hi; exact absurd hi (xY _)
 obtain ⟨b,cs,T,rfl,ha,hb,hn,O,E,ac⟩:=h.ptr ab
 have hM:=qig (e:=elU) (fun _=>rfl) ac
 obtain ⟨sa,sn,sc⟩:=s
 dsimp only at ha hn O E
 subst ha hn
 have A:(l.map elU).length=l.length:=zK ..
 have ax:∀ v∈(l.map elU).drop (i+1),Value.oneCell' v=true:=fun v ad=>by
  obtain ⟨y,_,rfl⟩:=mem_map.1 (yT ad)
  rfl
 have ay:((l.map elU).drop (i+1)).length=l.length-(i+1):=by rw [yB,A]
 refine qrw (by dsimp only; omega) fun _=>?_
 refine cond_false (zR.2 (by omega)) ?_
 refine qdM i rfl (by omega) ?_
 have ae:∀ J,J.heap[b]?=some (.cells (splice cs i ((l.map elU).drop (i+1))) T (0,0))->Fr [b] w J->slc ⟨pW b,l.length-1,sc⟩ (some (((l.length-1:Nat)):Int)) (some ((l.length:Nat):Int)) none 1 fun (G:Sl)=>
  run [] ((Builtin.clear_ #[92] 0 (#[Value.slice G.a G.len G.cap])).run Tryz.prog J)<|
  fun (az:PUnit) (af:World)=>
  K ⟨pW b,l.length-1,sc⟩ af:=fun J I f5=>by
  refine qh9 (by omega) (by omega) (by omega) (by omega) ?_
  rw [zJ,zJ,xT,xR]
  have h1:l.length-(l.length-1)=1:=by omega
  rw [h1]
  dsimp only
  refine qpj (e:=37) (z:=(Value.int .u32 0)) I (by kernel_rfl) (by kernel_rfl) rfl rfl (by omega) (by rw [qao]; omega) fun w6 ah f6=>?_
  have C:=qqA (cs:=cs) (M:=l.map elU) (i:=i) (z:=(Value.int .u32 0)) (by rw [A]; omega) (by rw [A]; exact hM)
  have Q:(delAt l i).length=l.length-1:=by unfold delAt; simp; omega
  refine kk _ w6 (Buf.one (e:=elU) (fun _=>rfl) ah Q.symm (by omega) (by rw [qao,qao]; exact E) ?_) (f5.trans f6)
  rw [Q]
  rw [A] at C
  rw [show List.replicate 1 ((Value.int .u32 0))=[(Value.int .u32 0)] from rfl,C]
  exact (qoP elU l i).symm
 refine Rds.part (S:=[]) (Buf.rds (enc:=encU) (k:=1) (fun _=>rfl) h (fun _ _ h=>nomatch h)) (lo:=some ((i+1:Nat):Int)) (hi:=none) (i+1) l.length rfl rfl (by omega) (zM _) fun s3 R h3 aE=>?_
 have U:Src Tryz.prog 1 92 s3.v s3.len ((l.map elU).drop (i+1)) w.drew:=by
  have:=qdN (P:=Tryz.prog) (tx:=92) (e':=37) (h3.same (Same.refl w).drew) (fun _=>rfl) (fun x u hu=>by rw [zE.1 hu]; rfl) (by kernel_rfl)
  rw [qcZ (enc:=encU) (e:=elU) (fun _=>rfl),xZ,xP] at this
  exact this
 dsimp only
 refine qoX (w:=w.drew) (e:=37) hb (by kernel_rfl) V aa U (by rw [R]; omega) E fun J I f5=>?_
 have e:i+s3.len=l.length-1:=by rw [R]; omega
 rw [e]
 exact ae J I ((Fr.refl [b] w).drew.trans f5)
end Go.Proofs.YtmmkegapckbomaaGreatDoor
end
section
namespace Go.Proofs.YtmmkegapckbomaaGreatDoor
open Go Go.Pt List
def shp (t:Int):Int×Int:=
 if t=0 then (16,88) else if t=1 then (16,108) else if t=2 then (16,1) else if t=3 then (16,16)
 else if t=4 then (24,16) else if t=5 then (24,16) else if t=6 then (24,65) else if t=7 then (1,8) else (0,0)
theorem qly (t:Int):t=0\/t=1\/t=2\/t=3\/t=4\/t=5\/t=6\/t=7\/(t≠0/\t≠1/\t≠2/\t≠3/\t≠4/\t≠5/\t≠6/\t≠7):=by omega
theorem qnx {t:Int} {w:World} {K:Int×Int->WP} (h:K (shp t) w):cW 63 [.i t] [.one .i,.one .i] w K:=by
 apply qmz
 unfold qiV
 rcases qly t with rfl | rfl | rfl | rfl | rfl | rfl | rfl | rfl | ⟨u,A,C,E,G,I,J,O⟩ <;> simpa [shp, *] using h
theorem qhq {t:Int} {w:World} {K:Int×Int->WP} (h:K (shp t) w):cW 15 [.i t] [.one .i,.one .i] w K:=by
 apply qeS
 unfold qcJ
 rcases qly t with rfl | rfl | rfl | rfl | rfl | rfl | rfl | rfl | ⟨u,A,C,E,G,I,J,O⟩ <;> simpa [shp, *] using h
def caps (k v:Int):Int×Int:=if k<1\/k>24\/v<0\/v>108 then (0,0) else (498 / (k+v),(498+k) / (4+k))
theorem qtP {k v:Int} {w:World} {K:Int×Int->WP} (h:∀ w',Same w w'->K (caps k v) w'):cW 64 [.i k,.i v] [.one .i,.one .i] w K:=by
 apply qmW
 unfold qj4
 by_cases hc:k<1\/k>24\/v<0\/v>108
 ·refine qbS true w (fun M u=>?_) ?_
  ·by_cases h1:k<1
   ·simpa [h1] using u
   by_cases h2:k>24
   ·simpa [h1,h2] using u
   by_cases h3:v<0
   ·simpa [h1,h2,h3] using u
   have A:v>108:=by omega
   simpa [h1,h2,h3,A] using u
  ·have:=h w (.refl w)
   simpa [caps,hc] using this
 ·refine qbS false w (fun M u=>?_) ?_
  ·simpa [show ¬ k<1 by omega,show ¬ k>24 by omega,show ¬ v<0 by omega,show ¬ v>108 by omega] using u
  ·have:=h w.drew (Same.refl w).drew
   simp only [caps,hc,if_false] at this
   have e1:IntKind.i64.wrap (k+v)=k+v:=IntWalk.i64_in _ (by omega)
   have C:IntKind.i64.wrap (4+k)=4+k:=IntWalk.i64_in _ (by omega)
   have E:IntKind.i64.wrap (498+k)=498+k:=IntWalk.i64_in _ (by omega)
   have J:0<k+v:=by omega
   have O:0<4+k:=by omega
   have G:(498:Int).tdiv (k+v)=498 / (k+v):=Int.tdiv_eq_ediv_of_nonneg (by omega)
   have I:(498+k).tdiv (4+k)=(498+k) / (4+k):=Int.tdiv_eq_ediv_of_nonneg (by omega)
   have Q:498 / (k+v)<=498:=Int.ediv_le_self _ (by omega)
   have R:(498+k) / (4+k)<=498+k:=Int.ediv_le_self _ (by omega)
   have U:0<=498 / (k+v):=Int.ediv_nonneg (by omega) (by omega)
   have V:0<=(498+k) / (4+k):=Int.ediv_nonneg (by omega) (by omega)
   rw [e1,C,E,G,I,IntWalk.i64_in _ ⟨by omega,by omega⟩,IntWalk.i64_in _ ⟨by omega,by omega⟩]
   exact ⟨by omega,by omega,this⟩
abbrev good (t:Int):Prop:=0<=t/\t<=7
end Go.Proofs.YtmmkegapckbomaaGreatDoor
end
section
namespace Go.Proofs.YtmmkegapckbomaaGreatDoor
open Go Go.Pt List
attribute [local irreducible] ld ldA ldV fld fldA newZ st new idx idxS idxA slc slcS slcP mkS chk nn call callV inv run runQ runU join loop held ext rng undefer s2a nxt ent IntKind.wrap
theorem qoR {i j:Nat} (h:i+j<=10000000):IntKind.wrap .i64 (Int.fdiv (IntKind.wrap .u64 (IntKind.wrap .i64 ((i:Int)+(j:Int)))) (2^1))=(((i+j) / 2:Nat):Int):=by
 have e1:IntKind.wrap .i64 ((i:Int)+(j:Int))=(i:Int)+(j:Int):=wi' _ (by omega)
 have u:IntKind.wrap .u64 ((i:Int)+(j:Int))=(i:Int)+(j:Int):=IntWalk.u64_in _ (by omega)
 rw [e1,u,Int.fdiv_eq_ediv_of_nonneg _ (by decide)]
 have e:((i:Int)+(j:Int)) / 2^1=(((i+j) / 2:Nat):Int):=by omega
 rw [e,wi' _ (by omega)]
theorem qry {n:Nat} {v:Value} {p:Nat->Bool} {w:World} {K:Int->WP} (E:n<=1000000) (hf:∀ A (i:Nat) (V:Bool->WP),Fr [] w A->i<n->(∀ G,Fr [] w G->V (p i) G)->callV Tryz.prog v [.i i] [.one .bool] A V)
  (u:∀ i j,i<=j->j<n->p i=true->p j=true) (hk:∀ (r:Nat) w',r<=n->(∀ i,i<r->p i=false)->(∀ i,r<=i->i<n->p i=true)->Fr [] w w'->K r w') :
  cW 117 [.i n,v] [.one .i] w K:=by
 refine qk3 ?_
 unfold qha
 refine qak (fun s w'=>∃ i j:Nat,s=((i:Int),(j:Int))/\i<=j/\j<=n/\(∀ a,a<i->p a=false)/\(∀ a,j<=a->a<n->p a=true)/\Fr [] w w') (fun s _=>(s.2-s.1).toNat) ⟨0,n,rfl,by omega,by omega,fun _ h=>absurd h (xY _),fun a I J=>by omega,.refl _ _⟩ ?_
 rintro s A ⟨i,j,rfl,af,O,I,J,hs⟩ X hX
 dsimp only
 refine qaa (fun Q=>?_) (fun Q=>?_)
 ·have ag:i<j:=by have:=zC Q; omega
  rw [qoR (by omega)]
  refine hf A ((i+j) / 2) _ hs (by omega) fun G C=>?_
  cases hp:p ((i+j) / 2)
  ·refine cond_true rfl ?_
   have e:IntKind.wrap .i64 ((((i+j) / 2:Nat):Int)+1)=(((i+j) / 2+1:Nat):Int):=by rw [wi' _ (by omega)]; rfl
   rw [e]
   refine hX _ _ ⟨(i+j) / 2+1,j,rfl,by omega,O,fun a R=>?_,J,C⟩ (by dsimp only; omega)
   cases U:p a
   ·rfl
   ·have:=u a ((i+j) / 2) (by omega) (by omega) U
    rw [hp] at this; exact this.symm
  ·refine cond_false rfl ?_
   exact hX _ _ ⟨i,(i+j) / 2,rfl,by omega,by omega,I,fun a R E=>u _ a R E hp,C⟩ (by dsimp only; omega)
 ·have ah:¬ i<j:=by have:=zB Q; omega
  exact hk i A (by omega) I (fun a R E=>J a (by omega) E) hs
theorem qtu {n:Nat} {v:Value} {c:Nat->Int} {w:World} {K:Int×Bool->WP} (Q:n<=1000000) (hf:∀ I (i:Nat) (K':Int->WP),Fr [] w I->i<n->(∀ J,Fr [] w J->K' (c i) J)->callV Tryz.prog v [.i i] [.one .i] I K')
  (u:∀ i j,i<=j->j<n->c j>0->c i>0) (hk:∀ (r:Nat) w',r<=n->(∀ i,i<r->c i>0)->(∀ i,r<=i->i<n->¬ c i>0)->Fr [] w w'->K (r,decide (r<n/\c r=0)) w') :
  cW 119 [.i n,v] [.one .i,.one .bool] w K:=by
 refine qn3 ?_
 unfold qkp
 refine qak (fun s w'=>∃ i j:Nat,s=((i:Int),(j:Int))/\i<=j/\j<=n/\(∀ a,a<i->c a>0)/\(∀ a,j<=a->a<n->¬ c a>0)/\Fr [] w w') (fun s _=>(s.2-s.1).toNat) ⟨0,n,rfl,by omega,by omega,fun _ h=>absurd h (xY _),fun a R U=>by omega,.refl _ _⟩ ?_
 rintro s I ⟨i,j,rfl,ah,V,R,U,hs⟩ X hX
 dsimp only
 refine qaa (fun E=>?_) (fun E=>?_)
 ·have ai:i<j:=by have:=zC E; omega
  rw [qoR (by omega)]
  refine hf I ((i+j) / 2) _ hs (by omega) fun J A=>?_
  refine qaa (fun G=>?_) (fun G=>?_)
  ·have G:=zC G
   have e:IntKind.wrap .i64 ((((i+j) / 2:Nat):Int)+1)=(((i+j) / 2+1:Nat):Int):=by rw [wi' _ (by omega)]; rfl
   rw [e]
   exact hX _ _ ⟨(i+j) / 2+1,j,rfl,by omega,V,fun a ha=>u a _ (by omega) (by omega) G,U,A⟩ (by dsimp only; omega)
  ·have G:=zB G
   exact hX _ _ ⟨i,(i+j) / 2,rfl,by omega,by omega,R,fun a ha Q ac=>G (u _ a ha Q ac),A⟩ (by dsimp only; omega)
 ·have aj:¬ i<j:=by have:=zB E; omega
  have O:=fun w'=>hk i w' (by omega) R (fun a ha Q=>U a (by omega) Q)
  refine qaa (fun E=>?_) (fun E=>?_)
  ·have C:i<n:=by have:=zC E; omega
   refine hf I i _ hs C fun J A=>?_
   have e:(c i==0)=decide (i<n/\c i=0):=by
    rw [Bool.eq_iff_iff,yO,yM]; exact ⟨fun h=>⟨C,h⟩,fun h=>h.2⟩
   rw [e]
   exact O J A
  ·have C:¬ i<n:=by have:=zB E; omega
   have:=O I hs
   rw [zU (fun h=>C h.1)] at this
   exact this
section
variable {S S':List Nat} {w:World} {x:NdC} {n:NodeM} {ks:Sl} {key:Key}
theorem qf9 {K:Int×Bool->WP} (hx:NodeR S w x n) (hk:RdB S' w ks key) (hB:IsB key) (hr:Rising n.keys) (hl:n.keys.length<=1000000) (kk:∀ w',Fr [] w w'->K (placeV n.keys key,decide (n.keys[placeV n.keys key]?=some key)) w') :
  cW 84 [.agg (ndV x),ks.v] [.one .i,.one .bool] w K:=by
 obtain ⟨h0,U,⟨pk,G,C⟩,_⟩:=hx
 refine qmF ?_
 unfold qiT
 refine Own.new' (Own.start [] w) fun r1 w1 e1 f1 h=>?_
 refine Own.new' h fun r3 w2 e2 f2 h=>?_
 refine Own.ld h 1 rfl x.2.1 rfl ?_
 have J:x.2.1.len=pk.length:=G.len
 have al:n.keys.length=pk.length:=by rw [<- C,zK]
 have u:∀ (i:Nat) (A:i<pk.length),n.keys[i]?=some pk[i].2:=fun i A=>by rw [<- C,zQ,zA A]; rfl
 rw [J]
 refine qtu (c:=fun i=>cmpL key (n.keys.getD i [])) (by omega) (fun w3 i K' f3 A V=>?_) (fun i j an hj hc=>?_) fun r w' ap aa ab f'=>?_
 ·refine qbm (lb:=[.pointer (pW r3),.pointer (pW r1)]) rfl (by kernel_rfl) ?_
  have I:=h.frame0 f3
  refine qjG ?_
  unfold qfk
  have I:=I.drew
  refine Own.ld I 0 rfl ks rfl ?_
  refine Own.ld I 1 rfl x.2.1 rfl ?_
  refine RdK.get (G.frame0 I.fr) i rfl A ?_
  refine qhB (hk.frame0 I.fr) ((G.frame0 I.fr).2 pk[i] (zW A)) hB (U.1 _ (yE (u i A))) ?_
  have e:n.keys.getD i []=pk[i].2:=by rw [yQ,u i A]; rfl
  have:=V w3.drew f3.drew
  rw [e] at this
  exact this
 ·by_cases hij':i=j
  ·rw [hij']; exact hc
  ·have A:=u i (by omega)
   have O:=u j hj
   rw [yQ,O,xV] at hc
   rw [yQ,A,xV]
   have h1:KLt pk[j].2 key:=by unfold KLt; rw [qbo]; omega
   have Q:=qau (qhD hr (by omega) A O) h1
   unfold KLt at Q
   rw [qbo] at Q
   omega
 ·have hp:placeV n.keys key=r:=qq6 (by omega) (fun i a A R=>by
   have:=aa i A
   rw [yQ,R,xV,qbo] at this
   show cmpL a key<0
   omega) fun a R=>by
   have av:=(zP.1 R).1
   have:=ab r (zM _) (by omega)
   rw [yQ,R,xV,qbo] at this
   show ¬ cmpL a key<0
   omega
  have E:=kk w' (h.fr.trans f')
  rw [hp] at E
  have e:decide (n.keys[r]?=some key)=decide (r<pk.length/\cmpL key (n.keys.getD r [])=0):=by
   refine decide_eq_decide.2 ⟨fun h=>?_,fun h=>?_⟩
   ·refine ⟨by have:=(zP.1 h).1; omega,?_⟩
    rw [yQ,h,xV,qeJ]
   ·have Q:=h.2
    rw [yQ,u r h.1,xV] at Q
    exact (u r h.1).trans (congrArg some (qeB Q).symm)
  rw [e] at E
  exact E
theorem qg4 {K:Int->WP} (hx:NodeR S w x n) (hk:RdB S' w ks key) (hB:IsB key) (hr:Rising n.keys) (hl:n.keys.length<=1000000) (kk:∀ w',Fr [] w w'->K (kidV n.keys key) w') :
  cW 83 [.agg (ndV x),ks.v] [.one .i] w K:=by
 obtain ⟨h0,U,⟨pk,G,A⟩,_⟩:=hx
 refine qob ?_
 unfold qmh
 refine Own.new' (Own.start [] w) fun r1 w1 e1 f1 h=>?_
 refine Own.new' h fun r3 w2 e2 f2 h=>?_
 refine Own.ld h 1 rfl x.2.1 rfl ?_
 have J:x.2.1.len=pk.length:=G.len
 have al:n.keys.length=pk.length:=by rw [<- A,zK]
 have C:∀ (i:Nat) (u:i<pk.length),n.keys[i]?=some pk[i].2:=fun i u=>by rw [<- A,zQ,zA u]; rfl
 rw [J]
 refine qry (p:=fun i=>decide (cmpL key (n.keys.getD i [])<0)) (by omega) (fun w3 i K' f3 u V=>?_) (fun i j an hj O=>?_) fun r w' ap aa ab f'=>?_
 ·refine qbm (lb:=[.pointer (pW r3),.pointer (pW r1)]) rfl (by kernel_rfl) ?_
  have I:=h.frame0 f3
  refine qlp ?_
  unfold qhk
  have I:=I.drew
  refine Own.ld I 0 rfl ks rfl ?_
  refine Own.ld I 1 rfl x.2.1 rfl ?_
  refine RdK.get (G.frame0 I.fr) i rfl u ?_
  refine qhB (hk.frame0 I.fr) ((G.frame0 I.fr).2 pk[i] (zW u)) hB (U.1 _ (yE (C i u))) ?_
  have e:n.keys.getD i []=pk[i].2:=by rw [yQ,C i u]; rfl
  have e2:decide (cmpL key (n.keys.getD i [])<0)=decide (cmpL key pk[i].2<0):=decide_eq_decide.2 (by rw [e])
  rw [<- e2]
  exact V w3.drew f3.drew
 ·by_cases hij':i=j
  ·rw [<- hij']; exact O
  ·have u:=C i (by omega)
   have Q:=C j hj
   have O:=zC O
   rw [yQ,u,xV] at O
   refine zZ ?_
   rw [yQ,Q,xV]
   exact qau O (qhD hr (by omega) u Q)
 ·have hp:kidV n.keys key=r:=qty (by omega) (fun i a u R=>by
   have:=zB (aa i u)
   rw [yQ,R,xV] at this
   exact this) fun a R=>by
   have au:=(zP.1 R).1
   have:=zC (ab r (zM _) (by omega))
   rw [yQ,R,xV] at this
   exact this
  have E:=kk w' (h.fr.trans f')
  rw [hp] at E
  exact E
end
end Go.Proofs.YtmmkegapckbomaaGreatDoor
end
section
namespace Go.Proofs.YtmmkegapckbomaaGreatDoor
open Go Go.Pt List
open Classical
attribute [local irreducible] ld ldA ldV fld fldA newZ st new idx idxS idxA slc slcS slcP mkS chk nn call callV inv run runQ runU join loop held ext rng undefer s2a nxt ent IntKind.wrap
theorem qii {p:Prop} {i:Decidable p} (h:p):true=decide p:=by simp [h]
theorem qbs {i:Nat} (h:i<=100000000):IntKind.wrap .i64 ((i:Int)+1)=((i+1:Nat):Int):=by rw [wi' _ (by omega)]; rfl
section
variable {S:List Nat} {w:World} {s:Sl}
theorem qm7 {v:Value} {ps:Kps} {p:Key->Bool} {K:Bool->WP} (R:RdK S w s ps) (hl:ps.length<=1000000)
  (hf:∀ A (x:Sl×Key) (U:Bool->WP),Fr [] w A->x∈ps->(∀ C,Fr [] w C->U (p x.2) C)->callV Tryz.prog v [x.1.v] [.one .bool] A U)
  (V:∀ w',Fr [] w w'->K ((keyP ps).any p) w') :
  cW 216 [s.v,v] [.one .bool] w K:=by
 refine qef ?_
 unfold qcr
 refine qgg ?_
 unfold qdf
 have aa:=R.len
 refine qak (fun i w'=>∃ n:Nat,i=(n:Int)/\n<=ps.length/\((keyP ps).take n).any p=false/\Fr [] w w') (fun i _=>((ps.length:Int)-i).toNat) ⟨0,rfl,yW _,rfl,.refl _ _⟩ ?_
 rintro _ A ⟨n,rfl,hn,E,u⟩ X hX
 refine qaa (fun J=>?_) (fun J=>?_)
 ·have h:n<ps.length:=by have:=zC J; omega
  refine RdK.get (R.frame0 u) n rfl h ?_
  refine hf A ps[n] _ u (zW h) fun C G=>?_
  have I:(keyP ps)[n]?=some ps[n].2:=by rw [zQ,zA h]; rfl
  refine qaa (fun O=>?_) (fun O=>?_)
  ·have:(keyP ps).any p=true:=any_eq_true.2 ⟨ps[n].2,yE I,O⟩
   show K (decide (((n:Nat):Int)>=0)) C
   rw [zZ (show ((n:Nat):Int)>=0 by omega)]
   rw [<- this]
   exact V C G
  ·rw [qbs (by omega)]
   refine hX _ _ ⟨n+1,rfl,h,?_,G⟩ (by omega)
   rw [take_add_one,I,any_append,E]
   simpa using O
 ·have Q:n=ps.length:=by have:=zB J; omega
  show K (decide ((-1:Int)>=0)) A
  rw [zU (show ¬ (-1:Int)>=0 by decide)]
  have:(keyP ps).any p=false:=by
   rw [<- E,Q,zS (by rw [zK]; exact zM _)]
  rw [<- this]
  exact V A u
theorem qnM {v:Value} {l:List Int} {p:Int->Bool} {K:Bool->WP} (U:Rd S w s l) (hl:l.length<=1000000)
  (hf:∀ E (x:Int) (V:Bool->WP),Fr [] w E->x∈l->(∀ G,Fr [] w G->V (p x) G)->callV Tryz.prog v [.u x] [.one .bool] E V)
  (kk:∀ w',Fr [] w w'->K (l.any p) w') :
  cW 186 [s.v,v] [.one .bool] w K:=by
 refine qee ?_
 unfold qco
 refine qge ?_
 unfold qdo
 have ab:=U.1
 refine qak (fun i w'=>∃ n:Nat,i=(n:Int)/\n<=l.length/\(l.take n).any p=false/\Fr [] w w') (fun i _=>((l.length:Int)-i).toNat) ⟨0,rfl,yW _,rfl,.refl _ _⟩ ?_
 rintro _ E ⟨n,rfl,hn,I,h⟩ X hX
 refine qaa (fun O=>?_) (fun O=>?_)
 ·have A:n<l.length:=by have:=zC O; omega
  have C:l[n]?=some l[n]:=zA A
  refine Rds.get (U.frame0 h) n rfl C (y:=l[n]) rfl ?_
  refine hf E l[n] _ h (zW A) fun G J=>?_
  refine qaa (fun Q=>?_) (fun Q=>?_)
  ·have:l.any p=true:=any_eq_true.2 ⟨l[n],yE C,Q⟩
   show K (decide (((n:Nat):Int)>=0)) G
   rw [zZ (show ((n:Nat):Int)>=0 by omega)]
   rw [<- this]
   exact kk G J
  ·rw [qbs (by omega)]
   refine hX _ _ ⟨n+1,rfl,A,?_,J⟩ (by omega)
   rw [take_add_one,C,any_append,I]
   simpa using Q
 ·have R:n=l.length:=by have:=zB O; omega
  show K (decide ((-1:Int)>=0)) E
  rw [zU (show ¬ (-1:Int)>=0 by decide)]
  have:l.any p=false:=by
   rw [<- I,R,zS (zM _)]
  rw [<- this]
  exact kk E h
theorem qnV {ps:Kps} {m:Nat} {K:Bool->WP} (J:RdK S w s ps) (O:ps.length<=1000000) (Q:∀ w',Fr [] w w'->K (decide (∀ a∈keyP ps,a.length=m)) w') :
  cW 184 [s.v,.i m] [.one .bool] w K:=by
 refine qmS ?_
 unfold qj2
 refine Own.new' (Own.start [] w) fun R w1 e1 G h=>?_
 have u:=J.frame0 G
 refine qm7 (p:=fun a=>decide (a.length≠m)) u O (fun U x K' I V A=>?_) fun w' f'=>?_
 ·refine qbm (lb:=[.pointer (pW R)]) rfl (by kernel_rfl) ?_
  refine qkc ?_
  unfold qgC
  refine Own.ld (h.frame0 I) 0 rfl (m:Int) rfl ?_
  have C:=(u.2 x V).1
  have e:(!((x.1.len:Int)==(m:Int)))=decide (x.2.length≠m):=by
   rw [C,Bool.eq_iff_iff]
   simp
   omega
  rw [e]
  exact A U I
 ·have e:(!((keyP ps).any fun a=>decide (a.length≠m)))=decide (∀ a∈keyP ps,a.length=m):=by
   rw [Bool.eq_iff_iff,yM,zT,any_eq_false]
   constructor
   ·intro h a E
    have:=h a E
    simpa using this
   ·intro h a E
    simp [h a E]
  rw [e]
  exact Q w' (G.trans f')
theorem qru {ps:Kps} {K:Bool->WP} (U:RdK S w s ps) (V:∀ a∈keyP ps,IsB a) (hl:ps.length<=1000000) (kk:∀ w',Fr [] w w'->K (decide (Rising (keyP ps))) w') :
  cW 185 [s.v] [.one .bool] w K:=by
 refine qmr ?_
 unfold qi3
 have ab:=U.len
 have A:∀ (i:Nat) (hi:i<ps.length),(keyP ps)[i]?=some ps[i].2:=fun i hi=>by rw [zQ,zA hi]; rfl
 refine qak (fun i w'=>∃ n:Nat,i=(n:Int)/\1<=n/\(∀ (j:Nat) a b,j+1<n->(keyP ps)[j]?=some a->(keyP ps)[j+1]?=some b->KLt a b)/\Fr [] w w') (fun i _=>((ps.length:Int)-i).toNat) ⟨1,rfl,zM _,fun j a b h=>by omega,.refl _ _⟩ ?_
 rintro _ w1 ⟨n,rfl,hn,I,C⟩ X hX
 refine qaa (fun R=>?_) (fun R=>?_)
 ·have E:n<ps.length:=by have:=zC R; omega
  have e1:IntKind.wrap .i64 ((n:Int)-1)=((n-1:Nat):Int):=by rw [wi' _ (by omega)]; omega
  have G:=U.frame0 C.drew
  rw [e1]
  refine RdK.get G (n-1) rfl (by omega) ?_
  refine RdK.get G n rfl E ?_
  refine qhB (G.2 ps[n-1] (zW _)) (G.2 ps[n] (zW _)) (V _ (yE (A (n-1) (by omega)))) (V _ (yE (A n E))) ?_
  refine qaa (fun J=>?_) (fun J=>?_)
  ·have J:=zC J
   have:¬ Rising (keyP ps):=fun hr=>by
    have:=qhD hr (show n-1<n by omega) (A (n-1) (by omega)) (A n E)
    unfold KLt at this
    omega
   have u:=kk _ C.drew
   rw [zU this] at u
   exact u
  ·have J:=zB J
   rw [qbs (by omega)]
   refine hX _ _ ⟨n+1,rfl,by omega,fun j a b hj Q O=>?_,C.drew⟩ (by omega)
   by_cases hjn:j+1<n
   ·exact I j a b hjn Q O
   ·obtain rfl:n=j+1:=by omega
    rw [A j (by omega)] at Q
    rw [A (j+1) E] at O
    cases Q
    cases O
    show cmpL _ _<0
    simp only [Nat.add_sub_cancel] at J
    omega
 ·have ag:¬ n<ps.length:=by have:=zB R; omega
  have:Rising (keyP ps):=qhA fun j a b Q O=>I j a b (by
   have:=(zP.1 O).1
   rw [zK] at this
   omega) Q O
  have u:=kk w1 C
  rw [zZ this] at u
  exact u
theorem qst {k v:Nat}:caps (k:Int) (v:Int)=(((capsV k v).1:Int),((capsV k v).2:Int)):=by
 unfold caps capsV
 by_cases h:k<1\/k>24\/v>108
 ·rw [if_pos h,if_pos (by omega)]; rfl
 ·rw [if_neg h,if_neg (by omega)]; rfl
theorem qjK {k v:Nat} {w:World} {K:Int×Int->WP} (h:∀ w',Fr [] w w'->K (((capsV k v).1:Int),((capsV k v).2:Int)) w'):cW 64 [.i k,.i v] [.one .i,.one .i] w K:=
 qtP fun w' u=>by rw [qst]; exact h w' (.of_same u)
theorem qm0 {x:NdC} {n:NodeM} {k v:Nat} {K:Bool->WP} (hx:NodeR S w x n) (h1:n.keys.length<=1000000) (h2:n.vals.length<=1000000) (h3:n.kids.length<=1000000) (kk:∀ w',Fr [] w w'->K (decide (rightV n k v)) w') :
  cW 147 [.agg (ndV x),.i k,.i v] [.one .bool] w K:=by
 obtain ⟨h0,aj,⟨pk,ab,A⟩,⟨pv,ad,O⟩,V⟩:=hx
 refine qmA ?_
 unfold qiC
 refine Own.new' (Own.start [] w) fun r1 w1 e1 f1 h=>?_
 refine qjK fun w2 f2=>?_
 have h:=h.frame0 f2
 have l1:pk.length=n.keys.length:=by rw [<- A,zK]
 have l2:pv.length=n.vals.length:=by rw [<- O,zK]
 have n1:x.2.1.len=n.keys.length:=by rw [ab.len,l1]
 have n2:x.2.2.1.len=n.vals.length:=by rw [ad.len,l2]
 have n3:x.2.2.2.len=n.kids.length:=V.1
 refine qag (fun b w'=>b=decide (¬ ((∀ a∈n.keys,a.length=k)/\(∀ a∈n.vals,a.length=v)/\Rising n.keys))/\Own [] w w' [(r1,.cells (ndV x) 143)]) ?_ ?_
 ·refine Own.ld h 0 rfl x.2.1 rfl ?_
  refine qnV (m:=k) (ab.frame0 h.fr) (by omega) fun w3 f3=>?_
  have h:=h.frame0 f3
  rw [A]
  refine qaa (fun E=>⟨?_,h⟩) (fun E=>?_)
  ·have:¬ ∀ a∈n.keys,a.length=k:=zB (by simpa using E)
   exact qii fun I=>this I.1
  have q1:∀ a∈n.keys,a.length=k:=zC (by simpa using E)
  refine Own.ld h 0 rfl x.2.2.1 rfl ?_
  refine qnV (m:=v) (ad.frame0 h.fr) (by omega) fun w4 f4=>?_
  have h:=h.frame0 f4
  rw [O]
  refine qaa (fun E=>⟨?_,h⟩) (fun E=>?_)
  ·have:¬ ∀ a∈n.vals,a.length=v:=zB (by simpa using E)
   exact qii fun I=>this I.2.1
  have q2:∀ a∈n.vals,a.length=v:=zC (by simpa using E)
  refine Own.ld h 0 rfl x.2.1 rfl ?_
  refine qru (ab.frame0 h.fr) (by rw [A]; exact aj.1) (by omega) fun w5 f5=>?_
  have h:=h.frame0 f5
  rw [A]
  refine ⟨?_,h⟩
  rw [Bool.eq_iff_iff,zT,decide_eq_false_iff_not,yM]
  exact ⟨fun I g=>I g.2.2,fun I g=>I ⟨q1,q2,g⟩⟩
 rintro b w3 ⟨rfl,h⟩
 have no:∀ {w'},¬ rightV n k v->Fr [] w w'->K false w':=fun hn f=>by
  have:=kk _ f
  rw [zU hn] at this
  exact this
 refine qaa (fun E=>no (fun C=>zC E ⟨C.1,C.2.1,C.2.2.1⟩) h.fr) (fun E=>?_)
 have hq:=Classical.not_not.1 (zB E)
 have u:rightV n k v↔(if n.leaf then n.kids=[]/\1<=n.keys.length/\n.keys.length<=(capsV k v).1/\n.vals.length=n.keys.length
   else (∀ x∈n.kids,2<=x)/\n.vals=[]/\2<=n.kids.length/\n.kids.length<=(capsV k v).2/\n.keys.length+1=n.kids.length):=⟨fun C=>C.2.2.2,fun I=>⟨hq.1,hq.2.1,hq.2.2,I⟩⟩
 refine Own.ld h 0 rfl x.1 rfl ?_
 refine qaa (fun E=>?_) (fun E=>?_)
 ·rw [h0] at E
  rw [if_pos E] at u
  have ac:∀ {Q:Sl->Prop},Q x.2.1->ld .slice ⟨r1,1,none⟩ w3 Q:=fun q=>Own.ld h 0 rfl x.2.1 rfl q
  refine Own.ld h 0 rfl x.2.2.2 rfl ?_
  refine qaa (fun J=>?_) (fun J=>no (fun C=>?_) h.fr)
  ·refine ac (qaa (fun R=>?_) (fun R=>no (fun C=>?_) h.fr))
   ·refine ac (qaa (fun G=>?_) (fun G=>no (fun C=>?_) h.fr))
    ·refine Own.ld h 0 rfl x.2.2.1 rfl (ac ?_)
     have J:=yO.1 J
     have R:=zC R
     have G:=zC G
     have e:((x.2.2.1.len:Int)==(x.2.1.len:Int))=decide (rightV n k v):=by
      rw [Bool.eq_iff_iff,yO,yM,u]
      dsimp only at G
      constructor
      ·intro I; exact ⟨eq_nil_of_length_eq_zero (by omega),by omega,by omega,by omega⟩
      ·intro I; omega
     rw [e]
     exact kk w3 h.fr
    ·have:=(u.1 C).2.2.1
     have G:=zB G
     dsimp only at G
     omega
   ·have:=(u.1 C).2.1
    have R:=zB R
    omega
  ·have:=(u.1 C).1
   have J:=zR.1 J
   rw [this] at n3
   exact J (by rw [n3]; rfl)
 ·rw [h0] at E
  rw [if_neg (by rw [E]; decide)] at u
  have U:∀ {w'} {Q:Sl->Prop},Own [] w w' [(r1,.cells (ndV x) 143)]->Q x.2.2.2->ld .slice ⟨r1,3,none⟩ w' Q:=fun h q=>Own.ld h 0 rfl x.2.2.2 rfl q
  refine U h ?_
  refine qnM (p:=fun y=>decide (y<2)) (V.frame0 h.fr) h3 (fun w4 y K' f4 hy an=>?_) fun w4 f4=>?_
  ·refine qbm (lb:=[]) rfl (by kernel_rfl) ?_
   refine qjQ ?_
   unfold qe5
   exact an w4 f4
  have h:=h.frame0 f4
  refine qaa (fun c0=>no (fun C=>?_) h.fr) (fun c0=>?_)
  ·obtain ⟨y,hy,ap⟩:=any_eq_true.1 c0
   have:=(u.1 C).1 y hy
   have:=zC ap
   omega
  have af:∀ y∈n.kids,2<=y:=fun y hy=>by
   have:=any_eq_false.1 c0 y hy
   simp at this
   exact this
  refine Own.ld h 0 rfl x.2.2.1 rfl ?_
  refine qaa (fun J=>?_) (fun J=>no (fun C=>?_) h.fr)
  ·refine U h (qaa (fun R=>?_) (fun R=>no (fun C=>?_) h.fr))
   ·refine U h (qaa (fun G=>?_) (fun G=>no (fun C=>?_) h.fr))
    ·refine Own.ld h 0 rfl x.2.1 rfl (U h ?_)
     have J:=yO.1 J
     have R:=zC R
     have G:=zC G
     dsimp only at G
     have ew:IntKind.wrap .i64 ((x.2.2.2.len:Int)-1)=(x.2.2.2.len:Int)-1:=wi' _ (by omega)
     have e:((x.2.1.len:Int)==IntKind.wrap .i64 ((x.2.2.2.len:Int)-1))=decide (rightV n k v):=by
      rw [ew,Bool.eq_iff_iff,yO,yM,u]
      constructor
      ·intro I; exact ⟨af,eq_nil_of_length_eq_zero (by omega),by omega,by omega,by omega⟩
      ·intro I; omega
     rw [e]
     exact kk _ h.fr
    ·have:=(u.1 C).2.2.2.1
     have G:=zB G
     dsimp only at G
     omega
   ·have:=(u.1 C).2.2.1
    have R:=zB R
    omega
  ·have:=(u.1 C).2.1
   have J:=zR.1 J
   rw [this] at n2
   exact J (by rw [n2]; rfl)
end
section
theorem qeb {S:List Nat} {w:World} {s src:Sl} {l ys:List Int} {B:List Nat} {K:Sl->WP} (h:BufB w s l B) (I:RdB S w src ys) (hl:l.length+ys.length<=1000000)
  (J:∀ C B' w',BufB w' C (l++ys) B'->Fr B w w'->(∀ b∈B',b∈B\/w.heap.size<=b)->K C w') :
  Pt.run [Ty1.one Cell.slice] ((Builtin.append_ #[23,23] 23 #[s.v,src.v]).run Tryz.prog w) K:=by
 obtain ⟨i,O,Q,E,G⟩:=qky
 have A:=I.1
 exact Buf.appSrc (e:=5) h qat (by kernel_rfl) O Q E rfl (qdN (e':=5) I qat (fun x u R=>by rw [zE.1 R]; rfl) (by kernel_rfl)) A (by rw [G]; omega) (by omega) fun C B' w' U V n' _=>J C B' w' U V n'
theorem qur (n:Int):be n 2=[IntKind.wrap .u8 (Int.fdiv n (2^8)),IntKind.wrap .u8 n]:=by
 show [byteAt n 1,byteAt n 0]=_
 unfold byteAt
 rw [show (min (8*1) 32:Nat)=8 from rfl,show (min (8*0) 32:Nat)=0 from rfl,Int.pow_zero,Int.fdiv_one]
theorem quN (n:Int):be n 4=[IntKind.wrap .u8 (Int.fdiv n (2^24)),IntKind.wrap .u8 (Int.fdiv n (2^16)),IntKind.wrap .u8 (Int.fdiv n (2^8)),IntKind.wrap .u8 n]:=by
 show [byteAt n 3,byteAt n 2,byteAt n 1,byteAt n 0]=_
 unfold byteAt
 rw [show (min (8*3) 32:Nat)=24 from rfl,show (min (8*2) 32:Nat)=16 from rfl,show (min (8*1) 32:Nat)=8 from rfl,show (min (8*0) 32:Nat)=0 from rfl,Int.pow_zero,Int.fdiv_one]
theorem RdK.get' {S:List Nat} {w:World} {s:Sl} {ps:Kps} (h:RdK S w s ps) (n:Nat) {i:Int} {K:Addr->Sl->Prop} (hi:i=n) (I:n<ps.length) (J:∀ a,w.cell? a=some (.slice ps[n].1.a ps[n].1.len ps[n].1.cap)->(∀ w',RdK S w' s ps->w'.cell? a=some (.slice ps[n].1.a ps[n].1.len ps[n].1.cap))->K a ps[n].1):idx s i 1 fun a=>ld .slice a w fun x=>K a x:=by
 subst hi
 have E:(slsP ps)[n]?=some ps[n].1:=by rw [zQ,zA I]; rfl
 obtain ⟨U,b,o,G,_,V,T,fr,hb,hc⟩:=h.1.at n E
 refine qa0 G ⟨by omega,by omega⟩ ?_
 rw [zJ]
 have key:∀ w',RdK S w' s ps->w'.cell? ⟨b,o+n*1,none⟩=some (.slice ps[n].1.a ps[n].1.len ps[n].1.cap):=fun w' O=>by
  obtain ⟨_,b',o',u,_,Q,T',R,A,C⟩:=O.1.at n E
  rw [G] at u
  cases u
  rw [qaf A]
  have:=congrArg (·[0]?) C
  simpa [encSl] using this
 exact qaE ps[n].1 (key w h) (J _ (key w h) key)
theorem qmY {w:World} {b n:Nat} {T:TypeId} {l:List Int} (u:w.heap[b]?=some (.cells (l.map (Value.int .u8)).toArray T (0,0))) (h:n=l.length):BufB w ⟨pW b,n,n⟩ l [b]:=
 Buf.one (e:=Value.int .u8) (fun _=>rfl) u h (zM _) (by simp [h]) (by rw [<- zK (f:=Value.int .u8),xZ])
theorem qtl {w:World} {b:Nat} {T:TypeId} {n:Int} (u:w.heap[b]?=some (.cells #[.b (IntKind.wrap .u8 (Int.fdiv n (2^24))),.b (IntKind.wrap .u8 (Int.fdiv n (2^16))),.b (IntKind.wrap .u8 (Int.fdiv n (2^8))),.b (IntKind.wrap .u8 n)] T (0,0))):RdB [] w ⟨pW b,4,4⟩ (be n 4):=by
 rw [quN]
 exact Buf.rds qat (qmY (n:=4) u rfl) fun _ _ h=>nomatch h
section
variable {S:List Nat} {w:World} {s:Sl}
theorem qti {n:Nat} {K:Sl->WP} (hn:n<=1000000) (O:∀ u B w',BufB w' u [] B->Fr [] w w'->(∀ b∈B,w.heap.size<=b)->K u w') :
  cW 210 [.slice none 0 0,.i n] [.one .slice] w K:=by
 obtain ⟨C,Q,R,E,G⟩:=qky
 refine qll (s:=⟨none,0,0⟩) (n:=n) ?_
 unfold qhs
 have e0:IntKind.wrap .i64 (((0:Nat):Int)-((0:Nat):Int))=0:=wi' _ (by decide)
 have e1:IntKind.wrap .i64 ((n:Int)-0)=(n:Int):=by rw [wi' _ (by omega)]; omega
 refine qag (fun _ w'=>w=w') (cond_false (zU (by omega)) rfl) ?_
 rintro _ _ rfl
 refine qag (fun u w'=>∃ B,BufB w' u [] B/\Fr [] w w'/\∀ b∈B,w.heap.size<=b) ?_ (fun u w' ⟨B,U,V,n1⟩=>O u B w' U V n1)
 dsimp only
 rw [e0,e1]
 refine qaa (fun J=>?_) (fun J=>⟨[],.nil _ _ _,.refl _ _,fun _ h=>nomatch h⟩)
 have A:0<n:=by have:=zC J; omega
 refine qe3 ⟨by omega,by dsimp only; omega⟩ ?_
 rw [zJ]
 dsimp only
 refine qjN (e:=5) (i:=C) (kn:=.i64) (olds:=[]) (by kernel_rfl) (by kernel_rfl) Q R E rfl rfl (fun _=>rfl) (fun a ha=>nomatch ha) A (by omega) (by rw [G]; omega) (by omega) fun b cs c w2 e2 hb f2 h1 h2 h3=>?_
 refine qe3 ⟨by omega,by dsimp only; omega⟩ ?_
 rw [zJ]
 exact ⟨[b],Buf.fresh (cap:=c) qat hb rfl (yW _) (by omega) rfl,f2,fun b' I=>by rw [zE.1 I,e2]; exact zM _⟩
theorem qhl {ps:Kps} {i:Nat} (hi:i<ps.length):((keyP ps).take (i+1)).flatten=((keyP ps).take i).flatten++ps[i].2:=by
 rw [take_add_one,zQ,zA hi,flatten_append]
 simp
theorem qfP {ps:Kps} (i:Nat):((keyP ps).take i).flatten.length<=(keyP ps).flatten.length:=by
 have:(keyP ps).flatten=((keyP ps).take i).flatten++((keyP ps).drop i).flatten:=by rw [<- flatten_append,xD]
 rw [this,zF]
 omega
theorem qqR {ps:Kps} {K:Sl->WP} (O:RdK S w s ps) (hl:ps.length<=1000000) (ht:(keyP ps).flatten.length<=1000000)
  (kk:∀ s' B w',BufB w' s' (keyP ps).flatten B->Fr [] w w'->(∀ b∈B,w.heap.size<=b)->K s' w') :
  cW 170 [s.v] [.one .slice] w K:=by
 refine qjq ?_
 unfold qfa
 have ae:=O.len
 refine qak (fun t w'=>∃ i:Nat,t=((((keyP ps).take i).flatten.length:Int),(i:Int))/\i<=ps.length/\w'=w) (fun t _=>((ps.length:Int)-t.2).toNat) ⟨0,rfl,yW _,rfl⟩ ?_
 rintro t w' ⟨i,rfl,hi,rfl⟩ X V
 dsimp only
 refine qaa (fun C=>?_) (fun C=>?_)
 ·have u:i<ps.length:=by have:=zC C; omega
  have E:=qfP (ps:=ps) (i+1)
  have A:=qhl u
  have aa:=(O.2 ps[i] (zW u)).1
  have e:IntKind.wrap .i64 ((((keyP ps).take i).flatten.length:Int)+(ps[i].1.len:Int))=(((keyP ps).take (i+1)).flatten.length:Int):=by
   rw [A,zF] at E ⊢
   rw [wi' _ (by omega),aa]; rfl
  refine qag (fun x G=>x=(((keyP ps).take (i+1)).flatten.length:Int)/\G=w') ?_ ?_
  ·refine RdK.get O i rfl u ?_
   rw [e]
   exact cond_false (zU (by omega)) ⟨rfl,rfl⟩
  ·rintro x G ⟨rfl,rfl⟩
   rw [qbs (by omega)]
   exact V _ _ ⟨i+1,rfl,u,rfl⟩ (by dsimp only; omega)
 ·have I:i=ps.length:=by have:=zB C; omega
  refine qti (zL (qfP (ps:=ps) i) ht) fun s1 B1 w1 b1 f1 n1=>?_
  refine qak (fun t G=>∃ (j:Nat) (Q:Sl) (R:List Nat),t=(Q,(j:Int))/\j<=ps.length/\BufB G Q ((keyP ps).take j).flatten R/\Fr [] w' G/\∀ b∈R,w'.heap.size<=b) (fun t _=>((ps.length:Int)-t.2).toNat) ⟨0,s1,B1,rfl,yW _,b1,f1,n1⟩ ?_
  rintro t G ⟨j,Q,R,rfl,hj,b2,U,n2⟩ X V
  dsimp only
  refine qaa (fun C=>?_) (fun C=>?_)
  ·have u:j<ps.length:=by have:=zC C; omega
   have E:=qfP (ps:=ps) (j+1)
   have A:=qhl u
   have J:=O.frame0 U
   refine RdK.get J j rfl u ?_
   refine qeb b2 (J.2 ps[j] (zW u)) (by rw [A,zF] at E; omega) fun s3 B3 w3 b3 f3 n3=>?_
   rw [qbs (by omega)]
   refine V _ _ ⟨j+1,s3,B3,rfl,u,by rw [A]; exact b3,U.trans' f3 fun i hi=>.inr (n2 i hi),fun b hb=>?_⟩ (by dsimp only; omega)
   rcases n3 b hb with h | h
   ·exact n2 b h
   ·exact zL U.size h
  ·have I:j=ps.length:=by have:=zB C; omega
   rw [I,zS (by rw [zK]; exact zM _)] at b2
   exact kk Q R G b2 U n2
theorem qsj {x:NdC} {n:NodeM} {k v:Nat} {K:Int×Sl×Int->WP} (hx:NodeR S w x n) (h1:n.keys.length<=1000000) (h2:n.vals.length<=1000000) (h3:n.kids.length<=1000000)
  (kk:∀ s w',(∀ G:List Nat,(∀ b∈G,b<w.heap.size)->RdB G w' s (writeNV n k v).2.1)->Fr [] w w'->K ((writeNV n k v).1,s,(writeNV n k v).2.2) w') :
  cW 135 [.agg (ndV x),.i k,.i v] [.one .b,.one .slice,.one .i] w K:=by
 have aU:=hx
 obtain ⟨h0,bc,⟨pk,an,C⟩,⟨pv,ao,R⟩,ak⟩:=hx
 refine qmu ?_
 unfold qjd
 refine Own.new' (Own.start [] w) fun J w1 e1 f1 h=>?_
 refine Own.ldA h 0 rfl x rfl ?_
 refine qm0 (x:=x) (aU.frame0 f1) h1 h2 h3 fun w2 f2=>?_
 have h:=h.frame0 f2
 refine qaa (fun A=>?_) (fun A=>?_)
 ·have hn:¬ rightV n k v:=zB (by simpa using A)
  have:=kk ⟨none,0,0⟩ w2 (fun G _=>by unfold writeNV; rw [if_neg hn]; exact .nil _ _ _ _) h.fr
  unfold writeNV at this
  rw [if_neg hn] at this
  exact this
 have hR:rightV n k v:=zC (by simpa using A)
 have hW:writeNV n k v=(kindN n,bodyN n,0):=by unfold writeNV; rw [if_pos hR]
 rw [hW] at kk
 have aD:=(qem hR).2
 have l1:pk.length=n.keys.length:=by rw [<- C,zK]
 have l2:pv.length=n.vals.length:=by rw [<- R,zK]
 have n1:x.2.1.len=n.keys.length:=by rw [an.len,l1]
 have n3:x.2.2.2.len=n.kids.length:=ak.1
 have aE:∀ {s' B w'},BufB w' s' (bodyN n) B->(∀ b∈B,w.heap.size<=b)->Fr [] w w'->K (kindN n,s',0) w':=fun b hB f=>kk _ _ (fun G hG=>b.rds qat fun c A hm=>by have:=hB c A; have:=hG c hm; omega) f
 refine Own.ld h 0 rfl x.1 rfl ?_
 refine qaa (fun A=>?_) (fun A=>?_)
 ·rw [h0] at A
  have u:bodyN n=be n.keys.length 2++(n.keys.zip n.vals).flatMap (fun x=>x.1++x.2):=by unfold bodyN; rw [if_pos A]; rfl
  have I:kindN n=3:=by unfold kindN; rw [if_pos A]
  have aF:=hR.2.2.2
  rw [if_pos A] at aF
  have aG:(n.keys.zip n.vals).length=n.keys.length:=by rw [length_zip,aF.2.2.2,Nat.min_self]
  refine Own.ld h 0 rfl x.2.1 rfl ?_
  refine Own.ld h 0 rfl x.2.1 rfl ?_
  refine Own.new' h fun r9 w3 e3 f3 h=>?_
  refine Own.ld h 1 rfl x.2.1 rfl ?_
  have h9:=h.at (i:=0) rfl
  have aq:=h.sub (L':=[(J,.cells (ndV x) 143)]) (sublist_cons_self _ _)
  have ar:J≠r9:=fun e=>by have:=h.nodup; simp [e] at this
  have U:w.heap.size<=r9:=(h.own (r9,_) (mem_cons_self ..)).elim (fun h=>nomatch h) id
  refine qak (fun t w'=>∃ (i:Nat) (s2:Sl) (B2:List Nat),t=(s2,(i:Int))/\i<=n.keys.length/\BufB w' s2 (be n.keys.length 2++((n.keys.zip n.vals).take i).flatMap (fun x=>x.1++x.2)) B2/\Own [] w w' [(J,.cells (ndV x) 143)]/\J∉B2/\∀ b∈B2,w.heap.size<=b) (fun t _=>((n.keys.length:Int)-t.2).toNat)
   ⟨0,_,[r9],rfl,yW _,?_,aq,by simpa using ar,fun b V=>by rw [zE.1 V]; exact U⟩ ?_
  ·rw [qur,take_zero,flatMap_nil,xG]
   refine qmY (T:=5) ?_ rfl
   rw [n1] at h9
   exact h9
  rintro t w4 ⟨i,s2,B2,rfl,hi,b2,ho,ab,E⟩ X hX
  dsimp only
  refine qaa (fun A=>?_) (fun A=>?_)
  ·have ah:i<n.keys.length:=by have:=zC A; omega
   have bq:i<n.vals.length:=by omega
   have aI:=an.frame0 ho.fr
   refine RdK.get aI i rfl (by omega) ?_
   have ac:=ho.drew
   refine Own.ld ac 0 rfl x.2.2.1 rfl ?_
   have aX:=ao.frame0 ac.fr
   have ad:i<pv.length:=by omega
   have al:i<pk.length:=by omega
   refine RdK.get' aX i rfl ad fun a ha hh=>?_
   have ai:n.keys[i]?=some pk[i].2:=by rw [<- C,zQ,zA al]; rfl
   have aY:n.vals[i]?=some pv[i].2:=by rw [<- R,zQ,zA ad]; rfl
   have hz:(n.keys.zip n.vals)[i]?=some (pk[i].2,pv[i].2):=List.getElem?_zip_eq_some.2 ⟨ai,aY⟩
   have O:((n.keys.zip n.vals).take (i+1)).flatMap (fun x=>x.1++x.2)=((n.keys.zip n.vals).take i).flatMap (fun x=>x.1++x.2)++(pk[i].2++pv[i].2):=by
    rw [take_add_one,hz,yP]; simp
   have aj:(be n.keys.length 2++((n.keys.zip n.vals).take (i+1)).flatMap (fun x=>x.1++x.2)).length<=500:=by
    refine zL ?_ aD
    rw [u,zF,zF]
    have e:(n.keys.zip n.vals).flatMap (fun x=>x.1++x.2)=((n.keys.zip n.vals).take (i+1)).flatMap (fun x=>x.1++x.2)++((n.keys.zip n.vals).drop (i+1)).flatMap (fun x=>x.1++x.2):=by rw [<- yP,xD]
    rw [e,zF]
    omega
   rw [O,zF,zF,zF] at aj
   have bt:=ho.drew
   refine qeb (w:=w4.drew) (b2.frame0 (Fr.refl [] w4).drew) ((aI.2 pk[i] (zW al)).frame0 (Fr.refl [] w4).drew) (by rw [zF]; omega) fun s3 B3 w5 b3 f5 n5=>?_
   have Q:=ac.frame f5 (fun i hi=>.inr (E i hi)) (fun p hp=>by rw [zE.1 hp]; exact ab)
   have aK:∀ b∈B3,w.heap.size<=b:=fun b V=>by
    rcases n5 b V with h | h
    ·exact E b h
    ·exact zL ac.fr.size h
   refine qar (hh w5 (ao.frame0 Q.fr)) (Q.cell 0 rfl rfl) ?_
   have aL:J∉B3:=fun hm=>by
    rcases n5 J hm with h | h
    ·exact ab h
    ·have:=qab (ac.at (i:=0) rfl); dsimp only at this; omega
   refine qeb b3 ((ao.frame0 Q.fr).2 pv[i] (zW ad)) (by rw [zF,zF]; omega) fun s6 B6 w6 b6 f6 n6=>?_
   have ay:=Q.frame f6 (fun i hi=>.inr (aK i hi)) (fun p hp=>by rw [zE.1 hp]; exact aL)
   rw [qbs (by omega)]
   refine hX _ _ ⟨i+1,s6,B6,rfl,ah,by rw [O,<- zV,<- zV]; exact b6,ay,fun hm=>?_,fun b V=>?_⟩ (by dsimp only; omega)
   ·rcases n6 J hm with h | h
    ·exact aL h
    ·have:=qab (Q.at (i:=0) rfl); dsimp only at this; omega
   ·rcases n6 b V with h | h
    ·exact aK b h
    ·exact zL Q.fr.size h
  ·have az:i=n.keys.length:=by have:=zB A; omega
   rw [az,<- aG,xZ,aG,<- u] at b2
   have:=aE b2 E ho.fr
   rw [I] at this
   exact this
 ·rw [h0] at A
  have aN:¬ n.leaf=true:=by rw [A]; decide
  have u:bodyN n=be n.kids.length 2++n.kids.flatMap (fun x=>be x 4)++n.keys.flatten:=by unfold bodyN; rw [if_neg aN]
  have I:kindN n=4:=by unfold kindN; rw [if_neg aN]
  refine Own.ld h 0 rfl x.2.2.2 rfl ?_
  refine Own.ld h 0 rfl x.2.2.2 rfl ?_
  refine Own.new' h fun r9 w3 e3 f3 h=>?_
  refine Own.ld h 1 rfl x.2.2.2 rfl ?_
  have h9:=h.at (i:=0) rfl
  have aq:=h.sub (L':=[(J,.cells (ndV x) 143)]) (sublist_cons_self _ _)
  have ar:J≠r9:=fun e=>by have:=h.nodup; simp [e] at this
  have U:w.heap.size<=r9:=(h.own (r9,_) (mem_cons_self ..)).elim (fun h=>nomatch h) id
  have a0:(be n.kids.length 2++n.kids.flatMap (fun x=>be x 4)).length+n.keys.flatten.length<=500:=by rw [<- zF,<- u]; exact aD
  refine qak (fun t w'=>∃ (i:Nat) (s2:Sl) (B2:List Nat),t=(s2,(i:Int))/\i<=n.kids.length/\BufB w' s2 (be n.kids.length 2++(n.kids.take i).flatMap (fun x=>be x 4)) B2/\Own [] w w' [(J,.cells (ndV x) 143)]/\J∉B2/\∀ b∈B2,w.heap.size<=b) (fun t _=>((n.kids.length:Int)-t.2).toNat)
   ⟨0,_,[r9],rfl,yW _,?_,aq,by simpa using ar,fun b V=>by rw [zE.1 V]; exact U⟩ ?_
  ·rw [qur,take_zero,flatMap_nil,xG]
   refine qmY (T:=5) ?_ rfl
   rw [n3] at h9
   exact h9
  rintro t w4 ⟨i,s2,B2,rfl,hi,b2,ho,ab,E⟩ X hX
  dsimp only
  refine qaa (fun A=>?_) (fun A=>?_)
  ·have ah:i<n.kids.length:=by have:=zC A; omega
   have ai:n.kids[i]?=some n.kids[i]:=zA ah
   refine Rds.get (ak.frame0 ho.fr) i rfl ai (y:=n.kids[i]) rfl ?_
   refine Own.new' ho fun r6 w5 e5 f5 h5=>?_
   have a1:=h5.at (i:=0) rfl
   have O:(n.kids.take (i+1)).flatMap (fun x=>be x 4)=(n.kids.take i).flatMap (fun x=>be x 4)++be n.kids[i] 4:=by
    rw [take_add_one,ai,yP]; simp
   have aj:(be n.kids.length 2++(n.kids.take (i+1)).flatMap (fun x=>be x 4)).length<=500:=by
    have e:n.kids.flatMap (fun x=>be x 4)=(n.kids.take (i+1)).flatMap (fun x=>be x 4)++(n.kids.drop (i+1)).flatMap (fun x=>be x 4):=by rw [<- yP,xD]
    rw [e,zF,zF] at a0
    rw [zF]
    omega
   rw [O,zF,zF] at aj
   have am:RdB [] w5 ⟨pW r6,4,4⟩ (be n.kids[i] 4):=qtl (T:=5) a1
   have aA:=qaq n.kids[i] 4
   generalize be n.kids[i] 4=aO at O aj am aA
   refine qeb (src:=⟨pW r6,4,4⟩) (ys:=aO) (b2.frame0 f5) am (by rw [zF]; omega) fun s6 B6 w6 b6 f6 n6=>?_
   have aB:=h5.sub (L':=[(J,.cells (ndV x) 143)]) (sublist_cons_self _ _)
   have ay:=aB.frame f6 (fun i hi=>.inr (E i hi)) (fun p hp=>by rw [zE.1 hp]; exact ab)
   rw [qbs (by omega)]
   refine hX _ _ ⟨i+1,s6,B6,rfl,ah,by rw [O,<- zV]; exact b6,ay,fun hm=>?_,fun b V=>?_⟩ (by dsimp only; omega)
   ·rcases n6 J hm with h | h
    ·exact ab h
    ·have:=qab (aB.at (i:=0) rfl); dsimp only at this; omega
   ·rcases n6 b V with h | h
    ·exact E b h
    ·exact zL aB.fr.size h
  ·have az:i=n.kids.length:=by have:=zB A; omega
   rw [az,xZ] at b2
   refine Own.ld ho 0 rfl x.2.1 rfl ?_
   refine qqR (an.frame0 ho.fr) (by omega) (by rw [C]; omega) fun s5 B5 w5 b5 f5 n5=>?_
   rw [C] at b5
   refine qeb (b2.frame0 f5) (b5.rds qat (S:=[]) (fun _ _ h=>nomatch h)) (by omega) fun s6 B6 w6 b6 f6 n6=>?_
   rw [<- u] at b6
   have:=aE b6 (fun b V=>by
    rcases n6 b V with h | h
    ·exact E b h
    ·exact zL (zL ho.fr.size f5.size) h) ((ho.fr.trans f5).trans' f6 fun i hi=>.inr (E i hi))
   rw [I] at this
   exact this
end
end
abbrev ND:TypeId:=143
theorem qek {k v:Nat}:∀ (c:Nat) (b:List Int),(leafR k v c b).1.length=c/\(leafR k v c b).2.length=c
 | 0,_=>⟨rfl,rfl⟩
 | c+1,b=>by
  have:=qek (k:=k) (v:=v) c (b.drop (k+v))
  exact ⟨by rw [leafR,yH,this.1],by rw [leafR,yH,this.2]⟩
theorem qka {k v:Nat}:∀ (c:Nat) (b:List Int),leafR k v (c+1) b=((leafR k v c b).1++[(b.drop (c*(k+v))).take k],(leafR k v c b).2++[((b.drop (c*(k+v))).drop k).take v])
 | 0,b=>by simp [leafR]
 | c+1,b=>by
  have ih:=qka (k:=k) (v:=v) c (b.drop (k+v))
  have e:(k+v)+c*(k+v)=(c+1)*(k+v):=by rw [xU]; omega
  rw [leafR,ih]
  simp only [xC,e]
  rfl
theorem qkt:∀ (c:Nat) (b:List Int),kidsR (c+1) b=kidsR c b++[getV ((b.drop (c*4)).take 4)]
 | 0,b=>by simp [kidsR]
 | c+1,b=>by
  have ih:=qkt c (b.drop 4)
  have e:4+c*4=(c+1)*4:=by omega
  rw [kidsR,ih,xC,e]
  rfl
theorem qjR {k:Nat}:∀ (c:Nat) (b:List Int),keysR k (c+1) b=keysR k c b++[(b.drop (c*k)).take k]
 | 0,b=>by simp [keysR]
 | c+1,b=>by
  have ih:=qjR (k:=k) c (b.drop k)
  have e:k+c*k=(c+1)*k:=by rw [xU]; omega
  rw [keysR,ih,xC,e]
  rfl
theorem qhU:∀ (c:Nat) (b:List Int),(kidsR c b).length=c
 | 0,_=>rfl
 | c+1,b=>by rw [kidsR,yH,qhU c]
theorem qhC {k:Nat}:∀ (c:Nat) (b:List Int),(keysR k c b).length=c
 | 0,_=>rfl
 | c+1,b=>by rw [keysR,yH,qhC c]
theorem appK {w:World} {s x:Sl} {l:List Sl} {B:List Nat} {vb:Nat} {T':TypeId} {K:Sl->WP} (h:Buf encSl 1 w s l B) (hl:l.length<=100000) (O:w.heap[vb]?=some (.cells #[elSl x] T' (0,0)))
  (Q:∀ A B' w',Buf encSl 1 w' A (l++[x]) B'->Fr B w w'->(∀ b∈B',b∈B\/w.heap.size<=b)->K A w') :
  Pt.run [Ty1.one Cell.slice] ((Builtin.append_ #[22,22] 22 #[s.v,.slice (pW vb) 1 1]).run Tryz.prog w) K:=by
 obtain ⟨R,C,U,E,G⟩:=qkh
 refine Buf.appSrc (ys:=[x]) (e:=23) h qcl (by kernel_rfl) C U E rfl (.ofSlice w (e':=23) (by kernel_rfl) _ 1 1 _ rfl (fun j u I=>?_) fun u J=>?_) rfl (by rw [G]; omega) (by omega) fun A B' w' V f' n' _=>Q A B' w' V f' n'
 ·rw [Addr.add_mk,qaf O,xR]
  rw [yG,flatMap_nil,xG] at I
  simpa [encSl] using I
 ·rw [yG,flatMap_nil,xG] at J
  rw [zE.1 J]; rfl
theorem qpd {w:World} {s:Sl} {x:Int} {l:List Int} {B:List Nat} {vb:Nat} {T':TypeId} {K:Sl->WP} (h:Buf encU 1 w s l B) (hl:l.length<=100000) (O:w.heap[vb]?=some (.cells #[.u x] T' (0,0)))
  (Q:∀ A B' w',Buf encU 1 w' A (l++[x]) B'->Fr B w w'->(∀ b∈B',b∈B\/w.heap.size<=b)->K A w') :
  Pt.run [Ty1.one Cell.slice] ((Builtin.append_ #[92,92] 92 #[s.v,.slice (pW vb) 1 1]).run Tryz.prog w) K:=by
 obtain ⟨R,C,U,E,G⟩:=qdY
 refine Buf.appSrc (ys:=[x]) (e:=37) h qaZ (by kernel_rfl) C U E rfl (.ofSlice w (e':=37) (by kernel_rfl) _ 1 1 _ rfl (fun j u I=>?_) fun u J=>?_) rfl (by rw [G]; omega) (by omega) fun A B' w' V f' n' _=>Q A B' w' V f' n'
 ·rw [Addr.add_mk,qaf O,xR]
  rw [yG,flatMap_nil,xG] at I
  simpa [encU] using I
 ·rw [yG,flatMap_nil,xG] at J
  rw [zE.1 J]; rfl
abbrev takerV (h:Nat):Value:=.func (.func 215) #[] #[.pointer (pW h)]
theorem qnE {w0 w:World} {L:List (Nat×Obj)} {u i m:Nat} {s:Sl} {b:List Int} {T:TypeId} {K:Sl->WP} (h:Own [] w0 w L) (hi:L[i]?=some (u,.cells #[elSl s] T (0,0))) (C:RdB [] w0 s b) (A:m<=b.length) (hl:b.length<=1000000)
  (kk:∀ I B' J w',Own [] w0 w' (L.set i (u,.cells #[elSl J] T (0,0)))->BufB w' I (b.take m) B'->(∀ c∈B',w.heap.size<=c)->RdB [] w0 J (b.drop m)->Fr [u] w w'->K I w') :
  callV Tryz.prog (takerV u) [.i m] [.one .slice] w K:=by
 refine qbm (lb:=[.pointer (pW u)]) rfl (by kernel_rfl) ?_
 refine qjO ?_
 unfold qfu
 refine Own.ld h i hi s rfl ?_
 refine Rds.part (S:=[]) C (lo:=none) (hi:=some (m:Int)) 0 m rfl rfl (yW _) A fun s1 _ O _=>?_
 rw [xE] at O
 refine qaX (O.frame0 h.fr) (by rw [yK]; omega) fun s2 B2 w2 b2 Q R _ _=>?_
 have U:=h.frame0 Q
 refine Own.ld U i hi s rfl ?_
 refine Rds.part (S:=[]) C (lo:=some (m:Int)) (hi:=none) m b.length rfl (by rw [xW,C.1]) A (zM _) fun V _ h3 _=>?_
 rw [xZ] at h3
 have E:=qab (h.at hi)
 refine Own.st' U i hi #[elSl V] rfl rfl (zM _) fun w3 G f3=>kk s2 B2 V w3 G (b2.frame f3 fun c hc A=>?_) R h3 ((Q.mono fun _ h _=>nomatch h).trans f3)
 have:=R c hc
 rw [zE.1 A] at this
 dsimp only at E
 omega
def getO (x:NdC) (o:Nat):Sl:=if o=1 then x.2.1 else x.2.2.1
def setO (x:NdC) (o:Nat) (s:Sl):NdC:=if o=1 then (x.1,s,x.2.2) else (x.1,x.2.1,s,x.2.2.2)
theorem qlo {x:NdC} {o:Nat} (h:o=1\/o=2):(ndV x)[o]?=some (elSl (getO x o)):=by rcases h with rfl | rfl <;> rfl
theorem qtE {x:NdC} {o:Nat} {s:Sl} (h:o=1\/o=2):splice (ndV x) o [elSl s]=ndV (setO x o s):=by rcases h with rfl | rfl <;> rfl
theorem qpT {w0 w:World} {L:List (Nat×Obj)} {C E m o:Nat} {x:NdC} {s':Sl} {b:List Int} {l:List Sl} {Bk:List Nat} {T:TypeId} {K:WP} (ho:o=1\/o=2)
  (h:Own [] w0 w ((C,.cells (ndV x) ND (0,0))::(E,.cells #[elSl s'] T (0,0))::L)) (hr:RdB [] w0 s' b) (A:m<=b.length) (aF:b.length<=1000000)
  (ab:Buf encSl 1 w (getO x o) l Bk) (U:∀ c∈Bk,w0.heap.size<=c/\c∉C::E::L.map (·.1)) (hl:l.length<=100000)
  (kk:∀ sn sN J Bk' w',Own [] w0 w' ((C,.cells (ndV (setO x o J)) ND (0,0))::(E,.cells #[elSl sN] T (0,0))::L)->RdB [] w0 sN (b.drop m)->Buf encSl 1 w' J (l++[sn]) Bk'->
   (∀ c∈Bk',c∈Bk\/w.heap.size<=c)->(∀ c∈Bk',c∉C::E::L.map (·.1))->Fr (C::E::Bk) w w'->(∀ G:List Nat,(∀ c∈G,c<w.heap.size\/c∈Bk')->RdB G w' sn (b.take m))->K w') :
  (ld Cell.slice ⟨C,o,none⟩ w.drew<|
    fun (u:Sl)=>
    callV Tryz.prog (takerV E) ([Value.int IntKind.i64 m]) ([Ty1.one Cell.slice]) w.drew<|
    fun (O:Sl) (ac:World)=>
    held [fun (ap:Go.World)=>World.cell? ap ⟨C,o,none⟩=some (Value.slice u.a u.len u.cap)] ac<|
    new (Obj.cells #[Value.slice O.a O.len O.cap] 23) ac<|
    fun (aq:Nat) (ad:World)=>
    held [fun (ar:Go.World)=>World.cell? ar ⟨C,o,none⟩=some (Value.slice u.a u.len u.cap)] ad<|
    run [Ty1.one Cell.slice] ((Builtin.append_ (#[22,22]) 22 (#[Value.slice u.a u.len u.cap,Value.slice (pW aq) 1 1])).run Tryz.prog ad)<|
    fun (Q:Sl) (au:World)=>
    st ⟨C,o,none⟩ ([Value.slice Q.a Q.len Q.cap]) au K):=by
 have hd:=h.drew
 refine Own.ld hd 0 rfl (getO x o) (qlo ho) ?_
 refine qnE hd (i:=1) rfl hr A aF fun aG aH sN ag V aI aJ hN ah=>?_
 have V:Own [] w0 ag ((C,.cells (ndV x) ND (0,0))::(E,.cells #[elSl sN] T (0,0))::L):=V
 refine qah (V.cell 0 rfl (qlo ho)) ?_
 refine Own.new' V fun aV aW aX ai aj=>?_
 refine qah (aj.cell 1 rfl (qlo ho)) ?_
 have ak:Buf encSl 1 w.drew (getO x o) l Bk:=ab
 have av:=ak.frame ah fun c I A=>(U c I).2 (by rw [zE.1 A]; simp)
 have aw:=av.frame0 ai
 refine appK aw hl (aj.at (i:=0) rfl) fun J Bk' aY aK al ax=>?_
 have ay:=aj.sub (L':=(C,.cells (ndV x) ND (0,0))::(E,.cells #[elSl sN] T (0,0))::L) (sublist_cons_self _ _)
 have aZ:w.heap.size<=ag.heap.size:=ah.size
 have a0:=ai.size
 have a1:=al.size
 have R:∀ c∈C::E::L.map (·.1),c<w.heap.size:=fun c I=>by
  obtain ⟨p,hp,rfl⟩:=mem_map.1 (show c∈((C,Obj.cells (ndV x) ND (0,0))::(E,.cells #[elSl s'] T (0,0))::L).map (·.1) from I)
  exact qab (h.blk p hp)
 have am:∀ p∈((C,Obj.cells (ndV x) ND (0,0))::(E,.cells #[elSl sN] T (0,0))::L),p.1∉Bk:=fun p hp A=>(U p.1 A).2 (zY (f:=(·.1)) hp)
 have aM:=ay.frame al (fun i hi=>.inr (U i hi).1) am
 have ae:∀ c∈Bk',c∈Bk\/w.heap.size<=c:=fun c I=>(ax c I).elim .inl fun h=>.inr (by omega)
 have az:∀ c∈Bk',c∉C::E::L.map (·.1):=fun c I A=>by
  rcases ae c I with h | h
  ·exact (U c h).2 A
  ·have:=R c A; omega
 refine Own.st' aM 0 rfl (ndV (setO x o J)) (qtE ho) rfl (by rcases ho with rfl | rfl <;> exact zO rfl) fun an aN aA=>?_
 have h5:∀ c∈Bk',c∉[C]:=fun c I A=>az c I (by rw [zE.1 A]; simp)
 have aB:Fr (C::E::Bk) ag an:=((ai.mono fun _ h _=>nomatch h).trans (al.mono fun i hi _=>by simp [hi])).trans (aA.mono fun i hi _=>by simp [zE.1 hi])
 have aO:Fr (C::E::Bk) w an:=((Fr.refl _ w).drew.trans (ah.mono fun i hi _=>by simp [zE.1 hi])).trans aB
 refine kk aG sN J Bk' an aN hN (aK.frame aA h5) ae az aO fun G hG=>?_
 have aC:∀ c∈aH,c∉C::E::Bk++G.filter fun c=>decide (c<w.heap.size):=fun c I A=>by
  have h1:w.heap.size<=c:=aJ c I
  rcases zD.1 A with A | A
  ·rcases zG.1 A with rfl | A
   ·have:=R c (by simp); omega
   ·rcases zG.1 A with rfl | A
    ·have:=R c (by simp); omega
    ·have:=ab.lt c A; omega
  ·have:=(mem_filter.1 A).2
   simp at this
   omega
 refine (aI.rds qat aC).frame (aB.mono fun i hi _=>zH _ hi) fun c I=>?_
 rcases hG c I with h1 | h1
 ·exact .inl (zI _ (mem_filter.2 ⟨I,by simpa using h1⟩))
 ·rcases ax c h1 with h2 | h2
  ·exact .inl (zH _ (by simp [h2]))
  ·exact .inr (by omega)
section
theorem qf7 {S:List Nat} {w0 w:World} {L L':List (Nat×Obj)} (h:Own S w0 w L) (p:L.Perm L'):Own S w0 w L':=⟨fun x u=>h.blk x (p.mem_iff.2 u),(p.map _).nodup_iff.1 h.nodup,h.fr,fun x u=>h.own x (p.mem_iff.2 u)⟩
theorem qcc {α:Type} {enc:α->List Value} {k:Nat} {w:World} {s:Sl} {l:List α} {B:List Nat} (h:Buf enc k w s l B):B.Nodup:=by
 rcases h with ⟨_,_,rfl⟩ | ⟨b,_,_,_,rfl,_⟩ <;> simp
def Els (w:World) (ps:Kps) (T:List Nat):Prop:=∀ p∈ps,RdB T w p.1 p.2
theorem Els.frame {w w':World} {ps:Kps} {T T' S:List Nat} (h:Els w ps T) (f:Fr S w w') (u:∀ b∈S,b∈T) (A:∀ b∈T',b∈T\/w.heap.size<=b):Els w' ps T':=fun p C=>(h p C).frame (f.mono fun i E _=>u i E) A
theorem Els.snoc {w:World} {ps:Kps} {T:List Nat} {s:Sl} {a:Key} (h:Els w ps T) (g:RdB T w s a):Els w (ps++[(s,a)]) T:=fun p u=>by
 rcases zD.1 u with u | u
 ·exact h p u
 ·rw [zE.1 u]; exact g
theorem qo0 {G:List Nat} {w:World} {x:NdC} {n:NodeM} {pk pv:Kps} {Bk h u T:List Nat} (U:x.1=n.leaf) (V:NB n) (J:Buf encSl 1 w x.2.1 (slsP pk) Bk) (e1:keyP pk=n.keys) (K:Buf encSl 1 w x.2.2.1 (slsP pv) h) (e2:keyP pv=n.vals) (O:Buf encU 1 w x.2.2.2 n.kids u)
  (Q:∀ c∈Bk,c∉h/\c∉u) (d2:∀ c∈h,c∉u) (g1:Els w pk T) (g2:Els w pv T) (R:∀ c∈G++(Bk++(h++u)),c∈T):NodeB (G++(Bk++(h++u))) w x n (Bk++(h++u)):=by
 refine ⟨U,V,Bk,h,u,rfl,?_,⟨pk,J,e1,fun p E=>(g1 p E).weak fun c I=>.inl (R c I)⟩,⟨pv,K,e2,fun p E=>(g2 p E).weak fun c I=>.inl (R c I)⟩,O⟩
 refine yL.2 ⟨qcc J,yL.2 ⟨qcc K,qcc O,fun a C b A e=>d2 a C (e▸A)⟩,fun a C b A e=>?_⟩
 rcases zD.1 A with A | A
 ·exact (Q a C).1 (e▸A)
 ·exact (Q a C).2 (e▸A)
section
variable {w:World} {s:Sl} {b:List Int}
theorem qtM {count k v:Nat} {K:NdC×Bool->WP} (hb:RdB [] w s b) (hB:IsB b) (hl:b.length<=1000) (hc:count<=100000) (hk:1<=k/\k<=1000) (hv:v<=1000)
  (kk:∀ x B n w',(b.length=count*(k+v)->n=⟨true,(leafR k v count b).1,(leafR k v count b).2,[]⟩)->NodeB (List.range w.heap.size++B) w' x n B->Fr [] w w'->(∀ c∈B,w.heap.size<=c)->K (x,decide (b.length=count*(k+v))) w') :
  cW 145 [s.v,.i count,.i k,.i v] [.agg qac,.one .bool] w K:=by
 refine qnt ?_
 unfold qkA
 refine Own.new' (Own.start [] w) fun A w1 e1 f1 h=>?_
 have a0:count*(k+v)<=100000*2000:=Nat.mul_le_mul hc (by omega)
 have ew:IntKind.wrap .i64 ((count:Int)*IntKind.wrap .i64 ((k:Int)+(v:Int)))=((count*(k+v):Nat):Int):=by
  have e1:IntKind.wrap .i64 ((k:Int)+(v:Int))=((k+v:Nat):Int):=by rw [wi' _ (by omega)]; rfl
  rw [e1,<- Int.natCast_mul,wi' _ (by omega)]
 rw [ew]
 have an:=hb.1
 refine qaa (fun aa=>?_) (fun aa=>?_)
 ·have ao:b.length≠count*(k+v):=fun e=>by
   rw [an,e] at aa
   simp at aa
  refine Own.sz h 0 rfl (ndV zeroX) fun w2 h f2=>?_
  refine Own.ldA h 0 rfl zeroX rfl ?_
  have:=kk zeroX [] zeroN w2 (fun e=>absurd e ao) (.zero _ _) h.fr (fun _ h=>nomatch h)
  rw [zU ao] at this
  exact this
 have aI:b.length=count*(k+v):=by
  have:((s.len:Int)==((count*(k+v):Nat):Int))=true:=by simpa using aa
  have:=yO.1 this
  omega
 have a7:count<=1000:=by
  have:count*1<=count*(k+v):=Nat.mul_le_mul_left _ (by omega)
  omega
 refine Own.new' h fun C w2 e2 f2 h=>?_
 refine Own.sz h 0 rfl (ndV (true,⟨none,0,0⟩,⟨none,0,0⟩,⟨none,0,0⟩)) fun w3 h f3=>?_
 refine qgt ?_
 unfold qeX
 refine Own.new' h fun E w4 e4 f4 h=>?_
 have h:=qf7 h (List.Perm.swap _ _ _)
 have a8:=h.nodup
 have a9:=fun p hp=>(h.own p hp).elim (fun h=>(nomatch h:False).elim) (id:w.heap.size<=p.1->_)
 refine qak (fun i w'=>∃ (c:Nat) (sk V sn:Sl) (pk pv:Kps) (Bk G:List Nat),i=(c:Int)/\c<=count/\Own [] w w' [(C,.cells (ndV (true,sk,V,⟨none,0,0⟩)) ND (0,0)),(E,.cells #[elSl sn] 23 (0,0)),(A,.cells (ndV zeroX) ND (0,0))]/\
   RdB [] w sn (b.drop (c*(k+v)))/\Buf encSl 1 w' sk (slsP pk) Bk/\keyP pk=(leafR k v c b).1/\Buf encSl 1 w' V (slsP pv) G/\keyP pv=(leafR k v c b).2/\(∀ c∈Bk,w.heap.size<=c/\c∉[C,E,A])/\(∀ c∈G,w.heap.size<=c/\c∉[C,E,A])/\(∀ c∈Bk,c∉G)/\
   Els w' pk (List.range w.heap.size++C::E::A::(Bk++G))/\Els w' pv (List.range w.heap.size++C::E::A::(Bk++G))) (fun i _=>((count:Int)-i).toNat)
  ⟨0,⟨none,0,0⟩,⟨none,0,0⟩,s,[],[],[],[],rfl,yW _,h,by rw [Nat.zero_mul,xE]; exact hb,.nil _ _ _,rfl,.nil _ _ _,rfl,fun _ h=>(nomatch h),fun _ h=>(nomatch h),fun _ h=>(nomatch h),fun _ h=>(nomatch h),fun _ h=>(nomatch h)⟩ ?_
 rintro _ w' ⟨c,sk,V,sn,pk,pv,Bk,G,rfl,ba,h,aJ,ap,ek,ab,ev,nk,nv,ah,gk,gv⟩ X hX
 have lk:pk.length=c:=by rw [<- zK (f:=(·.2)),show pk.map (·.2)=keyP pk from rfl,ek,(qek c b).1]
 have lv:pv.length=c:=by rw [<- zK (f:=(·.2)),show pv.map (·.2)=keyP pv from rfl,ev,(qek c b).2]
 have J:∀ z∈[C,E,A],z<w'.heap.size:=fun z u=>by
  simp only [zG,xX,or_false] at u
  rcases u with rfl | rfl | rfl
  ·exact qab (h.at (i:=0) rfl)
  ·exact qab (h.at (i:=1) rfl)
  ·exact qab (h.at (i:=2) rfl)
 refine qaa (fun ai=>?_) (fun ai=>?_)
 ·have aq:c<count:=by have:=zC ai; omega
  have aj:(c+1)*(k+v)<=count*(k+v):=Nat.mul_le_mul_right _ aq
  rw [xU,Nat.one_mul] at aj
  have bc:(b.drop (c*(k+v))).length=b.length-c*(k+v):=yB
  refine qpT (o:=1) (m:=k) (.inl rfl) h aJ (by omega) (by omega) (x:=(true,sk,V,⟨none,0,0⟩)) ap (fun z u=>nk z u) (by simp; omega) fun Q sN R Bk' w5 h5 aM b5 n5 m5 f5 g5=>?_
  have h5:Own [] w w5 [(C,.cells (ndV (true,R,V,⟨none,0,0⟩)) ND (0,0)),(E,.cells #[elSl sN] 23 (0,0)),(A,.cells (ndV zeroX) ND (0,0))]:=h5
  have ar:=ab.frame f5 fun z u I=>by
   simp only [zG] at I
   rcases I with rfl | rfl | I
   ·exact (nv _ u).2 (by simp)
   ·exact (nv _ u).2 (by simp)
   ·exact ah z I u
  have au:∀ z∈List.range w.heap.size++C::E::A::(Bk'++G),z∈List.range w.heap.size++C::E::A::(Bk++G)\/w'.heap.size<=z:=fun z u=>by
   simp only [zD,zG] at u ⊢
   rcases u with u | rfl | rfl | rfl | u | u
   ·exact .inl (.inl u)
   ·simp
   ·simp
   ·simp
   ·rcases n5 z u with h | h
    ·simp [h]
    ·exact .inr h
   ·simp [u]
  have av:∀ z∈C::E::Bk,z∈List.range w.heap.size++C::E::A::(Bk++G):=fun z u=>by
   simp only [zD,zG] at u ⊢
   rcases u with rfl | rfl | u <;> simp [*]
  have aP:=(gk.frame f5 av au).snoc (s:=Q) (a:=(b.drop (c*(k+v))).take k) (g5 _ fun z u=>by
   simp only [zD,zG,mem_range] at u
   have:=h.fr.size
   rcases u with u | rfl | rfl | rfl | u | u
   ·exact .inl (by omega)
   ·exact .inl (J _ (by simp))
   ·exact .inl (J _ (by simp))
   ·exact .inl (J _ (by simp))
   ·exact .inr u
   ·exact .inl (ab.lt z u))
  have aQ:=gv.frame f5 av au
  have ak:∀ z∈Bk',w.heap.size<=z/\z∉[C,E,A]:=fun z u=>⟨by
   rcases n5 z u with O | O
   ·exact (nk z O).1
   ·exact zL h.fr.size O,m5 z u⟩
  have ag:∀ z∈Bk',z∉G:=fun z u I=>by
   rcases n5 z u with O | O
   ·exact ah z O I
   ·have:=ab.lt z I; omega
  have aR:Buf encSl 1 w5 R (slsP (pk++[(Q,(b.drop (c*(k+v))).take k)])) Bk':=by rw [show slsP (pk++[(Q,(b.drop (c*(k+v))).take k)])=slsP pk++[Q] by simp]; exact b5
  refine qpT (o:=2) (m:=v) (.inr rfl) h5 aM (by rw [yB]; omega) (by rw [yB]; omega) (x:=(true,R,V,⟨none,0,0⟩)) ar (fun z u=>nv z u) (by simp; omega) fun ad aw ax ay w6 h6 az b6 n6 m6 f6 g6=>?_
  have h6:Own [] w w6 [(C,.cells (ndV (true,R,ax,⟨none,0,0⟩)) ND (0,0)),(E,.cells #[elSl aw] 23 (0,0)),(A,.cells (ndV zeroX) ND (0,0))]:=h6
  have U:∀ z∈[C,E,A],z<w5.heap.size:=fun z u=>yC (J z u) f5.size
  have aA:=aR.frame f6 fun z u I=>by
   simp only [zG] at I
   rcases I with rfl | rfl | I
   ·exact (ak _ u).2 (by simp)
   ·exact (ak _ u).2 (by simp)
   ·exact ag z u I
  have aB:∀ z∈List.range w.heap.size++C::E::A::(Bk'++ay),z∈List.range w.heap.size++C::E::A::(Bk'++G)\/w5.heap.size<=z:=fun z u=>by
   simp only [zD,zG] at u ⊢
   rcases u with u | rfl | rfl | rfl | u | u
   ·exact .inl (.inl u)
   ·simp
   ·simp
   ·simp
   ·simp [u]
   ·rcases n6 z u with h | h
    ·simp [h]
    ·exact .inr h
  have aC:∀ z∈C::E::G,z∈List.range w.heap.size++C::E::A::(Bk'++G):=fun z u=>by
   simp only [zD,zG] at u ⊢
   rcases u with rfl | rfl | u <;> simp [*]
  have aV:=(aQ.frame f6 aC aB).snoc (s:=ad) (a:=((b.drop (c*(k+v))).drop k).take v) (g6 _ fun z u=>by
   simp only [zD,zG,mem_range] at u
   have:=h5.fr.size
   rcases u with u | rfl | rfl | rfl | u | u
   ·exact .inl (by omega)
   ·exact .inl (U _ (by simp))
   ·exact .inl (U _ (by simp))
   ·exact .inl (U _ (by simp))
   ·exact .inl (b5.lt z u)
   ·exact .inr u)
  have aW:=aP.frame f6 aC aB
  rw [qbs (by omega)]
  have aD:=qka (k:=k) (v:=v) c b
  refine hX _ _ ⟨c+1,R,ax,aw,pk++[(Q,(b.drop (c*(k+v))).take k)],pv++[(ad,((b.drop (c*(k+v))).drop k).take v)],Bk',ay,rfl,aq,h6,?_,aA,?_,?_,?_,ak,fun z u=>⟨?_,m6 z u⟩,fun z u I=>?_,aW,aV⟩ (by omega)
  ·rw [xC,xC] at az
   have e:c*(k+v)+(k+v)=(c+1)*(k+v):=by rw [xU]; omega
   rw [<- e]
   exact az
  ·rw [aD]; simp [ek]
  ·rw [show slsP (pv++[(ad,((b.drop (c*(k+v))).drop k).take v)])=slsP pv++[ad] by simp]; exact b6
  ·rw [aD]; simp [ev]
  ·rcases n6 z u with O | O
   ·exact (nv z O).1
   ·exact zL h5.fr.size O
  ·rcases n6 z I with O | O
   ·exact ag z u O
   ·have:=b5.lt z u; omega
 ·have aX:c=count:=by have:=zB ai; omega
  subst aX
  refine Own.ldA h 0 rfl (true,sk,V,⟨none,0,0⟩) rfl ?_
  refine Own.sz h 2 rfl (ndV (true,sk,V,⟨none,0,0⟩)) fun w5 h5 f5=>?_
  refine Own.ldA h5 2 rfl (true,sk,V,⟨none,0,0⟩) rfl ?_
  have aE:∀ {B:List Nat},(∀ z∈B,w.heap.size<=z/\z∉[C,E,A])->∀ z∈B,z∉[A]:=fun hB z u I=>(hB z u).2 (by rw [zE.1 I]; simp)
  have aF:∀ z∈[A],z∈List.range w.heap.size++C::E::A::(Bk++G):=fun z u=>by rw [zE.1 u]; simp
  have:=kk (true,sk,V,⟨none,0,0⟩) (Bk++(G++[])) ⟨true,(leafR k v c b).1,(leafR k v c b).2,[]⟩ w5 (fun _=>rfl)
   (qo0 (T:=List.range w.heap.size++C::E::A::(Bk++G)) rfl ⟨(qhf c hB).1,(qhf c hB).2,fun _ h=>(nomatch h)⟩ (ap.frame f5 (aE nk)) ek (ab.frame f5 (aE nv)) ev (.nil _ _ _) (fun z u=>⟨ah z u,fun h=>nomatch h⟩) (fun _ _ h=>nomatch h)
    (gk.frame f5 aF fun z u=>.inl u) (gv.frame f5 aF fun z u=>.inl u) fun z u=>by
     simp only [xG,zD,zG] at u ⊢
     rcases u with u | u | u <;> simp [*]) h5.fr (fun z u=>by
    rw [xG] at u
    rcases zD.1 u with u | u
    ·exact (nk z u).1
    ·exact (nv z u).1)
  rw [zZ aI] at this
  exact this
end
end
section
theorem qop {l:List Int} (u:IsB l) (C:4<=l.length):first4 (l.take 4)=getV (l.take 4):=by
 match l,C with
 | a::b::c::d::r,_=>
  have E:=u a (by simp)
  have G:=u b (by simp)
  have I:=u c (by simp)
  have J:=u d (by simp)
  show first4 [a,b,c,d]=getV [a,b,c,d]
  show get4V a b c d=_
  rw [qnU E G I J,qga (fun v A=>u v (by simp at A ⊢; rcases A with h | h | h | h <;> simp [h])) (zM _)]
  show _=(((0*256+a)*256+b)*256+c)*256+d
  omega
theorem qs7 (l:List Int):U32 (getV l):=by
 unfold getV
 have:∀ (l:List Int) (r:Int),U32 r->U32 (l.foldl (fun r x=>bits .or .u32 (IntKind.wrap .u32 (r*2^8)) (IntKind.wrap .u32 x)) r):=by
  intro l
  induction l with
  | nil=>intro r h; exact h
  | cons x l ih=>intro r h; exact ih _ (qbZ _ _ _)
 exact this l 0 ⟨by decide,by decide⟩
theorem qlD:∀ (c:Nat) (b:List Int),∀ x∈kidsR c b,U32 x
 | 0,_,_,h=>nomatch h
 | c+1,b,x,h=>by
  rcases zG.1 h with rfl | h
  ·exact qs7 _
  ·exact qlD c _ x h
theorem qtr {w0 w:World} {L:List (Nat×Obj)} {G I:Nat} {x:NdC} {s':Sl} {b:List Int} {l:List Int} {Bi:List Nat} {T:TypeId} {K:WP}
  (h:Own [] w0 w ((G,.cells (ndV x) ND (0,0))::(I,.cells #[elSl s'] T (0,0))::L)) (hr:RdB [] w0 s' b) (hB:IsB b) (U:4<=b.length) (az:b.length<=1000000)
  (ag:Buf encU 1 w x.2.2.2 l Bi) (V:∀ c∈Bi,w0.heap.size<=c/\c∉G::I::L.map (·.1)) (hl:l.length<=100000)
  (kk:∀ sN J O w',Own [] w0 w' ((G,.cells (ndV (x.1,x.2.1,x.2.2.1,J)) ND (0,0))::(I,.cells #[elSl sN] T (0,0))::L)->RdB [] w0 sN (b.drop 4)->Buf encU 1 w' J (l++[getV (b.take 4)]) O->
   (∀ c∈O,w0.heap.size<=c/\c∉G::I::L.map (·.1))->K w') :
  (callV Tryz.prog (takerV I) ([Value.int IntKind.i64 4]) ([Ty1.one Cell.slice]) w<|
    fun (C:Sl) (u:World)=>
    ld Cell.slice ⟨G,3,none⟩ u.drew<|
    fun (A:Sl)=>
    idx C 0 1<|
    fun (ah:Addr)=>
    ld (Cell.int IntKind.u8) ah u.drew<|
    fun (ai:Int)=>
    idx C 1 1<|
    fun (aj:Addr)=>
    ld (Cell.int IntKind.u8) aj u.drew<|
    fun (ak:Int)=>
    idx C 2 1<|
    fun (al:Addr)=>
    ld (Cell.int IntKind.u8) al u.drew<|
    fun (am:Int)=>
    idx C 3 1<|
    fun (an:Addr)=>
    ld (Cell.int IntKind.u8) an u.drew<|
    fun (ao:Int)=>
    new (Obj.cells #[Value.int IntKind.u32 (bits BinOp.or IntKind.u32 (bits BinOp.or IntKind.u32 (bits BinOp.or IntKind.u32 (IntKind.wrap IntKind.u32 (IntKind.wrap IntKind.u32 ai*2^24)) (IntKind.wrap IntKind.u32 (IntKind.wrap IntKind.u32 ak*2^16))) (IntKind.wrap IntKind.u32 (IntKind.wrap IntKind.u32 am*2^8))) (IntKind.wrap IntKind.u32 ao))] 37) u.drew<|
    fun (ap:Nat) (ac:World)=>
    held [fun (aq:Go.World)=>World.cell? aq ⟨G,3,none⟩=some (Value.slice A.a A.len A.cap)] ac<|
    run [Ty1.one Cell.slice] ((Builtin.append_ (#[92,92]) 92 (#[Value.slice A.a A.len A.cap,Value.slice (pW ap) 1 1])).run Tryz.prog ac)<|
    fun (Q:Sl) (ar:World)=>
    st ⟨G,3,none⟩ ([Value.slice Q.a Q.len Q.cap]) ar K):=by
 refine qnE (m:=4) h (i:=1) rfl hr U az fun aA aV sN aa aB aC aW hN aD=>?_
 have hd:Own [] w0 aa.drew ((G,.cells (ndV x) ND (0,0))::(I,.cells #[elSl sN] T (0,0))::L):=Own.drew aB
 refine Own.ld hd 0 rfl x.2.2.2 rfl ?_
 have E:RdB [] aa.drew aA (b.take 4):=(aC.rds qat (S:=[]) (fun _ _ h=>nomatch h)).frame0 (Fr.refl [] aa).drew
 have h4:4<=(b.take 4).length:=by rw [yK]; omega
 refine RdB.at E 0 rfl (getD_some (by omega)) ?_
 refine RdB.at E 1 rfl (getD_some (by omega)) ?_
 refine RdB.at E 2 rfl (getD_some (by omega)) ?_
 refine RdB.at E 3 rfl (getD_some (by omega)) ?_
 have e4:=qop hB U
 unfold first4 get4V at e4
 rw [e4]
 refine Own.new' hd fun aY aE aZ aF ad=>?_
 refine qah (ad.cell 1 rfl rfl) ?_
 have au:=ag.frame aD fun c hc U=>(V c hc).2 (by rw [zE.1 U]; simp)
 have av:=(au.frame0 (Fr.refl [] aa).drew).frame0 aF
 refine qpd av hl (ad.at (i:=0) rfl) fun J O a0 aG aH aI=>?_
 have R:=ad.sub (L':=(G,.cells (ndV x) ND (0,0))::(I,.cells #[elSl sN] T (0,0))::L) (sublist_cons_self _ _)
 have af:∀ p∈((G,Obj.cells (ndV x) ND (0,0))::(I,.cells #[elSl sN] T (0,0))::L),p.1∉Bi:=fun p hp U=>(V p.1 U).2 (zY (f:=(·.1)) hp)
 have aK:=R.frame aH (fun i hi=>.inr (V i hi).1) af
 have aw:∀ c∈G::I::L.map (·.1),c<aE.heap.size:=fun c hc=>by
  obtain ⟨p,hp,rfl⟩:=mem_map.1 (show c∈((G,Obj.cells (ndV x) ND (0,0))::(I,.cells #[elSl sN] T (0,0))::L).map (·.1) from hc)
  exact qab (R.blk p hp)
 have ax:∀ c∈O,w0.heap.size<=c/\c∉G::I::L.map (·.1):=fun c hc=>by
  rcases aI c hc with h | h
  ·exact V c h
  ·exact ⟨zL R.fr.size h,fun U=>by have:=aw c U; omega⟩
 refine Own.sz aK 0 rfl (ndV (x.1,x.2.1,x.2.2.1,J)) fun aL aM aN=>?_
 exact kk sN J O aL aM hN (aG.frame aN fun c hc U=>(ax c hc).2 (by rw [zE.1 U]; simp)) ax
section
variable {w:World} {s:Sl} {b:List Int}
theorem qqU {count k:Nat} {K:NdC×Bool->WP} (hb:RdB [] w s b) (hB:IsB b) (hl:b.length<=1000) (hc:count<=100000) (hk:1<=k/\k<=1000)
  (kk:∀ x B n w',(1<=count/\b.length=count*4+(count-1)*k->n=⟨false,keysR k (count-1) (b.drop (count*4)),[],kidsR count b⟩)->NodeB (List.range w.heap.size++B) w' x n B->Fr [] w w'->(∀ c∈B,w.heap.size<=c)->K (x,decide (1<=count/\b.length=count*4+(count-1)*k)) w') :
  cW 146 [s.v,.i count,.i k] [.agg qac,.one .bool] w K:=by
 refine qmE ?_
 unfold qiN
 refine Own.new' (Own.start [] w) fun A w1 e1 f1 h=>?_
 have am:=hb.1
 have an:(count-1)*k<=100000*1000:=Nat.mul_le_mul (by omega) hk.2
 refine qag (fun d w'=>d = !decide (1<=count/\b.length=count*4+(count-1)*k)/\w'=w1) ?_ ?_
 ·refine qaa (fun h1=>?_) (fun h1=>?_)
  ·have h1:=zC h1
   refine ⟨?_,rfl⟩
   rw [zU (fun h=>by omega)]; rfl
  ·have h1:=zB h1
   refine ⟨?_,rfl⟩
   have ea:IntKind.wrap .i64 ((count:Int)-1)=((count-1:Nat):Int):=by rw [wi' _ (by omega)]; omega
   have ew:IntKind.wrap .i64 (IntKind.wrap .i64 ((count:Int)*4)+IntKind.wrap .i64 (IntKind.wrap .i64 ((count:Int)-1)*(k:Int)))=((count*4+(count-1)*k:Nat):Int):=by
    have e4:IntKind.wrap .i64 ((count:Int)*4)=((count*4:Nat):Int):=by rw [wi' _ (by omega)]; rfl
    have e5:IntKind.wrap .i64 (((count-1:Nat):Int)*(k:Int))=(((count-1)*k:Nat):Int):=by rw [<- Int.natCast_mul,wi' _ (by omega)]
    rw [ea,e4,e5]
    generalize (count-1)*k=z at an
    rw [wi' _ (by omega)]; rfl
   rw [ew,am]
   congr 1
   rw [Bool.eq_iff_iff,yO,yM]
   generalize (count-1)*k=z
   omega
 rintro d aY ⟨rfl,rfl⟩
 refine qaa (fun O=>?_) (fun O=>?_)
 ·have ap:¬ (1<=count/\b.length=count*4+(count-1)*k):=by rw [zT] at O; exact zB O
  refine Own.sz h 0 rfl (ndV zeroX) fun U h f2=>?_
  refine Own.ldA h 0 rfl zeroX rfl ?_
  have:=kk zeroX [] zeroN U (fun e=>absurd e ap) (.zero _ _) h.fr (fun _ h=>nomatch h)
  rw [zU ap] at this
  exact this
 have aE:1<=count/\b.length=count*4+(count-1)*k:=by rw [yD] at O; exact zC O
 refine Own.new' h fun E U e2 f2 h=>?_
 refine qgt ?_
 unfold qeX
 refine Own.new' h fun G w4 e4 f4 h=>?_
 have h:=qf7 h (List.Perm.swap _ _ _)
 refine qak (fun i w'=>∃ (c:Nat) (J sn:Sl) (I:List Nat),i=(c:Int)/\c<=count/\Own [] w w' [(E,.cells (ndV (false,⟨none,0,0⟩,⟨none,0,0⟩,J)) ND (0,0)),(G,.cells #[elSl sn] 23 (0,0)),(A,.cells (ndV zeroX) ND (0,0))]/\
   RdB [] w sn (b.drop (c*4))/\Buf encU 1 w' J (kidsR c b) I/\(∀ c∈I,w.heap.size<=c/\c∉[E,G,A])) (fun i _=>((count:Int)-i).toNat)
  ⟨0,⟨none,0,0⟩,s,[],rfl,yW _,h,by rw [Nat.zero_mul,xE]; exact hb,.nil _ _ _,fun _ h=>(nomatch h)⟩ ?_
 rintro _ w' ⟨c,J,sn,I,rfl,a0,h,aq,C,ni⟩ X hX
 refine qaa (fun ae=>?_) (fun ae=>?_)
 ·have V:c<count:=by have:=zC ae; omega
  have aG:(b.drop (c*4)).length=b.length-c*4:=yB
  refine qtr h aq (hB.drop _) (by omega) (by omega) (x:=(false,⟨none,0,0⟩,⟨none,0,0⟩,J)) C ni (by rw [qhU]; omega) fun sN aH aI w5 h5 Q b5 n5=>?_
  rw [qbs (by omega)]
  refine hX _ _ ⟨c+1,aH,sN,aI,rfl,V,h5,?_,by rw [qkt]; exact b5,n5⟩ (by omega)
  rw [xC] at Q
  have e:c*4+4=(c+1)*4:=by omega
  rw [<- e]
  exact Q
 have af:c=count:=by have:=zB ae; omega
 subst af
 have aS:∀ z∈I,w.heap.size<=z:=fun z u=>(ni z u).1
 refine qak (fun i U=>∃ (d:Nat) (sk sn:Sl) (pk:Kps) (Bk:List Nat),i=(d:Int)/\d<=c-1/\Own [] w U [(E,.cells (ndV (false,sk,⟨none,0,0⟩,J)) ND (0,0)),(G,.cells #[elSl sn] 23 (0,0)),(A,.cells (ndV zeroX) ND (0,0))]/\
   RdB [] w sn ((b.drop (c*4)).drop (d*k))/\Buf encU 1 U J (kidsR c b) I/\Buf encSl 1 U sk (slsP pk) Bk/\keyP pk=keysR k d (b.drop (c*4))/\(∀ c∈Bk,w.heap.size<=c/\c∉[E,G,A])/\(∀ c∈Bk,c∉I)/\
   Els U pk (List.range w.heap.size++E::G::A::(Bk++I))) (fun i _=>(((c-1:Nat):Int)-i).toNat)
  ⟨0,⟨none,0,0⟩,sn,[],[],rfl,yW _,h,by rw [Nat.zero_mul,xE]; exact aq,C,.nil _ _ _,rfl,fun _ h=>(nomatch h),fun _ h=>(nomatch h),fun _ h=>(nomatch h)⟩ ?_
 rintro _ U ⟨d,sk,a1,pk,Bk,rfl,a2,h,au,C,av,ek,nk,ag,gk⟩ X hX
 have lk:pk.length=d:=by rw [<- zK (f:=(·.2)),show pk.map (·.2)=keyP pk from rfl,ek,qhC]
 have ea:IntKind.wrap .i64 ((c:Int)-1)=((c-1:Nat):Int):=by rw [wi' _ (by omega)]; omega
 have R:∀ z∈[E,G,A],z<U.heap.size:=fun z u=>by
  simp only [zG,xX,or_false] at u
  rcases u with rfl | rfl | rfl
  ·exact qab (h.at (i:=0) rfl)
  ·exact qab (h.at (i:=1) rfl)
  ·exact qab (h.at (i:=2) rfl)
 rw [ea]
 refine qaa (fun ah=>?_) (fun ah=>?_)
 ·have V:d<c-1:=by have:=zC ah; omega
  have ai:(d+1)*k<=(c-1)*k:=Nat.mul_le_mul_right _ V
  rw [xU,Nat.one_mul] at ai
  have aG:((b.drop (c*4)).drop (d*k)).length=b.length-c*4-d*k:=by rw [yB,yB]
  refine qpT (o:=1) (m:=k) (.inl rfl) h au (by omega) (by omega) (x:=(false,sk,⟨none,0,0⟩,J)) av nk (by simp; omega) fun aa sN aw Bk' w5 h5 Q b5 n5 m5 f5 g5=>?_
  have h5:Own [] w w5 [(E,.cells (ndV (false,aw,⟨none,0,0⟩,J)) ND (0,0)),(G,.cells #[elSl sN] 23 (0,0)),(A,.cells (ndV zeroX) ND (0,0))]:=h5
  have ax:=C.frame f5 fun z u hm=>by
   simp only [zG] at hm
   rcases hm with rfl | rfl | hm
   ·exact (ni _ u).2 (by simp)
   ·exact (ni _ u).2 (by simp)
   ·exact ag z hm u
  have aL:∀ z∈List.range w.heap.size++E::G::A::(Bk'++I),z∈List.range w.heap.size++E::G::A::(Bk++I)\/U.heap.size<=z:=fun z u=>by
   simp only [zD,zG] at u ⊢
   rcases u with u | rfl | rfl | rfl | u | u
   ·exact .inl (.inl u)
   ·simp
   ·simp
   ·simp
   ·rcases n5 z u with h | h
    ·simp [h]
    ·exact .inr h
   ·simp [u]
  have aM:∀ z∈E::G::Bk,z∈List.range w.heap.size++E::G::A::(Bk++I):=fun z u=>by
   simp only [zD,zG] at u ⊢
   rcases u with rfl | rfl | u <;> simp [*]
  have aN:=(gk.frame f5 aM aL).snoc (s:=aa) (a:=((b.drop (c*4)).drop (d*k)).take k) (g5 _ fun z u=>by
   simp only [zD,zG,mem_range] at u
   have:=h.fr.size
   rcases u with u | rfl | rfl | rfl | u | u
   ·exact .inl (by omega)
   ·exact .inl (R _ (by simp))
   ·exact .inl (R _ (by simp))
   ·exact .inl (R _ (by simp))
   ·exact .inr u
   ·exact .inl (C.lt z u))
  rw [qbs (by omega)]
  refine hX _ _ ⟨d+1,aw,sN,pk++[(aa,((b.drop (c*4)).drop (d*k)).take k)],Bk',rfl,V,h5,?_,ax,?_,?_,fun z u=>⟨?_,m5 z u⟩,fun z u hm=>?_,aN⟩ (by omega)
  ·rw [xC] at Q
   have e:d*k+k=(d+1)*k:=by rw [xU]; omega
   rw [<- e]
   exact Q
  ·rw [show slsP (pk++[(aa,((b.drop (c*4)).drop (d*k)).take k)])=slsP pk++[aa] by simp]; exact b5
  ·rw [qjR]; simp [ek]
  ·rcases n5 z u with h' | h'
   ·exact (nk z h').1
   ·exact zL h.fr.size h'
  ·rcases n5 z u with h' | h'
   ·exact ag z h' hm
   ·have:=C.lt z hm; omega
 ·have af:d=c-1:=by have:=zB ah; omega
  subst af
  refine Own.ldA h 0 rfl (false,sk,⟨none,0,0⟩,J) rfl ?_
  refine Own.sz h 2 rfl (ndV (false,sk,⟨none,0,0⟩,J)) fun w5 h5 f5=>?_
  refine Own.ldA h5 2 rfl (false,sk,⟨none,0,0⟩,J) rfl ?_
  have ay:∀ {B:List Nat},(∀ z∈B,w.heap.size<=z/\z∉[E,G,A])->∀ z∈B,z∉[A]:=fun hB z u hm=>(hB z u).2 (by rw [zE.1 hm]; simp)
  have aO:∀ z∈[A],z∈List.range w.heap.size++E::G::A::(Bk++I):=fun z u=>by rw [zE.1 u]; simp
  have:=kk (false,sk,⟨none,0,0⟩,J) (Bk++([]++I)) ⟨false,keysR k (c-1) (b.drop (c*4)),[],kidsR c b⟩ w5 (fun _=>rfl)
   (qo0 (pv:=[]) (T:=List.range w.heap.size++E::G::A::(Bk++I)) rfl ⟨qml _ (hB.drop _),fun _ h=>(nomatch h),qlD _ _⟩ (av.frame f5 (ay nk)) ek (.nil _ _ _) rfl (C.frame f5 (ay ni)) (fun z u=>⟨fun h=>(nomatch h),ag z u⟩) (fun _ h=>nomatch h)
    (gk.frame f5 aO fun z u=>.inl u) (fun _ h=>nomatch h) fun z u=>by
     simp only [xH,zD,zG] at u ⊢
     rcases u with u | u | u <;> simp [*]) h5.fr (fun z u=>by
    rw [xH] at u
    rcases zD.1 u with u | u
    ·exact (nk z u).1
    ·exact (ni z u).1)
  rw [zZ aE] at this
  exact this
end
end
section
theorem qok {b:List Int} (h:IsB b) (C:2<=b.length):bits .or .i64 (IntKind.wrap .i64 (IntKind.wrap .i64 (b.getD 0 0)*2^8)) (IntKind.wrap .i64 (b.getD 1 0))=(countV b:Int)/\countV b<=65535:=by
 have u:0<=b.getD 0 0/\b.getD 0 0<256:=h _ (yE (getD_some (l:=b) (n:=0) (by omega)))
 have A:0<=b.getD 1 0/\b.getD 1 0<256:=h _ (yE (getD_some (l:=b) (n:=1) (by omega)))
 unfold countV
 generalize b.getD 0 0=x at u ⊢
 generalize b.getD 1 0=y at A ⊢
 rw [wi' x (by omega),wi' y (by omega),wi' (x*2^8) (by omega),qmX 8 (by omega) (by omega) (by omega) (by omega) (by omega)]
 omega
theorem qj7 {k v:Nat} (h:(capsV k v).1≠0):1<=k/\k<=24/\v<=108:=by
 unfold capsV at h
 split at h
 ·exact absurd rfl h
 ·omega
theorem qsp {kind:Int} {b:List Int} {k v:Nat} (h:(capsV k v).1=0\/b.length<2\/b.length>500):readNV kind b k v=(zeroN,2):=by unfold readNV; rw [if_pos h]
theorem qqE {b:List Int} {k v:Nat} (h:¬ ((capsV k v).1=0\/b.length<2\/b.length>500)):readNV 3 b k v=if (b.drop 2).length=countV b*(k+v)/\rightV (leafN k v b) k v then (leafN k v b,0) else (zeroN,2):=by
 unfold readNV
 rw [if_neg h]
 by_cases h2:(b.drop 2).length=countV b*(k+v)/\rightV (leafN k v b) k v
 ·rw [if_pos ⟨rfl,h2⟩,if_pos h2]
 ·rw [if_neg fun h=>h2 h.2,if_neg h2,if_neg fun h=>absurd h.1 (by decide)]
theorem qpR {b:List Int} {k v:Nat} (h:¬ ((capsV k v).1=0\/b.length<2\/b.length>500)):readNV 4 b k v=if (1<=countV b/\(b.drop 2).length=countV b*4+(countV b-1)*k)/\rightV (innerN k b) k v then (innerN k b,0) else (zeroN,2):=by
 unfold readNV
 rw [if_neg h,if_neg fun h=>absurd h.1 (by decide)]
 by_cases h2:(1<=countV b/\(b.drop 2).length=countV b*4+(countV b-1)*k)/\rightV (innerN k b) k v
 ·rw [if_pos ⟨rfl,h2.1.1,h2.1.2,h2.2⟩,if_pos h2]
 ·rw [if_neg fun h=>h2 ⟨⟨h.2.1,h.2.2.1⟩,h.2.2.2⟩,if_neg h2]
theorem qrj {kind:Int} {b:List Int} {k v:Nat} (u:kind≠3) (A:kind≠4):readNV kind b k v=(zeroN,2):=by
 unfold readNV
 split
 ·rfl
 ·rw [if_neg fun h=>u h.1,if_neg fun h=>A h.1]
section
variable {w:World} {s:Sl} {b:List Int}
theorem qjF {kind:Int} {k v:Nat} {K:NdC×Int->WP} (hb:RdB [] w s b) (hB:IsB b)
  (kk:∀ x B w',NodeB (List.range w.heap.size++B) w' x (readNV kind b k v).1 B->Fr [] w w'->(∀ c∈B,w.heap.size<=c)->K (x,(readNV kind b k v).2) w') :
  cW 112 [.b kind,s.v,.i k,.i v] [.agg qac,.one .i] w K:=by
 refine qm9 ?_
 unfold qkq
 have ae:=hb.1
 refine Own.new' (Own.start [] w) fun r1 w1 e1 f1 h=>?_
 refine qjK fun w4 f4=>?_
 have h:=h.frame0 f4
 refine qag (fun d w'=>d=decide ((capsV k v).1=0\/b.length<2\/b.length>500)/\w'=w4) ?_ ?_
 ·dsimp only
  refine qaa (fun A=>⟨?_,rfl⟩) (fun A=>qaa (fun c2=>⟨?_,rfl⟩) (fun c2=>⟨?_,rfl⟩))
  ·have A:=yO.1 A
   exact qii (.inl (by omega))
  ·have c2:=zC c2
   exact qii (.inr (.inl (by omega)))
  ·have A:=zR.1 A
   have c2:=zB c2
   rw [Bool.eq_iff_iff,yM,yM]
   constructor
   ·intro h; exact .inr (.inr (by omega))
   ·rintro (h | h | h)
    ·omega
    ·omega
    ·omega
 rintro d aG ⟨rfl,rfl⟩
 have ar:∀ {w'},readNV kind b k v=(zeroN,2)->Own [] w w' [(r1,.cells (ndV zeroX) ND (0,0))]->
   st ⟨r1,0,none⟩ ([Value.bool false,Value.slice none 0 0,Value.slice none 0 0,Value.slice none 0 0]) w' fun au=>ldA (qac) ⟨r1,0,none⟩ au fun aH=>K ((aH,2)) au:=fun he h=>by
  refine Own.sz h 0 rfl (ndV zeroX) fun w2 h f2=>?_
  refine Own.ldA h 0 rfl zeroX rfl ?_
  have:=kk zeroX [] w2 (by rw [he]; exact .zero _ _) h.fr (fun _ h=>nomatch h)
  rw [he] at this
  exact this
 refine qaa (fun u=>ar (qsp (zC u)) h) (fun u=>?_)
 have R:=zB u
 have av:(capsV k v).1≠0:=fun e=>R (.inl e)
 have h2:2<=b.length/\b.length<=500:=by
  refine ⟨?_,?_⟩
  ·exact Nat.not_lt.1 fun e=>R (.inr (.inl e))
  ·exact Nat.not_lt.1 fun e=>R (.inr (.inr e))
 obtain ⟨aW,aX,aY⟩:=qj7 av
 obtain ⟨aw,aZ⟩:=qok hB h2.1
 have ax:=(hb.frame0 h.fr).frame0 (Fr.refl [] aG).drew
 refine RdB.at ax 0 rfl (getD_some (by omega)) ?_
 refine RdB.at ax 1 rfl (getD_some (by omega)) ?_
 rw [aw]
 have h:=h.drew
 refine Own.new' h fun ac ag a0 a1 h=>?_
 have ah:=qab (h.at (i:=0) rfl)
 have ay:=qab (h.at (i:=1) rfl)
 dsimp only at ah ay
 have af:=hb.frame0 h.fr
 have az:=h.fr.size
 refine qag (fun J w'=>∃ x B n,Own [] w w' [(ac,.cells (ndV x) ND (0,0)),(r1,.cells (ndV zeroX) ND (0,0))]/\NodeB (List.range ag.heap.size++B) w' x n B/\(∀ c∈B,ag.heap.size<=c)/\
   J=decide ((kind=3/\(b.drop 2).length=countV b*(k+v))\/(kind=4/\1<=countV b/\(b.drop 2).length=countV b*4+(countV b-1)*k))/\
   (J=true->n=if kind=3 then leafN k v b else innerN k b)) ?_ ?_
 ·refine qaa (fun Q=>?_) (fun Q=>qaa (fun c4=>?_) (fun c4=>?_))
  ·have Q:=yO.1 Q
   refine Rds.part (S:=[]) af (lo:=some 2) (hi:=none) 2 b.length rfl (by rw [xW,ae]) h2.1 (zM _) fun aJ _ G _=>?_
   rw [xZ] at G
   refine qtM G (hB.drop 2) (by rw [yB]; omega) (by omega) (by omega) (by omega) fun x B n aK hn hN ak I=>?_
   have al:=h.frame0 ak
   refine Own.sz al 0 rfl (ndV x) fun aL am an=>?_
   have U:∀ c∈B,c∉[ac]:=fun c u hm=>by have:=I c u; rw [zE.1 hm] at this; omega
   refine ⟨x,B,n,am,hN.frame an U (fun c u=>.inl (by rw [zE.1 u]; simp [ah])) (fun c u=>.inl u),I,?_,fun C=>?_⟩
   ·rw [Bool.eq_iff_iff,yM,yM]
    constructor
    ·intro O; exact .inl ⟨Q,O⟩
    ·rintro (O | O)
     ·exact O.2
     ·have:=O.1; omega
   ·rw [if_pos Q]
    exact hn (zC C)
  ·have Q:=zR.1 Q
   have c4:=yO.1 c4
   refine Rds.part (S:=[]) af (lo:=some 2) (hi:=none) 2 b.length rfl (by rw [xW,ae]) h2.1 (zM _) fun aJ _ G _=>?_
   rw [xZ] at G
   refine qqU G (hB.drop 2) (by rw [yB]; omega) (by omega) (by omega) fun x B n aK hn hN ak I=>?_
   have al:=h.frame0 ak
   refine Own.sz al 0 rfl (ndV x) fun aL am an=>?_
   have U:∀ c∈B,c∉[ac]:=fun c u hm=>by have:=I c u; rw [zE.1 hm] at this; omega
   refine ⟨x,B,n,am,hN.frame an U (fun c u=>.inl (by rw [zE.1 u]; simp [ah])) (fun c u=>.inl u),I,?_,fun C=>?_⟩
   ·rw [Bool.eq_iff_iff,yM,yM]
    constructor
    ·intro O; exact .inr ⟨c4,O⟩
    ·rintro (O | O)
     ·exact absurd O.1 Q
     ·exact O.2
   ·rw [if_neg Q]
    exact hn (zC C)
  ·have Q:=zR.1 Q
   have c4:=zR.1 c4
   refine ⟨zeroX,[],zeroN,h,.zero _ _,fun _ h=>(nomatch h),?_,fun C=>nomatch C⟩
   rw [zU]
   rintro (O | O)
   ·exact Q O.1
   ·exact c4 O.1
 rintro J aM ⟨x,B,n,h,hN,I,V,hn⟩
 have aB:J=true->n.keys.length<=1000000/\n.vals.length<=1000000/\n.kids.length<=1000000:=fun C=>by
  rw [hn C]
  split
  ·have:=qek (k:=k) (v:=v) (countV b) (b.drop 2)
   unfold leafN
   dsimp only
   rw [this.1,this.2]
   simp; omega
  ·unfold innerN
   dsimp only
   rw [qhC,qhU]
   simp; omega
 refine qag (fun d w'=>d = !(J&&decide (rightV n k v))/\Own [] w w' [(ac,.cells (ndV x) ND (0,0)),(r1,.cells (ndV zeroX) ND (0,0))]/\NodeB (List.range ag.heap.size++B) w' x n B) ?_ ?_
 ·refine qaa (fun A=>?_) (fun A=>?_)
  ·have A:J=false:=by simpa using A
   exact ⟨by rw [A]; rfl,h,hN⟩
  ·have A:J=true:=by simpa using A
   obtain ⟨q1,q2,q3⟩:=aB A
   refine Own.ldA h 0 rfl x rfl ?_
   have aN:NodeR [] aM x n:=hN.rd (fun _ _ h=>(nomatch h)) fun _ h=>nomatch h
   refine qm0 (x:=x) aN q1 q2 q3 fun a5 aC=>?_
   exact ⟨by rw [A,Bool.true_and],h.frame0 aC,hN.frame0 aC⟩
 rintro d a6 ⟨rfl,h,hN⟩
 have E:readNV kind b k v=if (J&&decide (rightV n k v))=true then (n,0) else (zeroN,2):=by
  by_cases k3:kind=3
  ·subst k3
   rw [qqE R]
   have e:J=decide ((b.drop 2).length=countV b*(k+v)):=by rw [V]; exact decide_eq_decide.2 ⟨fun h=>h.elim (·.2) fun h=>absurd h.1 (by decide),fun h=>.inl ⟨rfl,h⟩⟩
   by_cases C:J=true
   ·have aa:=hn C
    rw [if_pos rfl] at aa
    rw [aa,C,Bool.true_and]
    have hl:(b.drop 2).length=countV b*(k+v):=zC (e▸C)
    by_cases hr:rightV (leafN k v b) k v
    ·rw [if_pos ⟨hl,hr⟩,if_pos (zZ hr)]
    ·rw [if_neg fun h=>hr h.2,if_neg (by rw [zU hr]; decide)]
   ·have ab:J=false:=by simpa using C
    rw [ab,Bool.false_and,if_neg (show ¬ (false=true) by decide)]
    have hl:¬ (b.drop 2).length=countV b*(k+v):=zB (e▸ab)
    rw [if_neg fun h=>hl h.1]
  by_cases k4:kind=4
  ·subst k4
   rw [qpR R]
   have e:J=decide (1<=countV b/\(b.drop 2).length=countV b*4+(countV b-1)*k):=by rw [V]; exact decide_eq_decide.2 ⟨fun h=>h.elim (fun h=>absurd h.1 (by decide)) (·.2),fun h=>.inr ⟨rfl,h⟩⟩
   by_cases C:J=true
   ·have aa:=hn C
    rw [if_neg k3] at aa
    rw [aa,C,Bool.true_and]
    have hl:=zC (e▸C)
    by_cases hr:rightV (innerN k b) k v
    ·rw [if_pos ⟨hl,hr⟩,if_pos (zZ hr)]
    ·rw [if_neg fun h=>hr h.2,if_neg (by rw [zU hr]; decide)]
   ·have ab:J=false:=by simpa using C
    rw [ab,Bool.false_and,if_neg (show ¬ (false=true) by decide)]
    have hl:=zB (e▸ab)
    rw [if_neg fun h=>hl h.1]
  ·rw [qrj k3 k4]
   have C:J=false:=by
    rw [V,zU]
    rintro (h | h)
    ·exact k3 h.1
    ·exact k4 h.1
   rw [C,Bool.false_and,if_neg (show ¬ (false=true) by decide)]
 have aO:∀ c∈B,c∉[r1]:=fun c u hm=>by have:=I c u; rw [zE.1 hm] at this; omega
 refine qaa (fun A=>?_) (fun A=>?_)
 ·refine ar ?_ (h.sub (sublist_cons_self _ _))
  rw [E,if_neg (by rw [zT] at A; rw [A]; decide)]
 ·rw [yD] at A
  refine Own.ldA h 0 rfl x rfl ?_
  refine Own.sz h 1 rfl (ndV x) fun aP aD aQ=>?_
  refine Own.ldA aD 1 rfl x rfl ?_
  rw [if_pos A] at E
  have:=kk x B aP (by
   rw [E]
   exact (hN.frame aQ aO (fun c u=>.inl (by rw [zE.1 u]; simp [ay])) (fun c u=>.inl u)).weak fun c u=>.inl (by
    rcases zD.1 u with u | u
    ·exact zH _ (mem_range.2 (yC (mem_range.1 u) az))
    ·exact zI _ u)) aD.fr (fun c u=>zL az (I c u))
  rw [E] at this
  exact this
end
end
end Go.Proofs.YtmmkegapckbomaaGreatDoor
end
section
namespace Go.Proofs.YtmmkegapckbomaaGreatDoor
open Go Go.Pt List
open Classical
section
variable {D:DiskM} {M M':PgM} {k v:Nat}
theorem Step.part {M1:PgM} {a x b y:List Int} (A:∀ z∈a++(x++b),InUse M z) (C:(a++(x++b)).Nodup) (h:Step D M M1 x y):Step D M M1 (a++(x++b)) (a++(y++b)):=by
 have u:(a++(x++b)).Perm ((a++b)++x):=qfV (z:=a)
 exact ((h.beside (Z:=a++b) (fun z E=>A z (u.mem_iff.2 (zH _ E))) (u.nodup_iff.1 C)).perm u.symm (qfV (z:=a)).symm)
theorem Step.kid {M1 u:PgM} {p:Int} {R h Q:List Int} (A:∀ z∈p::R,InUse M z) (C:(p::R).Nodup) (E:Step D M M1 R h) (G:Step D M1 u [p] Q):Step D M u (p::R) (Q++h):=by
 have:=Step.node (D:=D) (p:=p) (a:=[]) (b:=[]) (x:=R) (y:=h) (Q:=Q) (by simpa using A) (by simpa using C) E G
 simpa using this
theorem qhO {A B:List Ent} {e1 h:Ent}:((A++e1::h::B).map (·.1)).tail.getD A.length []=h.1:=by
 cases A with
 | nil=>rfl
 | cons a A=>simp
theorem qdP {A B:List Ent} {e1 h:Ent}:((A++e1::h::B).map (·.2.page)).getD A.length 0=e1.2.page/\((A++e1::h::B).map (·.2.page)).getD (A.length+1) 0=h.2.page:=by
 constructor
 ·simp
 ·simp
theorem qtw {A B:List Ent} {e1 h:Ent} {s1 s2:Seg} {m:Key}:(⟨false,((A++e1::h::B).map (·.1)).tail.set A.length m,[],(((A++e1::h::B).map (·.2.page)).set A.length s1.page).set (A.length+1) s2.page⟩:NodeM)=inOf (A++(e1.1,s1)::(m,s2)::B):=by
 unfold inOf
 congr 1
 ·cases A with
  | nil=>rfl
  | cons a A=>simp [set_append_right]
 ·simp [set_append_right]
theorem qtA {A B:List Ent} {e1 C:Ent} {s:Seg}:(⟨false,delAt ((A++e1::C::B).map (·.1)).tail A.length,[],delAt (((A++e1::C::B).map (·.2.page)).set A.length s.page) (A.length+1)⟩:NodeM)=inOf (A++(e1.1,s)::B):=by
 have G:(A.map (·.2.page)).length=A.length:=zK _
 unfold inOf delAt
 congr 1
 ·cases A with
  | nil=>rfl
  | cons a A=>
   have u:((a::A++e1::C::B).map (·.1)).tail=(A.map (·.1)++[e1.1])++(C.1::B.map (·.1)):=by simp
   have E:((a::A++(e1.1,s)::B).map (·.1)).tail=(A.map (·.1)++[e1.1])++B.map (·.1):=by simp
   have h:(A.map (·.1)++[e1.1]).length=(a::A).length:=by simp
   rw [u,E,take_left' h,<- h,drop_length_add_append]
   rfl
 ·have u:((A++e1::C::B).map (·.2.page)).set A.length s.page=(A.map (·.2.page)++[s.page])++(C.2.page::B.map (·.2.page)):=by
   rw [xM,set_append_right _ _ (by omega),G,Nat.sub_self]
   simp
  have h:(A.map (·.2.page)++[s.page]).length=A.length+1:=by simp
  rw [u,take_left' h,<- h,drop_length_add_append]
  simp
theorem qtG {A B:List Ent} {e:Ent} {s:Seg}:(⟨false,((A++e::B).map (·.1)).tail,[],((A++e::B).map (·.2.page)).set A.length s.page⟩:NodeM)=inOf (A++(e.1,s)::B):=by
 have h:(A.map (·.2.page)).length=A.length:=zK _
 unfold inOf
 congr 1
 ·cases A with
  | nil=>rfl
  | cons a A=>simp
 ·rw [xM,set_append_right _ _ (by omega),h,Nat.sub_self]
  simp
structure Nbrs (D:DiskM) (M:PgM) (k v:Nat) (h:Nat) (A B:List Ent) (e1 e2:Ent) (Nl Nr:NodeM) (n1 n2:Nat) (L1 L2:Prs) (R1 R2:List Int):Prop where
 wf:M.Wf
 over:M.over=false
 head:((A++e1::e2::B).map (·.1)).head?=some []
 keys:KeysOk k (A++e1::e2::B)
 sep:SepE (A++(e1.1,⟨0,0,L1,[]⟩)::(e2.1,⟨0,0,L2,[]⟩)::B)
 len:A.length+B.length+2<=(capsV k v).2
 rest:∀ b,b∈A\/b∈B->Has D M k v h b.2/\minOf k v h<=b.2.size
 left:HasN D M k v h Nl n1 L1 R1
 right:HasN D M k v h Nr n2 L2 R2
 use:∀ x∈A.flatMap (·.2.pages)++(((e1.2.page::R1)++(e2.2.page::R2))++B.flatMap (·.2.pages)),InUse M x
 nodup:(A.flatMap (·.2.pages)++(((e1.2.page::R1)++(e2.2.page::R2))++B.flatMap (·.2.pages))).Nodup
theorem Nbrs.mids {h:Nat} {A B:List Ent} {e1 u:Ent} {C E:NodeM} {n1 n2:Nat} {L1 L2:Prs} {G I:List Int} (H:Nbrs D M k v h A B e1 u C E n1 n2 L1 L2 G I):(∀ x∈L1,KLt x.1 u.1)/\(∀ y∈L2,KLe u.1 y.1)/\u.1.length=k/\IsB u.1:=by
 have J:=pairwise_append.1 H.sep.pair
 have K:=yI.1 J.2.1
 have O:=H.keys u (by cases A <;> simp)
 exact ⟨(K.1 (u.1,⟨0,0,L2,[]⟩) (by simp)).2,H.sep.low (u.1,⟨0,0,L2,[]⟩) (by simp),O⟩
theorem qoQ (hc:CapsOk k v) {h:Nat} {A B:List Ent} {e1 E:Ent} {Nl Nr:NodeM} {n1 n2:Nat} {L1 L2:Prs} {R1 R2:List Int} (H:Nbrs D M k v h A B e1 E Nl Nr n1 n2 L1 L2 R1 R2) {r:NodeM×NodeM×Key} (hr:TwoOk D M k v h r (L1++L2) (R1++R2)) (hf:2<=M.free.length) :
  ∃ N M' R,bothM k v M (inOf (A++e1::E::B)) A.length r=((N,0),M')/\HasN D M' k v (h+1) N (A.length+B.length+2) (A.flatMap (·.2.prs)++((L1++L2)++B.flatMap (·.2.prs))) R/\
   Step D M M' (A.flatMap (·.2.pages)++(((e1.2.page::R1)++(E.2.page::R2))++B.flatMap (·.2.pages))) R/\M.free.length<=M'.free.length+2:=by
 obtain ⟨m1,K1,I,m2,K2,J,aI,aJ,eL,eR,aK,aL,aM,aN,aO,aP,aw,ax⟩:=hr.res
 have bb:=hc.min h
 have aa:=H.use
 have an:=H.nodup
 have pm:(((e1.2.page::R1)++(E.2.page::R2))).Perm (e1.2.page::E.2.page::(R1++R2)):=by
  rw [xI]
  exact (perm_middle).cons _
 rw [<- eR] at pm
 have Q:∀ x,x∈e1.2.page::E.2.page::(I++J)->x∈A.flatMap (·.2.pages)++(((e1.2.page::R1)++(E.2.page::R2))++B.flatMap (·.2.pages)):=fun x C=>zI _ (zH _ (pm.mem_iff.2 C))
 have ag:(e1.2.page::E.2.page::(I++J)).Nodup:=pm.nodup_iff.1 (yL.1 (yL.1 an).2.1).1
 have U:=nodup_cons.1 ag
 have ah:=nodup_cons.1 U.2
 have aQ:=aa _ (Q e1.2.page (by simp))
 have az:=aa _ (Q E.2.page (by simp))
 obtain ⟨G,M1,s1,ab,H1,bd⟩:=aI.store H.wf H.over (by omega) aQ (fun hm=>U.1 (zN _ (zH _ hm))) (by omega)
 have K:∀ x,InUse M x->x≠e1.2.page->pagerReadM D M1 x=pagerReadM D M x/\InUse M1 x/\x≠G:=fun x C ao=>by
  have:=ab.rest x C (by simpa using ao)
  exact ⟨this.1,this.2.1,by simpa using this.2.2⟩
 have ac:E.2.page≠e1.2.page:=fun e=>U.1 (by rw [e]; simp)
 have aS:HasN D M1 k v h r.2.1 m2 K2 J:=aJ.frame fun x C=>(K x (aa x (Q x (by simp [C]))) (fun e=>U.1 (by rw [<- e]; simp [C]))).1
 obtain ⟨O,M2,s2,aA,H2,bh⟩:=aS.store ab.wf ab.over (by omega) (K _ az ac).2.1 (fun hm=>ah.1 (zI _ hm)) (by omega)
 have ad:∀ x,InUse M1 x->x≠E.2.page->pagerReadM D M2 x=pagerReadM D M1 x/\InUse M2 x/\x≠O:=fun x C ao=>by
  have:=aA.rest x C (by simpa using ao)
  exact ⟨this.1,this.2.1,by simpa using this.2.2⟩
 have ai:∀ x∈G::I,InUse M1 x/\x≠E.2.page:=fun x C=>by
  refine ⟨H1.used ab.over x C,fun e=>?_⟩
  rcases zG.1 C with e' | C
  ·rcases ab.new G (by simp) with V | V
   ·exact ac (by rw [<- e,e',zE.1 V])
   ·exact V (by rw [<- e',e]; exact az)
  ·exact ah.1 (zH _ (e▸C))
 have aT:Has D M2 k v h ⟨G,m1,K1,G::I⟩:=H1.frame fun x C=>(ad x (ai x C).1 (ai x C).2).1
 have aU:∀ b,b∈A\/b∈B->∀ x∈b.2.pages,InUse M x/\x≠e1.2.page/\x≠E.2.page:=fun b u x C=>by
  have hd:=yL.1 an
  have aV:=yL.1 hd.2.1
  have aB:∀ z,z=e1.2.page\/z=E.2.page->z∈(e1.2.page::R1)++(E.2.page::R2):=fun z hz=>pm.mem_iff.2 (by rcases hz with rfl | rfl <;> simp)
  have key:∀ z,z=e1.2.page\/z=E.2.page->x≠z:=fun z hz e=>by
   rcases u with u | u
   ·exact hd.2.2 x (yJ.2 ⟨b,u,C⟩) z (zH _ (aB z hz)) e
   ·exact aV.2.2 z (aB z hz) x (yJ.2 ⟨b,u,C⟩) e.symm
  refine ⟨aa x ?_,key _ (.inl rfl),key _ (.inr rfl)⟩
  rcases u with u | u
  ·exact zH _ (yJ.2 ⟨b,u,C⟩)
  ·exact zI _ (zI _ (yJ.2 ⟨b,u,C⟩))
 have ae:∀ b,b∈A\/b∈B->Has D M2 k v h b.2/\minOf k v h<=b.2.size:=fun b u=>⟨(H.rest b u).1.frame fun x C=>by
  have V:=aU b u x C
  have h8:=K x V.1 V.2.1
  exact ((ad x h8.2.1 V.2.2).1).trans h8.1,(H.rest b u).2⟩
 have hL:K1++K2=L1++L2:=eL
 have aC:SepE (A++(e1.1,(⟨G,m1,K1,G::I⟩:Seg))::(r.2.2,⟨O,m2,K2,O::J⟩)::B):=by
  have hS:=H.sep
  have hp:=pairwise_append.1 hS.pair
  have af:=yI.1 hp.2.1
  have aE:=yI.1 af.2
  have hj:SepE (A++(e1.1,(⟨0,0,L1++L2,[]⟩:Seg))::B):=by
   refine ⟨pairwise_append.2 ⟨hp.1,yI.2 ⟨fun b u=>⟨(af.1 b (by simp [u])).1,fun x C=>?_⟩,aE.2⟩,fun a ha b u=>?_⟩,fun b u x C=>?_⟩
   ·rcases zD.1 C with C | C
    ·exact (af.1 b (by simp [u])).2 x C
    ·exact (aE.1 b u).2 x C
   ·rcases zG.1 u with rfl | u
    ·exact hp.2.2 a ha (e1.1,⟨0,0,L1,[]⟩) (by simp)
    ·exact hp.2.2 a ha b (by simp [u])
   ·rcases zD.1 u with u | u
    ·exact hS.low b (by simp [u]) x C
    rcases zG.1 u with rfl | u
    ·rcases zD.1 C with C | C
     ·exact hS.low (e1.1,⟨0,0,L1,[]⟩) (by simp) x C
     ·have V:=hS.low (E.1,⟨0,0,L2,[]⟩) (by simp) x C
      exact qcb (qaS (af.1 (E.1,⟨0,0,L2,[]⟩) (by simp)).1) V
    ·exact hS.low b (by simp [u]) x C
  exact hj.cut2 hL.symm aK aL aw ax
 have ap:KeysOk k (A++(e1.1,(⟨G,m1,K1,G::I⟩:Seg))::(r.2.2,⟨O,m2,K2,O::J⟩)::B):=by
  have V:KeysOk k (A++e1::B):=fun b u=>H.keys b (by
   cases A with
   | nil=>exact zN _ u
   | cons a A=>
    rcases zD.1 (show b∈A++e1::B from u) with u | u
    ·exact zH (e1::E::B) u
    ·exact zI A ((zG.1 u).elim (fun e=>by rw [e]; simp) fun u=>by simp [u]))
  exact qnT V ⟨aM,aN⟩
 have aq:((A++(e1.1,(⟨G,m1,K1,G::I⟩:Seg))::(r.2.2,⟨O,m2,K2,O::J⟩)::B).map (·.1)).head?=some []:=by
  have V:=H.head
  cases A with
  | nil=>exact V
  | cons a A=>exact V
 refine ⟨inOf (A++(e1.1,(⟨G,m1,K1,G::I⟩:Seg))::(r.2.2,⟨O,m2,K2,O::J⟩)::B),M2,_,?_,⟨_,aq,rfl,by simp; omega,?_,rfl,ap,aC,H.len,fun b u=>?_⟩,?_,by omega⟩
 ·have aW:(inOf (A++e1::E::B)).kids.getD A.length 0=e1.2.page:=qdP.1
  have aX:(inOf (A++e1::E::B)).kids.getD (A.length+1) 0=E.2.page:=qdP.2
  unfold bothM
  rw [aW,aX,s1]
  dsimp only
  rw [if_neg (fun h=>h rfl),s2]
  exact congrArg (fun N=>((N,(0:Int)),M2)) (qtw (s1:=⟨G,m1,K1,G::I⟩) (s2:=⟨O,m2,K2,O::J⟩))
 ·rw [qaD,yG,<- hL,zV]
 ·rcases zD.1 u with u | u
  ·exact ae b (.inl u)
  rcases zG.1 u with rfl | u
  ·exact ⟨aT,aO⟩
  rcases zG.1 u with rfl | u
  ·exact ⟨H2,aP⟩
  ·exact ae b (.inr u)
 ·have t1:Step D M M1 (e1.2.page::E.2.page::(I++J)) ([G]++E.2.page::(I++J)):=by
   have:=ab.beside (Z:=E.2.page::(I++J)) (fun x C=>aa x (Q x (zN _ C))) (by
    have p9:(e1.2.page::E.2.page::(I++J)).Perm ((E.2.page::(I++J))++[e1.2.page]):=(perm_append_singleton _ _).symm
    exact p9.nodup_iff.1 ag)
   exact this.perm (perm_append_singleton _ _) perm_append_comm
  have aF:∀ x∈[G]++(I++J),InUse M1 x:=fun x C=>t1.has x (by
   rcases zD.1 C with C | C
   ·exact zH _ C
   ·exact zI _ (zN _ C))
  have p8:([G]++E.2.page::(I++J)).Perm (([G]++(I++J))++[E.2.page]):=by
   refine perm_middle.trans ?_
   exact (perm_append_singleton _ _).symm
  have t2:=aA.beside (Z:=[G]++(I++J)) aF (p8.nodup_iff.1 t1.nodup)
  have t3:=(t1.perm (.refl _) p8).trans t2
  have p7:(([G]++(I++J))++[O]).Perm ((G::I)++(O::J)):=by
   show (G::((I++J)++[O])).Perm (G::(I++O::J))
   refine List.Perm.cons _ ((perm_append_singleton _ _).trans ?_)
   exact perm_middle.symm
  have t4:=Step.part (D:=D) (a:=A.flatMap (·.2.pages)) (b:=B.flatMap (·.2.pages)) aa an (t3.perm pm.symm p7)
  rw [qaD,yG]
  refine t4.perm (.refl _) ?_
  rw [zV]
end
section
section
variable {D:DiskM} {M M':PgM} {k v:Nat}
theorem qlX {n:Int} (C:M.Wf) (E:M.over=false) (G:InUse M n):∃ M',dropV M n=(0,M')/\Step D M M' [n] []/\M.free.length<=M'.free.length:=by
 obtain ⟨M',e,t,I,J,K⟩:=qi6 (D:=D) (q:=n+1) C E G (by omega)
 have A:∀ x,x≠n->pagerReadM D M' x=pagerReadM D M x/\(InUse M' x↔InUse M x):=fun x u=>by
  by_cases hq':x=n+1
  ·rw [hq']; exact ⟨I,J⟩
  ·exact ⟨t.rest x hq' u,t.use x hq' u⟩
 refine ⟨M',e,⟨t.wf,t.over,t.roots,t.sup,t.lists,t.named,t.Named,t.turn,fun x u h=>?_,fun x u=>?_,fun x u=>(nomatch u),fun x u=>(nomatch u),.nil,t.old⟩,K⟩
 ·have h:x≠n:=by simpa using h
  exact ⟨(A x h).1,(A x h).2.2 u,by simp⟩
 ·by_cases h:x=n
  ·subst h; exact absurd u (t.left (by omega))
  ·exact .inr ⟨(A x h).2.1 u,by simpa using h⟩
theorem qmc (hc:CapsOk k v) {h:Nat} {A B:List Ent} {e1 E:Ent} {Nl Nr:NodeM} {n1 n2:Nat} {L1 L2:Prs} {G I:List Int} (H:Nbrs D M k v h A B e1 E Nl Nr n1 n2 L1 L2 G I) (h1:n1+n2<=(if h=0 then (capsV k v).1 else (capsV k v).2)) (h2:minOf k v h<=n1+n2) (hf:1<=M.free.length) :
  ∃ N M' R,joinM k v M (inOf (A++e1::E::B)) A.length Nl Nr=((N,0),M')/\HasN D M' k v (h+1) N (A.length+B.length+1) (A.flatMap (·.2.prs)++((L1++L2)++B.flatMap (·.2.prs))) R/\
   Step D M M' (A.flatMap (·.2.pages)++(((e1.2.page::G)++(E.2.page::I))++B.flatMap (·.2.pages))) R/\M.free.length<=M'.free.length+1:=by
 obtain ⟨aw,ax,ay,az⟩:=H.mids
 have hJ:=qtt H.left H.right h1 aw ax ⟨ay,az⟩
 have aW:=hc.min h
 have K:=H.use
 have af:=H.nodup
 have pm:(((e1.2.page::G)++(E.2.page::I))).Perm (e1.2.page::E.2.page::(G++I)):=by
  rw [xI]
  exact (perm_middle).cons _
 have O:∀ x,x∈e1.2.page::E.2.page::(G++I)->x∈A.flatMap (·.2.pages)++(((e1.2.page::G)++(E.2.page::I))++B.flatMap (·.2.pages)):=fun x C=>zI _ (zH _ (pm.mem_iff.2 C))
 have ae:(e1.2.page::E.2.page::(G++I)).Nodup:=pm.nodup_iff.1 (yL.1 (yL.1 af).2.1).1
 have Q:=nodup_cons.1 ae
 have ak:=nodup_cons.1 Q.2
 have aA:=K _ (O e1.2.page (by simp))
 have al:=K _ (O E.2.page (by simp))
 obtain ⟨q,M1,s1,U,H1,aY⟩:=hJ.store H.wf H.over (by omega) aA (fun hm=>Q.1 (zN _ hm)) hf
 have V:E.2.page≠e1.2.page:=fun e=>Q.1 (by rw [e]; simp)
 have J:∀ x,InUse M x->x≠e1.2.page->pagerReadM D M1 x=pagerReadM D M x/\InUse M1 x/\x≠q:=fun x C ag=>by
  have:=U.rest x C (by simpa using ag)
  exact ⟨this.1,this.2.1,by simpa using this.2.2⟩
 obtain ⟨M2,s2,am,a1⟩:=qlX (D:=D) U.wf U.over (J _ al V).2.1
 have aa:∀ x,InUse M1 x->x≠E.2.page->pagerReadM D M2 x=pagerReadM D M1 x/\InUse M2 x:=fun x C ag=>by
  have:=am.rest x C (by simpa using ag)
  exact ⟨this.1,this.2.1⟩
 have aB:Has D M2 k v h ⟨q,n1+n2,L1++L2,q::(G++I)⟩:=H1.frame fun x C=>(aa x (H1.used U.over x C) (fun e=>by
  rcases zG.1 C with e' | C
  ·exact (J _ al V).2.2 (by rw [<- e,e'])
  ·exact ak.1 (e▸C))).1
 have aC:∀ b,b∈A\/b∈B->∀ x∈b.2.pages,InUse M x/\x≠e1.2.page/\x≠E.2.page:=fun b u x C=>by
  have hd:=yL.1 af
  have aD:=yL.1 hd.2.1
  have an:∀ z,z=e1.2.page\/z=E.2.page->z∈(e1.2.page::G)++(E.2.page::I):=fun z hz=>pm.mem_iff.2 (by rcases hz with rfl | rfl <;> simp)
  have key:∀ z,z=e1.2.page\/z=E.2.page->x≠z:=fun z hz e=>by
   rcases u with u | u
   ·exact hd.2.2 x (yJ.2 ⟨b,u,C⟩) z (zH _ (an z hz)) e
   ·exact aD.2.2 z (an z hz) x (yJ.2 ⟨b,u,C⟩) e.symm
  refine ⟨K x ?_,key _ (.inl rfl),key _ (.inr rfl)⟩
  rcases u with u | u
  ·exact zH _ (yJ.2 ⟨b,u,C⟩)
  ·exact zI _ (zI _ (yJ.2 ⟨b,u,C⟩))
 have ab:∀ b,b∈A\/b∈B->Has D M2 k v h b.2/\minOf k v h<=b.2.size:=fun b u=>⟨(H.rest b u).1.frame fun x C=>by
  have h9:=aC b u x C
  have h8:=J x h9.1 h9.2.1
  exact ((aa x h8.2.1 h9.2.2).1).trans h8.1,(H.rest b u).2⟩
 have hS:=H.sep
 have hp:=pairwise_append.1 hS.pair
 have ad:=yI.1 hp.2.1
 have ap:=yI.1 ad.2
 have aq:SepE (A++(e1.1,(⟨q,n1+n2,L1++L2,q::(G++I)⟩:Seg))::B):=by
  refine ⟨pairwise_append.2 ⟨hp.1,yI.2 ⟨fun b u=>⟨(ad.1 b (by simp [u])).1,fun x C=>?_⟩,ap.2⟩,fun a ha b u=>?_⟩,fun b u x C=>?_⟩
  ·rcases zD.1 C with C | C
   ·exact (ad.1 b (by simp [u])).2 x C
   ·exact (ap.1 b u).2 x C
  ·rcases zG.1 u with rfl | u
   ·exact hp.2.2 a ha (e1.1,⟨0,0,L1,[]⟩) (by simp)
   ·exact hp.2.2 a ha b (by simp [u])
  ·rcases zD.1 u with u | u
   ·exact hS.low b (by simp [u]) x C
   rcases zG.1 u with rfl | u
   ·rcases zD.1 C with C | C
    ·exact hS.low (e1.1,⟨0,0,L1,[]⟩) (by simp) x C
    ·have h9:=hS.low (E.1,⟨0,0,L2,[]⟩) (by simp) x C
     exact qcb (qaS (ad.1 (E.1,⟨0,0,L2,[]⟩) (by simp)).1) h9
   ·exact hS.low b (by simp [u]) x C
 have ah:KeysOk k (A++(e1.1,(⟨q,n1+n2,L1++L2,q::(G++I)⟩:Seg))::B):=by
  have h9:KeysOk k (A++e1::B):=fun b u=>H.keys b (by
   cases A with
   | nil=>exact zN _ u
   | cons a A=>
    rcases zD.1 (show b∈A++e1::B from u) with u | u
    ·exact zH (e1::E::B) u
    ·exact zI A ((zG.1 u).elim (fun e=>by rw [e]; simp) fun u=>by simp [u]))
  exact qjA h9
 have ai:((A++(e1.1,(⟨q,n1+n2,L1++L2,q::(G++I)⟩:Seg))::B).map (·.1)).head?=some []:=by
  have h9:=H.head
  cases A with
  | nil=>exact h9
  | cons a A=>exact h9
 have aO:=H.len
 refine ⟨inOf (A++(e1.1,(⟨q,n1+n2,L1++L2,q::(G++I)⟩:Seg))::B),M2,_,?_,⟨_,ai,rfl,by simp; omega,by rw [qaD],rfl,ah,aq,by omega,fun b u=>?_⟩,?_,by omega⟩
 ·have aE:(inOf (A++e1::E::B)).kids.getD A.length 0=e1.2.page:=qdP.1
  have aF:(inOf (A++e1::E::B)).kids.getD (A.length+1) 0=E.2.page:=qdP.2
  have aG:(inOf (A++e1::E::B)).keys.getD A.length []=E.1:=qhO
  unfold joinM
  rw [aE,aF,aG,s1]
  dsimp only
  rw [if_neg (fun h=>h rfl),s2]
  dsimp only
  rw [if_neg (fun h=>h rfl)]
  exact congrArg (fun N=>((N,(0:Int)),M2)) (qtA (s:=⟨q,n1+n2,L1++L2,q::(G++I)⟩))
 ·rcases zD.1 u with u | u
  ·exact ab b (.inl u)
  rcases zG.1 u with rfl | u
  ·exact ⟨aB,h2⟩
  ·exact ab b (.inr u)
 ·have t1:Step D M M1 (e1.2.page::E.2.page::(G++I)) ([q]++E.2.page::(G++I)):=by
   have:=U.beside (Z:=E.2.page::(G++I)) (fun x C=>K x (O x (zN _ C))) (by
    have p9:(e1.2.page::E.2.page::(G++I)).Perm ((E.2.page::(G++I))++[e1.2.page]):=(perm_append_singleton _ _).symm
    exact p9.nodup_iff.1 ae)
   exact this.perm (perm_append_singleton _ _) perm_append_comm
  have p8:([q]++E.2.page::(G++I)).Perm (([q]++(G++I))++[E.2.page]):=by
   refine perm_middle.trans ?_
   exact (perm_append_singleton _ _).symm
  have t2:=am.beside (Z:=[q]++(G++I)) (fun x C=>t1.has x (by
   rcases zD.1 C with C | C
   ·exact zH _ C
   ·exact zI _ (zN _ C))) (p8.nodup_iff.1 t1.nodup)
  have t3:=(t1.perm (.refl _) p8).trans t2
  rw [xG] at t3
  have t4:=Step.part (D:=D) (a:=A.flatMap (·.2.pages)) (b:=B.flatMap (·.2.pages)) K af (t3.perm pm.symm (.refl _))
  rw [qaD]
  exact t4
theorem SepE.swap {A B:List Ent} {e:Ent} {s:Seg} (h:SepE (A++e::B)) (u:∀ x∈s.prs,x∈e.2.prs):SepE (A++(e.1,s)::B):=
 h.put (key:=e.1) qax (fun b C=>(h.mid.2 b C).1) fun x E=>.inr (u x E)
theorem qk4 (hc:CapsOk k v) {key:Key}:∀ (h:Nat) (M:PgM) (s:Seg),Has D M k v h s->M.Wf->M.over=false->s.pages.Nodup->key∈keysP s.prs->2*h<=M.free.length->
  ∃ N n M' R R',cutN D k v key (h+1) M s.page=((N,0),M')/\s.pages=s.page::R/\HasN D M' k v h N n (cutP key s.prs) R'/\Step D M M' R R'/\s.size<=n+1/\M.free.length<=M'.free.length+2*h
 | 0,M,s,hs,hW,ho,aJ,aj,hf=>by
  obtain ⟨N,R,hl,hN,hp,bO,_⟩:=hs.load
  have bP:=hN
  obtain ⟨rfl,hn,rfl,hL,aK,a'⟩:=hN
  have ak:=qj6 aK aj
  have hm:=(qbN aK).2 aj
  have hi:placeV (keysP s.prs) key<s.prs.length:=by
   have:=(zP.1 hm).1
   simpa using this
  have bF:(cutP key s.prs).length+1=s.prs.length:=by rw [ak,zF,yK,yB]; omega
  refine ⟨lfOf (cutP key s.prs),(cutP key s.prs).length,M,[],[],?_,hp,⟨rfl,rfl,rfl,fun x u=>hL x (qjw.1 u).1,qrD aK,by omega⟩,Step.refl hW ho (fun x u=>nomatch u) .nil,by omega,by omega⟩
  unfold cutN
  rw [hl]
  dsimp only
  rw [if_neg (fun h=>h rfl),if_pos (show (lfOf s.prs).leaf=true from rfl),if_pos (show (lfOf s.prs).keys[placeV (lfOf s.prs).keys key]?=some key from hm)]
  refine congrArg (fun N=>((N,(0:Int)),M)) ?_
  rw [ak]
  unfold lfOf delAt
  simp only [xM,xO,xP]
 | h+1,M,⟨p,n,L,P⟩,⟨es,h0,h1,h2,h3,h4,h5,h6,h7⟩,hW,ho,aJ,aj,hf=>by
  dsimp only at h1 h2 h3 h5 aJ aj
  subst h1 h2 h3
  have hl:loadN D M k v p=(inOf es,0):=h4.load h5
  have al:=h4.right.innerTwo
  obtain ⟨A,e,B,U,hA,bq,br,aM⟩:=qbB (key:=key) h0 h6
  have aN:(inOf es).kids.getD (kidV (inOf es).keys key) 0=e.2.page:=aM
  have bs:kidV (inOf es).keys key=A.length:=hA.symm
  have bt:e∈es:=by rw [U]; simp
  obtain ⟨bu,bv⟩:=h7 e bt
  have ag:es.flatMap (·.2.pages)=A.flatMap (·.2.pages)++(e.2.pages++B.flatMap (·.2.pages)):=by rw [U,qaD]
  have ar:es.flatMap (·.2.prs)=A.flatMap (·.2.prs)++(e.2.prs++B.flatMap (·.2.prs)):=by rw [U,qaD]
  have aw:∀ z∈A.flatMap (·.2.pages)++(e.2.pages++B.flatMap (·.2.pages)),InUse M z:=fun z hz=>by
   rw [<- ag] at hz
   obtain ⟨b,E,hz⟩:=yJ.1 hz
   exact (h7 b E).1.used ho z hz
  have af:(A.flatMap (·.2.pages)++(e.2.pages++B.flatMap (·.2.pages))).Nodup:=by rw [<- ag]; exact (nodup_cons.1 aJ).2
  have am:e.2.pages.Nodup:=(yL.1 (yL.1 af).2.1).1
  have au:=h6
  rw [U] at au
  have ax:=au.mid
  have bb:∀ x∈A.flatMap (·.2.prs),KLt x.1 key:=fun x u=>by
   obtain ⟨a,ha,u⟩:=yJ.1 u
   exact qa5 (ax.1 a ha x u) bq
  have bc:∀ x∈B.flatMap (·.2.prs),KLt key x.1:=fun x u=>by
   obtain ⟨b,E,u⟩:=yJ.1 u
   exact qa5 (br b E) ((ax.2 b E).2.2 x u)
  have ak:cutP key (es.flatMap (·.2.prs))=A.flatMap (·.2.prs)++(cutP key e.2.prs++B.flatMap (·.2.prs)):=by
   rw [ar,qkP bb,qjb bc]
  have aO:key∈keysP e.2.prs:=by
   obtain ⟨x,u,rfl⟩:=mem_map.1 aj
   rw [ar] at u
   rcases zD.1 u with u | u
   ·exact absurd (bb x u) qax
   rcases zD.1 u with u | u
   ·exact zY u
   ·exact absurd (bc x u) qax
  obtain ⟨N1,n1,M1,Re,J,ec,aP,an,st,bU,bV⟩:=qk4 hc h M e.2 bu hW ho am aO (by omega)
  rw [aP] at aw af am
  have V:=KeysOk.of h4
  have aH:e.2.page∉Re:=(nodup_cons.1 am).1
  have aQ:InUse M e.2.page:=aw _ (by simp)
  have bx:Step D M M1 (e.2.page::Re) (e.2.page::J):=st.beside (Z:=[e.2.page]) (fun x u=>by rw [zE.1 u]; exact aQ) (by simpa using am)
  have aR:=Step.part aw af bx
  have bd:InUse M1 e.2.page:=(st.rest _ aQ aH).2.1
  have aS:e.2.page∉J:=(st.rest _ aQ aH).2.2
  have G:∀ b,b∈A\/b∈B->Has D M1 k v h b.2/\minOf k v h<=b.2.size:=fun b E=>by
   have aT:b∈es:=by rw [U]; rcases E with E | E <;> simp [E]
   refine ⟨(h7 b aT).1.frame fun x u=>?_,(h7 b aT).2⟩
   have hd:=yL.1 af
   refine (st.rest x ((h7 b aT).1.used ho x u) fun hm=>?_).1
   rcases E with E | E
   ·exact hd.2.2 x (yJ.2 ⟨b,E,u⟩) x (zH _ (zN _ hm)) rfl
   ·exact (yL.1 hd.2.1).2.2 x (zN _ hm) x (yJ.2 ⟨b,E,u⟩) rfl
  have a':n1<=(if h=0 then (capsV k v).1 else (capsV k v).2):=by
   cases h with
   | zero=>exact an.2.2.2.2.2
   | succ h=>obtain ⟨_,_,_,_,_,_,_,_,h9,_⟩:=an; exact h9
  have bW:=hc.min h
  have ap:minOf k v h=(if h=0 then (capsV k v).1 else (capsV k v).2) / 2:=by unfold minOf; split <;> rfl
  have ay:SepE (A++(e.1,(⟨0,0,cutP key e.2.prs,[]⟩:Seg))::B):=au.swap fun x u=>(qjw.1 u).1
  have C:es.length=A.length+B.length+1:=by rw [U]; simp; omega
  have aC:∀ {N:NodeM} {M2:PgM} {n R':_},HasN D M2 k v (h+1) N n (A.flatMap (·.2.prs)++(cutP key e.2.prs++B.flatMap (·.2.prs))) R'->HasN D M2 k v (h+1) N n (cutP key (es.flatMap (·.2.prs))) R':=fun h9=>by rw [ak]; exact h9
  have av:∀ {M2:PgM} {R':List Int},Step D M1 M2 (A.flatMap (·.2.pages)++((e.2.page::J)++B.flatMap (·.2.pages))) R'->Step D M M2 (es.flatMap (·.2.pages)) R':=fun h9=>by
   rw [ag,aP]
   exact aR.trans h9
  have aI:lowN N1 k v↔n1<minOf k v h:=by
   unfold lowN
   rw [an.size,ap]
  unfold cutN
  rw [hl]
  dsimp only
  rw [if_neg (fun h=>h rfl),if_neg (show ¬ (inOf es).leaf=true from fun e=>nomatch e),aN,ec]
  dsimp only
  rw [if_neg (fun h=>h rfl),bs]
  by_cases hlw:lowN N1 k v
  ·rw [if_neg (fun h=>h hlw)]
   have bX:=aI.1 hlw
   have bg:n1+1=minOf k v h:=by omega
   by_cases hA0:A.length>0
   ·rw [if_pos hA0]
    obtain ⟨A',f,rfl⟩:∃ A' f,A=A'++[f]:=by
     have bh:A≠[]:=length_pos_iff.1 hA0
     exact ⟨A.dropLast,A.getLast bh,(vA bh).symm⟩
    have bz:(A'++[f]).length-1=A'.length:=by simp
    rw [bz]
    have az:=G f (.inl (by simp))
    obtain ⟨Ny,Ry,aV,aq,aW,_,_⟩:=az.1.load
    have I:es=A'++f::e::B:=by rw [U]; simp
    have bA:(A'++[f]).flatMap (·.2.pages)=A'.flatMap (·.2.pages)++f.2.pages:=by simp [yP]
    have bj:(A'++[f]).flatMap (·.2.prs)=A'.flatMap (·.2.prs)++f.2.prs:=by simp [yP]
    have aa:(A'++[f]).flatMap (·.2.pages)++((e.2.page::J)++B.flatMap (·.2.pages))=A'.flatMap (·.2.pages)++(((f.2.page::Ry)++(e.2.page::J))++B.flatMap (·.2.pages)):=by
     rw [bA,aW]; simp only [zV]
    have ao:(A'++[f]).flatMap (·.2.prs)++(cutP key e.2.prs++B.flatMap (·.2.prs))=A'.flatMap (·.2.prs)++((f.2.prs++cutP key e.2.prs)++B.flatMap (·.2.prs)):=by
     rw [bj]; simp only [zV]
    have aA:SepE (A'++(f.1,(⟨0,0,f.2.prs,[]⟩:Seg))::(e.1,⟨0,0,cutP key e.2.prs,[]⟩)::B):=by
     have h9:SepE (A'++f::((e.1,(⟨0,0,cutP key e.2.prs,[]⟩:Seg))::B)):=by simpa using ay
     exact h9.swap (s:=⟨0,0,f.2.prs,[]⟩) fun x u=>u
    have ab:=aR
    rw [aa] at ab
    have Hn:Nbrs D M1 k v h A' B f e Ny N1 f.2.size n1 f.2.prs (cutP key e.2.prs) Ry J:=
     ⟨st.wf,st.over,by rw [<- I]; exact h0,by rw [<- I]; exact V,aA,by have:=al.2; rw [C] at this; simp at this; omega,fun b E=>G b (E.imp (fun E=>by simp [E]) id),aq,an,ab.has,ab.nodup⟩
    have aY:(inOf es).kids.getD A'.length 0=f.2.page:=by rw [I]; exact qdP.1
    have K:spareN Ny k v↔minOf k v h<f.2.size:=by
     unfold spareN
     rw [aq.size,ap]
    unfold evenM
    rw [aY,aV]
    dsimp only
    rw [if_neg (fun h=>h rfl),if_pos (show A'.length<(A'++[f]).length by simp),I]
    by_cases hsq:spareN Ny k v
    ·rw [if_neg (fun h=>h hsq)]
     obtain ⟨aZ,a0,a1,a2⟩:=Hn.mids
     have a3:(inOf (A'++f::e::B)).keys.getD A'.length []=e.1:=qhO
     rw [a3]
     obtain ⟨N,M2,R,e2,ac,O,aE⟩:=qoQ hc Hn (qtj hc aq an (K.1 hsq) bg aZ a0 ⟨a1,a2⟩) (by omega)
     rw [<- ao] at ac
     rw [<- aa] at O
     rw [<- I]
     exact ⟨N,_,M2,_,R,by rw [I]; exact e2,rfl,aC ac,av O,by rw [C]; simp; omega,by omega⟩
    ·rw [if_pos hsq]
     have bB:f.2.size<=minOf k v h:=Nat.le_of_not_lt fun h9=>hsq (K.2 h9)
     have a4:=az.2
     obtain ⟨N,M2,R,e2,ac,O,aE⟩:=qmc hc Hn (by omega) (by omega) (by omega)
     rw [<- ao] at ac
     rw [<- aa] at O
     rw [<- I]
     exact ⟨N,_,M2,_,R,by rw [I]; exact e2,rfl,aC ac,av O,by rw [C]; simp; omega,by omega⟩
   ·rw [if_neg hA0]
    obtain rfl:A=[]:=eq_nil_of_length_eq_zero (by omega)
    obtain ⟨f,B',rfl⟩:∃ f B',B=f::B':=by
     cases B with
     | nil=>rw [C] at al; simp at al
     | cons f B'=>exact ⟨f,B',rfl⟩
    have az:=G f (.inr (by simp))
    obtain ⟨Ny,Ry,aV,aq,aW,_,_⟩:=az.1.load
    have I:es=[]++e::f::B':=U
    have aa:([]:List Ent).flatMap (·.2.pages)++((e.2.page::J)++(f::B').flatMap (·.2.pages))=([]:List Ent).flatMap (·.2.pages)++(((e.2.page::J)++(f.2.page::Ry))++B'.flatMap (·.2.pages)):=by
     rw [yG,aW]; simp only [zV]
    have ao:([]:List Ent).flatMap (·.2.prs)++(cutP key e.2.prs++(f::B').flatMap (·.2.prs))=([]:List Ent).flatMap (·.2.prs)++((cutP key e.2.prs++f.2.prs)++B'.flatMap (·.2.prs)):=by
     rw [yG]; simp only [zV]
    have aA:SepE ([]++(e.1,(⟨0,0,cutP key e.2.prs,[]⟩:Seg))::(f.1,⟨0,0,f.2.prs,[]⟩)::B'):=by
     have h9:SepE ([(e.1,(⟨0,0,cutP key e.2.prs,[]⟩:Seg))]++f::B'):=ay
     exact h9.swap (s:=⟨0,0,f.2.prs,[]⟩) fun x u=>u
    have ab:=aR
    rw [aa] at ab
    have Hn:Nbrs D M1 k v h [] B' e f N1 Ny n1 f.2.size (cutP key e.2.prs) f.2.prs J Ry:=
     ⟨st.wf,st.over,by rw [<- I]; exact h0,by rw [<- I]; exact V,aA,by have:=al.2; rw [C] at this; simp at this ⊢; omega,fun b E=>G b (E.imp id fun E=>by simp [E]),an,aq,ab.has,ab.nodup⟩
    have aY:(inOf es).kids.getD (([]:List Ent).length+1) 0=f.2.page:=by rw [I]; exact qdP.2
    have K:spareN Ny k v↔minOf k v h<f.2.size:=by
     unfold spareN
     rw [aq.size,ap]
    unfold evenM
    rw [aY,aV]
    dsimp only
    rw [if_neg (fun h=>h rfl),if_neg (show ¬ ([]:List Ent).length+1<([]:List Ent).length by simp),I]
    by_cases hsq:spareN Ny k v
    ·rw [if_neg (fun h=>h hsq)]
     obtain ⟨aZ,a0,a1,a2⟩:=Hn.mids
     have a3:(inOf ([]++e::f::B')).keys.getD ([]:List Ent).length []=f.1:=qhO (A:=[]) (B:=B') (e1:=e)
     rw [a3]
     obtain ⟨N,M2,R,e2,ac,O,aE⟩:=qoQ hc Hn (qtD hc an aq bg (K.1 hsq) aZ a0 ⟨a1,a2⟩) (by omega)
     rw [<- ao] at ac
     rw [<- aa] at O
     rw [<- I]
     exact ⟨N,_,M2,_,R,by rw [I]; exact e2,rfl,aC ac,av O,by rw [C]; simp,by omega⟩
    ·rw [if_pos hsq]
     have bB:f.2.size<=minOf k v h:=Nat.le_of_not_lt fun h9=>hsq (K.2 h9)
     have a4:=az.2
     obtain ⟨N,M2,R,e2,ac,O,aE⟩:=qmc hc Hn (by omega) (by omega) (by omega)
     rw [<- ao] at ac
     rw [<- aa] at O
     rw [<- I]
     exact ⟨N,_,M2,_,R,by rw [I]; exact e2,rfl,aC ac,av O,by rw [C]; simp,by omega⟩
  ·rw [if_pos hlw]
   have a4:minOf k v h<=n1:=Nat.le_of_not_lt fun h9=>hlw (aI.2 h9)
   obtain ⟨q,M2,e2,O,H2,aE⟩:=an.store st.wf st.over (by omega) bd aS (by omega)
   rw [e2]
   have bC:Step D M M2 (e.2.page::Re) (q::J):=Step.kid (Q:=[q]) (fun z hz=>aw z (zI _ (zH _ hz))) am st O
   have bD:=Step.part aw af bC
   have a5:SepE (A++(e.1,(⟨q,n1,cutP key e.2.prs,q::J⟩:Seg))::B):=au.swap fun x u=>(qjw.1 u).1
   have a6:((A++(e.1,(⟨q,n1,cutP key e.2.prs,q::J⟩:Seg))::B).map (·.1)).head?=some []:=by
    rw [U] at h0
    rw [xM,xN] at h0 ⊢
    exact h0
   refine ⟨inOf (A++(e.1,(⟨q,n1,cutP key e.2.prs,q::J⟩:Seg))::B),es.length,M2,_,A.flatMap (·.2.pages)++((q::J)++B.flatMap (·.2.pages)),?_,rfl,⟨_,a6,rfl,by rw [U]; simp,by rw [qaD,ak],by rw [qaD],qjA (by rw [<- U]; exact V),a5,al.2,fun b E=>?_⟩,by rw [ag,aP]; exact bD,by show es.length<=es.length+1; omega,by omega⟩
   ·rw [U]
    exact congrArg (fun N=>((N,(0:Int)),M2)) (qtG (s:=⟨q,n1,cutP key e.2.prs,q::J⟩))
   ·have bk:∀ b,b∈A\/b∈B->Has D M2 k v h b.2/\minOf k v h<=b.2.size:=fun b E=>by
     have h9:=G b E
     refine ⟨h9.1.frame fun x u=>(O.rest x (h9.1.used st.over x u) fun hm=>?_).1,h9.2⟩
     have hd:=yL.1 af
     have bl:=zE.1 hm
     rcases E with E | E
     ·exact hd.2.2 x (yJ.2 ⟨b,E,u⟩) x (by rw [bl]; simp) rfl
     ·exact (yL.1 hd.2.1).2.2 x (by rw [bl]; simp) x (yJ.2 ⟨b,E,u⟩) rfl
    rcases zD.1 E with E | E
    ·exact bk b (.inl E)
    rcases zG.1 E with rfl | E
    ·exact ⟨H2,a4⟩
    ·exact bk b (.inr E)
end
end
end Go.Proofs.YtmmkegapckbomaaGreatDoor
end
section
namespace Go.Proofs.YtmmkegapckbomaaGreatDoor
open Go Go.Pt List
theorem qh7 {cl:List Cell} {w:World} {b off:Nat} {cs:Array Value} {T:TypeId} {h:Nat×Nat} {K:HL cl->Prop} (u:w.heap[b]?=some (.cells cs T h)) (x:HL cl) (A:(cs.toList.drop off).take cl.length=HL.mk cl x) (k:K x):Pt.ldA cl ⟨b,off,none⟩ w K:=
 ⟨x,qbp u _ off 0 (by rw [HL.mk_length]; exact A),k⟩
attribute [local irreducible] ld ldA ldV fld fldA newZ st new idx idxS idxA slc slcS slcP mkS chk nn call callV inv run runQ runU join loop held ext rng undefer s2a nxt ent IntKind.wrap
theorem PgX.setRoots {w w':World} {X:List Nat} {pb:Nat} {db:Option Addr} {M:PgM} {fb defb mb:Nat} {sl sn:Sl} {F1 F2:List Nat} {A:List (Int×Leaf)} {roots:List Int} (h:PgX w X pb db M fb defb mb sl sn F1 F2 A) (C:roots.length=24)
  (E:w'.heap[pb]?=some (.cells (pgCells db M.sup sl sn M.turn M.over fb defb mb roots) PGT (0,0))) (f:Fr [pb] w w'):PgX w' X pb db { M with roots:=roots } fb defb mb sl sn F1 F2 A where
 cell:=E
 free:=h.free.frame f fun b u=>by simpa using (h.sep.2.1 b u).1
 deferred:=h.deferred.frame f fun b u=>by simpa using (h.sep.2.2 b u).1
 map:=h.map.frame f (by simpa using fun e=>h.sep.1 e.symm)
 fresh:=h.fresh
 rows:=h.rows.frame (f.mono fun i G _=>by rw [zE.1 G]; simp) fun b u=>.inl u
 xlt:=fun b u=>yC (h.xlt b u) f.size
 xsep:=h.xsep
 sep:=h.sep
 suplen:=h.suplen
 rootlen:=C
theorem qp9 {db:Option Addr} {sup:Sup} {sl sn:Sl} {turn:Int} {over:Bool} {fb defb mb:Nat} {roots:List Int} (I:sup.2.length=27) (O:roots.length=24) {t:Nat} (Q:t<8) {h C E:Int} :
  splice (pgCells db sup sl sn turn over fb defb mb roots) (36+3*t) [.u h,.u C,.u E]=pgCells db sup sl sn turn over fb defb mb (roots.take (3*t)++[h,C,E]++roots.drop (3*t+3)):=by
 have G:roots=roots.take (3*t)++(roots.drop (3*t)).take 3++roots.drop (3*t+3):=by
  rw [zV,<- xC,xD,xD]
 have:=qbD (A:=(.pointer db::supV sup.1 sup.2)++pgRest sl sn turn over fb defb mb++(roots.take (3*t)).map (Value.int .u32)) (X:=((roots.drop (3*t)).take 3).map (Value.int .u32)) (Y:=[.u h,.u C,.u E]) (Z:=(roots.drop (3*t+3)).map (Value.int .u32)) (by rw [zK,yK,yB]; show min 3 _=3; omega)
 have J:((.pointer db::supV sup.1 sup.2)++pgRest sl sn turn over fb defb mb++(roots.take (3*t)).map (Value.int .u32)).length=36+3*t:=by
  rw [zF,zF,qa1 I,zK,yK]
  show 29+7+_=_
  omega
 rw [J] at this
 unfold pgCells
 have K:roots.map (Value.int .u32)=(roots.take (3*t)).map (Value.int .u32)++((roots.drop (3*t)).take 3).map (Value.int .u32)++(roots.drop (3*t+3)).map (Value.int .u32):=by
  rw [<- xM,<- xM,<- G]
 rw [K]
 simp only [xM,xN,map_nil]
 simp only [zV] at this ⊢
 exact this
section
variable {w:World} {X:List Nat} {pb:Nat} {db:Option Addr} {F:List Nat} {M:PgM}
theorem qoc {t C E G:Int} {K:Int->WP} (h:PagerAt w X pb db F M)
  (hk:∀ w',PagerAt w' X pb db F (setRootM M t C E G).2->Fr F w w'->K (setRootM M t C E G).1 w') :
  cW 107 [.pointer (pW pb),.i t,.agg #[.u C,.u E,.u G]] [.one .i] w K:=by
 have h0:=h
 obtain ⟨fb,defb,mb,sl,sn,F1,F2,fs,rfl,J⟩:=h
 refine qeV ?_
 unfold qcw
 have I:∀ {e:Int} {w':World},setRootM M t C E G=(e,M)->Fr [] w w'->K e w':=by
  intro e w' he hf
  have:=hk w' (by rw [he]; exact h0.frame0 hf) (hf.mono (fun b O=>by cases O))
  rw [he] at this
  exact this
 refine Own.new' (Own.start [] w) fun r w1 e1 f1 ho=>?_
 have Q:=J.frame0 f1
 refine qae (qaj Q.cell M.over (qfC J.suplen) ?_)
 refine qaa (fun A=>I (by rw [setRootM,if_pos A]) f1) (fun A=>?_)
 have R:¬ M.over=true:=by rw [A]; decide
 refine qag (fun b w'=>b=decide (t<0\/t>7)/\w'=w1) ?_ ?_
 ·refine qaa (fun A=>⟨by rw [zZ (Or.inl (zC A))],rfl⟩) (fun A=>?_)
  have:=zB A
  refine ⟨decide_eq_decide.2 ⟨fun h=>.inr (by omega),fun h=>by omega⟩,rfl⟩
 rintro b w2 ⟨rfl,rfl⟩
 refine qaa (fun A=>I (by rw [setRootM,if_neg R,if_pos (zC A)]) f1) (fun A=>?_)
 have hr:=zB A
 obtain ⟨n,rfl⟩:∃ n:Nat,t=n:=⟨t.toNat,by omega⟩
 have ab:n<8:=by omega
 have U:setRootM M n C E G=(0,{ M with roots:=M.roots.take (3*n)++[C,E,G]++M.roots.drop (3*n+3) }):=by rw [setRootM,if_neg R,if_neg hr,zJ]
 have ac:=ho.drew
 have V:=Q.frame0 (Fr.refl [] w2).drew
 refine Own.ldA ac 0 rfl (C,E,G) rfl ?_
 refine qae ?_
 refine qbg (by omega) ?_
 simp only [Addr.add_mk,zJ]
 refine qbY V.cell (pgCells db M.sup sl sn M.turn M.over fb defb mb (M.roots.take (3*n)++[C,E,G]++M.roots.drop (3*n+3))) (by show splice _ (0+33+3+n*3) _=_; rw [show 0+33+3+n*3=36+3*n by omega]; exact qp9 J.suplen J.rootlen ab) rfl (by rw [qoI J.suplen,J.rootlen]; exact zL (show 0+33+3+n*3+3<=60 by omega) (zM 60)) fun w3 ad f3=>?_
 have hl:(M.roots.take (3*n)++[C,E,G]++M.roots.drop (3*n+3)).length=24:=by
  have:=J.rootlen
  simp only [zF,yK,yB,yH,xJ]
  omega
 have:=hk w3 (by rw [U]; exact ⟨fb,defb,mb,sl,sn,F1,F2,fs,rfl,V.setRoots hl ad f3⟩) ((f1.drew.mono fun b O=>nomatch O).trans (f3.mono fun b O _=>by rw [zE.1 O]; simp))
 rw [U] at this
 exact this
def rootM (M:PgM) (t:Int):Int×Int×Int:=if t<0\/t>7 then (0,0,0) else (M.roots.getD (3*t.toNat) 0,M.roots.getD (3*t.toNat+1) 0,M.roots.getD (3*t.toNat+2) 0)
theorem qsQ {t:Int} {K:Int×Int×Int->WP} (h:PagerAt w X pb db F M) (O:∀ w',Fr [] w w'->K (rootM M t) w') :
  cW 19 [.pointer (pW pb),.i t] [.agg [.u,.u,.u]] w K:=by
 obtain ⟨fb,defb,mb,sl,sn,F1,F2,fs,rfl,G⟩:=h
 refine qgP ?_
 unfold qdC
 refine Own.new' (Own.start [] w) fun r R e1 U Q=>?_
 have I:=G.frame0 U
 refine qag (fun b w'=>b=decide (t<0\/t>7)/\w'=R) ?_ ?_
 ·refine qaa (fun C=>⟨by rw [zZ (Or.inl (zC C))],rfl⟩) (fun C=>?_)
  have:=zB C
  refine ⟨decide_eq_decide.2 ⟨fun h=>.inr (by omega),fun h=>by omega⟩,rfl⟩
 rintro b w2 ⟨rfl,rfl⟩
 refine qaa (fun C=>?_) (fun C=>?_)
 ·refine Own.sz Q 0 rfl #[.u 0,.u 0,.u 0] fun J A V=>?_
  refine Own.ldA A 0 rfl (0,0,0) rfl ?_
  have:=O J A.fr
  rw [rootM,if_pos (zC C)] at this
  exact this
 have hr:=zB C
 obtain ⟨n,rfl⟩:∃ n:Nat,t=n:=⟨t.toNat,by omega⟩
 have ab:n<8:=by omega
 have ac:=G.rootlen
 refine qae ?_
 refine qbg (by omega) ?_
 simp only [Addr.add_mk,zJ]
 have e3:((M.roots.map (Value.int .u32)).drop (3*n)).take 3=[.u (M.roots.getD (3*n) 0),.u (M.roots.getD (3*n+1) 0),.u (M.roots.getD (3*n+2) 0)]:=by
  rw [zX (by rw [zK]; omega),zX (by rw [zK]; omega),zX (by rw [zK]; omega)]
  simp only [take_succ_cons,take_zero,getElem_map]
  rw [getElem_eq_getD 0,getElem_eq_getD 0,getElem_eq_getD 0]
 refine qh7 I.cell (M.roots.getD (3*n) 0,M.roots.getD (3*n+1) 0,M.roots.getD (3*n+2) 0) ?_ ?_
 ·have hd:=qsT (db:=db) (sup:=M.sup) (sl:=sl) (sn:=sn) (turn:=M.turn) (over:=M.over) (fb:=fb) (defb:=defb) (mb:=mb) (roots:=M.roots) G.suplen G.rootlen
  have E:(pgCells db M.sup sl sn M.turn M.over fb defb mb M.roots).toList.drop 36=M.roots.map (Value.int .u32):=by
   rw [<- hd,zS]
   have:=qoI (db:=db) (sup:=M.sup) (sl:=sl) (sn:=sn) (turn:=M.turn) (over:=M.over) (fb:=fb) (defb:=defb) (mb:=mb) (roots:=M.roots) G.suplen
   rw [yB,Array.length_toList]
   omega
  rw [show 0+33+3+n*3=36+3*n by omega,<- xC,E]
  exact e3
 ·refine Own.sz Q 0 rfl #[.u (M.roots.getD (3*n) 0),.u (M.roots.getD (3*n+1) 0),.u (M.roots.getD (3*n+2) 0)] fun J A V=>?_
  refine Own.ldA A 0 rfl (M.roots.getD (3*n) 0,M.roots.getD (3*n+1) 0,M.roots.getD (3*n+2) 0) rfl ?_
  have:=O J A.fr
  rw [rootM,if_neg hr,zJ] at this
  exact this
end
theorem qrY {w:World} {dbk pb:Nat} {X FD F:List Nat} {D:DiskM} {M:PgM} {k:Nat} {n:Int} {K:Int×Sl×Int->WP} (V:DiskAt w dbk FD D) (Q:Lim D k) (R:PagerAt w X pb (dbOf dbk M) F M) (hv:Hv w) (hn:U32 n) (hl:M.lists.length<=1000000) (hb:∀ e∈M.fresh,e.2.2.length<=100000)
  (hk:∀ s w',(∀ G:List Nat,(∀ b∈G,b<w.heap.size)->RdB G w' s (pagerReadM D M n).2.1)->Fr [] w w'->K ((pagerReadM D M n).1,s,(pagerReadM D M n).2.2) w') :
  cW 91 [.pointer (pW pb),.u n] [.one .b,.one .slice,.one .i] w K:=by
 have aa:=R
 obtain ⟨fb,defb,mb,sl,sn,F1,F2,fs,rfl,U⟩:=R
 refine qgY ?_
 unfold qdx
 have ab:∀ {a:Int} {e:Int} {w':World},pagerReadM D M n=(a,[],e)->Fr [] w w'->K (a,⟨none,0,0⟩,e) w':=fun he f=>by
  have:=hk ⟨none,0,0⟩ _ (fun G hG=>by rw [he]; exact .nil _ _ _ _) f
  rw [he] at this
  exact this
 refine qae (qaj U.cell M.over (qfC U.suplen) ?_)
 refine qaa (fun E=>ab (by rw [pagerReadM,if_pos E]) (.refl _ _)) (fun E=>?_)
 have I:¬ M.over=true:=by rw [E]; decide
 have am:dbOf dbk M=pW dbk:=if_neg I
 refine qae ?_
 simp only [Addr.add_mk]
 refine qaj U.cell (some mb) (qcA U.suplen) ?_
 have h:look n M.fresh=(look n fs).map fun q=>(q.1,q.2.1,q.2.2.2):=by rw [U.fresh]; exact qb7 (fun e:Leaf=>(e.1,e.2.2)) n fs
 refine qih U.map.at (fun q hq=>?_) (fun hq=>?_)
 ·rw [hq] at h
  have h:look n M.fresh=some (q.1,q.2.1,q.2.2.2):=h
  refine Own.new' (Own.start [] w) fun r w1 e1 f1 ho=>?_
  refine Own.sz ho 0 rfl #[.b q.2.1,q.2.2.1.v] fun w2 O f2=>?_
  have J:=O.drew
  refine cond_true rfl ?_
  refine Own.ld J 0 rfl q.2.1 rfl ?_
  refine Own.ld J 0 rfl q.2.2.1 rfl ?_
  have ao:=(qbd hq).2
  have ap:=U.rows.bodies _ ao
  have ae:=(qbd h).2
  refine qaX (ap.frame0 J.fr) (zL (hb _ ae) (by decide)) fun s2 B2 w3 b2 f3 n2 _ _=>?_
  have af:=J.frame0 f3
  refine qah (af.cell 0 rfl rfl) ?_
  have A:pagerReadM D M n=(q.2.1,q.2.2.2,0):=by rw [pagerReadM,if_neg I,h]
  have:=hk s2 w3 (fun G hG=>by rw [A]; exact Buf.rds qat b2 fun b hb hm=>by have:=n2 b hb; have:=hG b hm; have:=J.fr.size; omega) af.fr
  rw [A] at this
  exact this
 ·rw [hq] at h
  have h:look n M.fresh=none:=h
  refine Own.new' (Own.start [] w) fun r w1 e1 f1 ho=>?_
  refine Own.sz ho 0 rfl #[.b 0,.slice none 0 0] fun w2 O f2=>?_
  refine cond_false rfl ?_
  refine qm8 (aa.frame0 O.fr) hl fun w3 f3=>?_
  have C:=O.fr.trans f3
  have ag:=U.frame0 C
  refine qaa (fun E=>?_) (fun E=>?_)
  ·have hu:usedV M n=false:=by simpa using E
   exact ab (by rw [pagerReadM,if_neg I,h]; exact if_pos hu) C
  have hu:¬ usedV M n=false:=by simpa using E
  rw [am] at ag
  refine qae (qaj ag.cell (pW dbk) quQ ?_)
  rw [wi' n (by have:=hn.1; have:=hn.2; omega)]
  refine qfM (V.frame0 C) Q.ok fun s5 B5 w5 b5 f5 n5=>?_
  refine qaa (fun E=>?_) (fun E=>?_)
  ·have he:(readV D n).2≠0:=by simpa using E
   exact ab (by rw [pagerReadM,if_neg I,h]; exact (if_neg hu).trans (if_pos he)) (C.trans f5)
  have he:¬ (readV D n).2≠0:=by simpa using E
  have au:=qbA Q.ok n
  refine qle (b5.rds qat (S:=[]) (by simp)) (hv.frame0 (C.trans f5)) au.1 (by omega) fun s6 B6 w6 b6 f6 n6=>?_
  have A:pagerReadM D M n=openV n (readV D n).1:=by rw [pagerReadM,if_neg I,h]; exact (if_neg hu).trans (if_neg he)
  have:=hk s6 w6 (fun G hG=>by rw [A]; exact Buf.rds qat b6 fun b hb hm=>by have:=n6 b hb; have:=hG b hm; have:=(C.trans f5).size; omega) ((C.trans f5).trans f6)
  rw [A] at this
  exact this
end Go.Proofs.YtmmkegapckbomaaGreatDoor
end
section
namespace Go.Proofs.YtmmkegapckbomaaGreatDoor
open Go Go.Pt List
open Classical
def rootTo (t:Int) (s:(Int×Int)×PgM) (u h:Int):Int×PgM:=if s.1.2≠0 then (s.1.2,s.2) else setRootM s.2 t s.1.1 u h
noncomputable def growN (k v:Nat) (t:Int) (r:Int×Int×Int) (x:(Grown×Int)×PgM):Int×PgM:=
 if x.1.2≠0 then (x.1.2,x.2)
 else if x.1.1.other≠0 then rootTo t (storeN k v x.2 0 ⟨false,[x.1.1.key],[],[x.1.1.page,x.1.1.other]⟩) (if x.1.1.fresh then IntKind.wrap .u32 (r.2.1+1) else r.2.1) (IntKind.wrap .u32 (r.2.2+1))
 else setRootM x.2 t x.1.1.page (if x.1.1.fresh then IntKind.wrap .u32 (r.2.1+1) else r.2.1) r.2.2
noncomputable def insertN (D:DiskM) (k v:Nat) (t:Int) (key val:Key) (f:Nat) (M:PgM):Int×PgM:=
 if (rootM M t).1=0 then rootTo t (storeN k v M 0 (lfOf [(key,val)])) 1 1 else growN k v t (rootM M t) (putN D k v key val f M (rootM M t).1)
noncomputable def shrinkN (k v:Nat) (t:Int) (r:Int×Int×Int) (x:(NodeM×Int)×PgM):Int×PgM:=
 if x.1.2≠0 then (x.1.2,x.2)
 else if x.1.1.leaf=true/\x.1.1.keys.length=0 then (if (dropV x.2 r.1).1≠0 then ((dropV x.2 r.1).1,(dropV x.2 r.1).2) else setRootM (dropV x.2 r.1).2 t 0 0 0)
 else if x.1.1.leaf=false/\x.1.1.kids.length=1 then (if (dropV x.2 r.1).1≠0 then ((dropV x.2 r.1).1,(dropV x.2 r.1).2) else setRootM (dropV x.2 r.1).2 t (x.1.1.kids.getD 0 0) (IntKind.wrap .u32 (r.2.1-1)) (IntKind.wrap .u32 (r.2.2-1)))
 else rootTo t (storeN k v x.2 r.1 x.1.1) (IntKind.wrap .u32 (r.2.1-1)) r.2.2
noncomputable def removeN (D:DiskM) (k v:Nat) (t:Int) (key:Key) (f:Nat) (M:PgM):Int×PgM:=shrinkN k v t (rootM M t) (cutN D k v key f M (rootM M t).1)
def TreeIs (D:DiskM) (M:PgM) (k v:Nat) (t:Int) (L:Prs) (P:List Int):Prop:=
 (rootM M t=(0,0,0)/\L=[]/\P=[])\/∃ h n p,p≠0/\rootM M t=(p,(L.length:Int),((h+1:Nat):Int))/\Has D M k v h ⟨p,n,L,P⟩
structure RStep (D:DiskM) (M M':PgM) (t:Int) (P P':List Int):Prop where
 step:Step D M { M' with roots:=M.roots } P P'
 wf:M'.Wf
 len:M'.roots.length=24
 others:∀ t':Int,t'≠t->rootM M' t'=rootM M t'
section
variable {D:DiskM} {M M':PgM} {k v:Nat}
theorem qsO {t:Int} {a b c:Int} (J:0<=t/\t<8) (E:M.over=false) (K:M.roots.length=24):∃ R,setRootM M t a b c=(0,{ M with roots:=R })/\R.length=24/\rootM { M with roots:=R } t=(a,b,c)/\(∀ A:Int,A≠t->rootM { M with roots:=R } A=rootM M A)/\∀ x∈R,x∈M.roots\/x=a\/x=b\/x=c:=by
 obtain ⟨n,rfl⟩:∃ n:Nat,t=n:=⟨t.toNat,by omega⟩
 have O:n<8:=by omega
 have e:setRootM M n a b c=(0,{ M with roots:=M.roots.take (3*n)++[a,b,c]++M.roots.drop (3*n+3) }):=by
  rw [setRootM,if_neg (by rw [E]; decide),if_neg (by omega),zJ]
 have G:(M.roots.take (3*n)).length=3*n:=by rw [yK]; omega
 have h:∀ i,(M.roots.take (3*n)++[a,b,c]++M.roots.drop (3*n+3)).getD i 0=if i=3*n then a else if i=3*n+1 then b else if i=3*n+2 then c else M.roots.getD i 0:=fun i=>by
  rw [zV,yQ]
  by_cases h1:i<3*n
  ·rw [yY (by omega),xA,if_pos h1,if_neg (by omega),if_neg (by omega),if_neg (by omega),yQ]
  ·rw [yX (by omega),G]
   by_cases h2:i=3*n
   ·rw [if_pos h2,h2,Nat.sub_self]; rfl
   rw [if_neg h2]
   by_cases h3:i=3*n+1
   ·rw [if_pos h3,h3,show 3*n+1-3*n=1 by omega]; rfl
   rw [if_neg h3]
   by_cases h4:i=3*n+2
   ·rw [if_pos h4,h4,show 3*n+2-3*n=2 by omega]; rfl
   rw [if_neg h4,yX (by simp; omega),yZ,yQ]
   congr 2
   simp
   omega
 refine ⟨_,e,?_,?_,fun A C=>?_,fun x u=>?_⟩
 ·simp only [zF,yK,yB,yH,xJ]; omega
 ·rw [rootM,if_neg (by omega),zJ]
  dsimp only
  rw [h,h,h,if_pos rfl,if_neg (by omega),if_pos rfl,if_neg (by omega),if_neg (by omega),if_pos rfl]
 ·unfold rootM
  by_cases hr':A<0\/A>7
  ·rw [if_pos hr',if_pos hr']
  ·rw [if_neg hr',if_neg hr']
   dsimp only
   have I:A.toNat≠n:=fun e=>C (by omega)
   rw [h,h,h,if_neg (by omega),if_neg (by omega),if_neg (by omega),if_neg (by omega),if_neg (by omega),if_neg (by omega),if_neg (by omega),if_neg (by omega),if_neg (by omega)]
 ·rcases zD.1 u with u | u
  ·rcases zD.1 u with u | u
   ·exact .inl (yU u)
   ·simp only [zG,xX,or_false] at u
    exact .inr u
  ·exact .inl (yT u)
theorem qnY {R:List Int} (h:M.Wf) (u:∀ x∈R,U32 x):({ M with roots:=R }:PgM).Wf:=⟨h.n4,h.u32,u,h.namedS,h.named,h.freeS,h.defS,h.nodup,h.range,h.body⟩
theorem Has.roots {h:Nat} {s:Seg} {R:List Int} (u:Has D M k v h s):Has D { M with roots:=R } k v h s:=u.frame fun x _=>rfl
theorem Step.root {P P':List Int} {t a b c:Int} (C:0<=t/\t<8) (E:M.roots.length=24) (h:Step D M M' P P') (G:U32 a) (I:U32 b) (J:U32 c) :
  ∃ R,setRootM M' t a b c=(0,{ M' with roots:=R })/\RStep D M { M' with roots:=R } t P P'/\rootM { M' with roots:=R } t=(a,b,c):=by
 obtain ⟨R,e,K,O,Q,U⟩:=qsO (a:=a) (b:=b) (c:=c) C h.over (by rw [h.roots]; exact E)
 refine ⟨R,e,⟨?_,qnY h.wf fun x V=>?_,K,fun t' A=>?_⟩,O⟩
 ·have e':({ M' with roots:=M.roots }:PgM)=M':=by rw [<- h.roots]
  show Step D M { M' with roots:=M.roots } P P'
  rw [e']
  exact h
 ·rcases U x V with u | u | u | u
  ·exact h.wf.roots x u
  ·rw [u]; exact G
  ·rw [u]; exact I
  ·rw [u]; exact J
 ·rw [Q t' A]
  unfold rootM
  rw [h.roots]
theorem Has.counts:∀ {h:Nat} {s:Seg},Has D M k v h s->h+1<=s.prs.length/\s.pages.length+1<=2*s.prs.length
 | 0,s,A=>by
  have G:=length_pos_iff.2 A.ne
  rw [A.1]
  simp
  omega
 | h+1,s,⟨C,R,G,I,J,K,U,V,O⟩=>by
  have Q:=K.right.innerTwo.1
  rw [I,J]
  have key:∀ l:List Ent,(∀ e∈l,Has D M k v h e.2)->l.length*(h+1)<=(l.flatMap (·.2.prs)).length/\(l.flatMap (·.2.pages)).length+l.length<=2*(l.flatMap (·.2.prs)).length:=by
   intro l
   induction l with
   | nil=>intro _; exact ⟨by simp,by simp⟩
   | cons a l ih=>
    intro E
    have i:=ih fun e u=>E e (zN _ u)
    have j:=(E a (by simp)).counts
    rw [yG,yG,zF,zF,yH,xU]
    omega
  have:=key C fun e u=>(O e u).1
  have h9:2*(h+1)<=C.length*(h+1):=Nat.mul_le_mul_right _ Q
  rw [yH]
  omega
theorem qrH (hc:CapsOk k v) {t:Int} {key val:Key} {L:Prs} {P:List Int} (ht:0<=t/\t<8) (hk:key.length=k/\IsB key) (hv:val.length=v/\IsB val) (hT:TreeIs D M k v t L P) (hW:M.Wf) (ho:M.over=false) (hr:M.roots.length=24) (hn:P.Nodup) (hL:L.length<=1000000) (hf:2*(rootM M t).2.2.toNat+1<=M.free.length) :
  ∃ M' P',insertN D k v t key val (rootM M t).2.2.toNat M=(0,M')/\TreeIs D M' k v t (insP key val L) P'/\RStep D M M' t P P'/\M.free.length<=M'.free.length+(2*(rootM M t).2.2.toNat+1):=by
 have aU:=qfc (k:=k) (v:=v)
 rcases hT with ⟨e0,rfl,rfl⟩ | ⟨h,n,p,aG,er,hs⟩
 ·unfold insertN
  rw [e0,if_pos rfl]
  have aH:PrsOk k v [(key,val)]:=fun x hx=>by rw [zE.1 hx]; exact ⟨hk.1,hv.1,hk.2,hv.2⟩
  have U:=qe4 (k:=k) (v:=v) aH (pairwise_singleton _ _) (by simp) (by have:=hc.leaf; simp; omega)
  obtain ⟨q,M1,e1,st,ab,hl,ac⟩:=qhT (D:=D) hW ho U (fun e=>by rw [e] at hf; simp at hf)
  have hu:=st.has q (by simp)
  have hq:=qbq st.wf hu
  obtain ⟨R,e2,rs,C⟩:=st.root (a:=q) (b:=1) (c:=1) ht hr ⟨by omega,hq.2⟩ ⟨by decide,by decide⟩ ⟨by decide,by decide⟩
  refine ⟨{ M1 with roots:=R },[q],?_,.inr ⟨0,1,q,ac,C,?_⟩,rs,by show M.free.length<=M1.free.length+_; omega⟩
  ·unfold rootTo
   rw [e1]
   dsimp only
   rw [if_neg (fun h=>h rfl),e2]
  ·have:=qdS U ab
   exact this.roots
 ·rw [er] at hf
  have ak:(((h+1:Nat):Int)).toNat=h+1:=zJ _
  dsimp only at hf
  rw [ak] at hf
  have al:=hs.counts
  dsimp only at al
  obtain ⟨g,M1,eg,ok⟩:=qpe hc hk hv h M ⟨p,n,L,P⟩ hs hW ho hn (by
   have h9:=hs.load
   obtain ⟨N,R,_,U,_⟩:=h9
   show n<=1000
   cases h with
   | zero=>have:=U.2.2.2.2.2; dsimp only at this; omega
   | succ h=>obtain ⟨_,_,_,_,_,_,_,_,h8,_⟩:=U; dsimp only at h8; omega) (by omega)
  have am:=ok.free
  have E:=ok.fresh
  dsimp only at eg E
  have u:((insP key val L).length:Int)=if g.fresh then IntKind.wrap .u32 ((L.length:Int)+1) else (L.length:Int):=by
   rw [E]
   by_cases hm:key∈keysP L
   ·rw [zU (fun h=>h hm),if_neg (by decide),qbT hs.sort hm]
   ·rw [zZ hm,if_pos rfl,qbR hm,qa3 _ (by omega)]
    omega
  have an:U32 (if g.fresh then IntKind.wrap .u32 ((L.length:Int)+1) else (L.length:Int)):=by
   rw [<- u]
   have h1:(insP key val L).length<=L.length+1:=by
    by_cases hm:key∈keysP L
    ·rw [qbT (show SortP L from hs.sort) hm]; omega
    ·rw [qbR hm]; exact zM _
   exact ⟨by omega,by omega⟩
  unfold insertN
  rw [er,if_neg (show ¬ p=0 from aG)]
  dsimp only
  rw [ak,eg]
  unfold growN
  dsimp only
  rw [if_neg (fun h=>h rfl)]
  rcases ok.res with ⟨ae,n',P',hH,st,_⟩ | ⟨ae,n1,L1,I,V,L2,G,K,O,ao,aM,aN,ap,aq,aO,aP,st⟩
  ·rw [if_neg (fun h=>h ae)]
   have hu:=hH.used st.over g.page hH.mem
   have hq:=qbq st.wf hu
   obtain ⟨R,e2,rs,C⟩:=st.root (a:=g.page) (b:=if g.fresh then IntKind.wrap .u32 ((L.length:Int)+1) else (L.length:Int)) (c:=((h+1:Nat):Int)) ht hr ⟨by omega,hq.2⟩ an ⟨by omega,by omega⟩
   rw [<- u] at C e2
   refine ⟨{ M1 with roots:=R },P',?_,.inr ⟨h,n',g.page,by omega,C,hH.roots⟩,rs,by show M.free.length<=M1.free.length+_; omega⟩
   rw [<- u]
   exact e2
  ·rw [if_pos ae]
   have a0:=qbq st.wf (K.used st.over g.page K.mem)
   have a1:=qbq st.wf (O.used st.over g.other O.mem)
   have ar:L1≠[]:=K.ne
   have au:L2≠[]:=O.ne
   have aa:SepE [([],(⟨g.page,n1,L1,I⟩:Seg)),(g.key,⟨g.other,V,L2,G⟩)]:=
    (SepE.cut2 (A:=[]) (B:=[]) (lo:=[]) (s:=⟨0,0,L1++L2,[]⟩) (s1:=⟨g.page,n1,L1,I⟩) (s2:=⟨g.other,V,L2,G⟩) (m:=g.key) (qla fun x _=>qe9 _) rfl aM aN ar au)
   have hp:∀ e∈[([],(⟨g.page,n1,L1,I⟩:Seg)),(g.key,⟨g.other,V,L2,G⟩)],Has D M1 k v h e.2/\minOf k v h<=e.2.size:=fun e J=>by
    simp only [zG,xX,or_false] at J
    rcases J with rfl | rfl
    ·exact ⟨K,aO⟩
    ·exact ⟨O,aP⟩
   have aQ:KeysOk k [([],(⟨g.page,n1,L1,I⟩:Seg)),(g.key,⟨g.other,V,L2,G⟩)]:=fun e J=>by
    rw [zE.1 (show e∈[(g.key,(⟨g.other,V,L2,G⟩:Seg))] from J)]; exact ⟨ap,aq⟩
   have U:=qc0 st.wf st.over aQ aa (by simp) (by have:=hc.inner; simp; omega) fun e J=>(hp e J).1
   obtain ⟨q,M2,e1,Q,ab,a2,ac⟩:=qhT (D:=D) st.wf st.over U (fun e=>by rw [e] at am; simp at am; omega)
   have aw:∀ e∈[([],(⟨g.page,n1,L1,I⟩:Seg)),(g.key,⟨g.other,V,L2,G⟩)],Has D M2 k v h e.2/\minOf k v h<=e.2.size:=fun e J=>
    ⟨(hp e J).1.frame fun x hx=>(Q.rest x ((hp e J).1.used st.over x hx) (by simp)).1,(hp e J).2⟩
   have hI:=qcp (h:=h) rfl U ab aa aw
   have ax:Step D M1 M2 (I++G) (q::(I++G)):=by
    have:=Q.beside (Z:=I++G) st.has (by simpa using st.nodup)
    exact this.perm (by simp) perm_append_comm
   have ay:=st.trans ax
   have hq:=qbq Q.wf (Q.has q (by simp))
   obtain ⟨R,e2,rs,C⟩:=ay.root (a:=q) (b:=if g.fresh then IntKind.wrap .u32 ((L.length:Int)+1) else (L.length:Int)) (c:=((h+1+1:Nat):Int)) ht hr ⟨by omega,hq.2⟩ an ⟨by omega,by omega⟩
   have e3:storeN k v M1 0 ⟨false,[g.key],[],[g.page,g.other]⟩=((q,0),M2):=e1
   have aR:IntKind.wrap .u32 ((((h+1:Nat):Int))+1)=((h+1+1:Nat):Int):=by rw [qa3 _ (by omega)]; omega
   rw [<- u] at C e2
   refine ⟨{ M2 with roots:=R },q::(I++G),?_,.inr ⟨h+1,2,q,ac,C,?_⟩,rs,by show M.free.length<=M2.free.length+_; omega⟩
   ·unfold rootTo
    rw [e3,aR,<- u]
    dsimp only
    rw [if_neg (fun h=>h rfl),e2]
   ·have h9:=hI.roots (R:=R)
    have e5:[([],(⟨g.page,n1,L1,I⟩:Seg)),(g.key,⟨g.other,V,L2,G⟩)].flatMap (·.2.prs)=insP key val L:=by rw [<- ao]; simp
    have e6:[([],(⟨g.page,n1,L1,I⟩:Seg)),(g.key,⟨g.other,V,L2,G⟩)].flatMap (·.2.pages)=I++G:=by simp
    rw [e5,e6] at h9
    exact h9
theorem qrQ (hc:CapsOk k v) {t:Int} {key:Key} {L:Prs} {P:List Int} (ht:0<=t/\t<8) (hT:TreeIs D M k v t L P) (G:key∈keysP L) (hW:M.Wf) (ho:M.over=false) (hr:M.roots.length=24) (hn:P.Nodup) (hL:L.length<=1000000) (hf:2*(rootM M t).2.2.toNat+1<=M.free.length) :
  ∃ M' P',removeN D k v t key (rootM M t).2.2.toNat M=(0,M')/\TreeIs D M' k v t (cutP key L) P'/\RStep D M M' t P P'/\M.free.length<=M'.free.length+(2*(rootM M t).2.2.toNat+1):=by
 rcases hT with ⟨e0,rfl,rfl⟩ | ⟨h,n,p,aX,er,hs⟩
 ·cases G
 rw [er] at hf
 have an:(((h+1:Nat):Int)).toNat=h+1:=zJ _
 dsimp only at hf
 rw [an] at hf
 have ao:=hs.counts
 dsimp only at ao
 obtain ⟨N,m,M1,R,R',ec,hP,hN,st,aE,aY⟩:=qk4 hc h M ⟨p,n,L,P⟩ hs hW ho hn G (by omega)
 dsimp only at ec hP
 subst hP
 have E:=hs.sort
 dsimp only at E
 have aR:(cutP key L).length+1=L.length:=by
  have hm:=(qbN E).2 G
  have hi:placeV (keysP L) key<L.length:=by
   have:=(zP.1 hm).1
   simpa using this
  rw [qj6 E G,zF,yK,yB]
  omega
 have aF:IntKind.wrap .u32 ((L.length:Int)-1)=((cutP key L).length:Int):=by rw [qa3 _ (by omega)]; omega
 have ag:U32 ((cutP key L).length:Int):=⟨by omega,by omega⟩
 have ah:InUse M p:=hs.used ho p (by simp)
 have ap:p∉R:=(nodup_cons.1 hn).1
 have I:=(st.rest p ah ap).2.1
 have J:=(st.rest p ah ap).2.2
 have ai:Step D M M1 (p::R) (p::R'):=st.beside (Z:=[p]) (fun x hx=>by rw [zE.1 hx]; exact ah) (by simpa using hn)
 unfold removeN
 rw [er]
 dsimp only
 rw [an,ec]
 unfold shrinkN
 dsimp only
 rw [if_neg (fun h=>h rfl),aF]
 have ad:∀ {a b c:Int},U32 a->U32 b->U32 c->∃ u K,dropV M1 p=(0,u)/\setRootM u t a b c=(0,{ u with roots:=K })/\RStep D M { u with roots:=K } t (p::R) R'/\rootM { u with roots:=K } t=(a,b,c)/\M1.free.length<=u.free.length/\∀ x∈R',pagerReadM D u x=pagerReadM D M1 x:=fun ha hb aG=>by
  obtain ⟨u,V,A,O⟩:=qlX (D:=D) st.wf st.over I
  have h9:=A.beside (Z:=R') (fun x hx=>st.has x hx) (by
   have:=ai.nodup
   exact (perm_append_singleton p R').nodup_iff.2 this)
  rw [xG] at h9
  have h8:=(ai.perm (.refl _) (perm_append_singleton p R').symm).trans h9
  obtain ⟨K,e3,rs,C⟩:=h8.root (t:=t) ht hr ha hb aG
  exact ⟨u,K,V,e3,rs,C,O,fun x hx=>(A.rest x (st.has x hx) (fun hm=>J (by rw [<- zE.1 hm]; exact hx))).1⟩
 cases h with
 | zero=>
  have aj:=hN
  have aH:R=[]:=(vC (show p::R=[p] from hs.1)).2
  subst aH
  obtain ⟨rfl,hm,rfl,a2,aI,aq⟩:=hN
  dsimp only at hm
  have U:(lfOf (cutP key L)).keys.length=(cutP key L).length:=zK _
  by_cases hz:(cutP key L).length=0
  ·rw [if_pos ⟨rfl,by rw [U]; exact hz⟩]
   have ar:cutP key L=[]:=eq_nil_of_length_eq_zero hz
   obtain ⟨u,K,V,e3,rs,C,O,_⟩:=ad (a:=0) (b:=0) (c:=0) ⟨by decide,by decide⟩ ⟨by decide,by decide⟩ ⟨by decide,by decide⟩
   rw [V]
   dsimp only
   rw [if_neg (fun h=>h rfl),e3]
   exact ⟨_,[],rfl,.inl ⟨C,ar,rfl⟩,rs,by show M.free.length<=u.free.length+_; omega⟩
  ·rw [if_neg (fun h=>hz (by rw [<- U]; exact h.2)),if_neg (fun h=>nomatch h.1)]
   obtain ⟨q,u,V,A,H2,O⟩:=aj.store st.wf st.over (show 1<=m by omega) I J (by omega)
   have ak:Step D M u [p] [q]:=ai.trans A
   have hq:=qbq A.wf (A.has q (by simp))
   obtain ⟨K,e3,rs,C⟩:=ak.root (a:=q) (b:=((cutP key L).length:Int)) (c:=((0+1:Nat):Int)) ht hr ⟨by omega,hq.2⟩ ag ⟨by decide,by decide⟩
   refine ⟨{ u with roots:=K },[q],?_,.inr ⟨0,m,q,by omega,C,H2.roots⟩,rs,by show M.free.length<=u.free.length+_; omega⟩
   unfold rootTo
   rw [V]
   dsimp only
   rw [if_neg (fun h=>h rfl),e3]
 | succ h=>
  have aj:=hN
  obtain ⟨es,hh,rfl,hm,aK,rfl,hk,aI,aq,hp⟩:=hN
  have U:(inOf es).kids.length=es.length:=by show (es.map _).length=_; rw [zK]
  have aT:2<=n:=by
   obtain ⟨a4,_,g1,_,_,g4,_⟩:=hs
   have:=g4.right.innerTwo
   dsimp only at g1
   omega
  dsimp only at aE
  rw [if_neg (fun h=>nomatch h.1)]
  by_cases h1:es.length=1
  ·rw [if_pos ⟨rfl,by rw [U]; exact h1⟩]
   obtain ⟨e,rfl⟩:∃ e,es=[e]:=by
    match es,h1 with
    | [e],_=>exact ⟨e,rfl⟩
   have av:(inOf [e]).kids.getD 0 0=e.2.page:=rfl
   rw [av]
   have he:=(hp e (by simp)).1
   have hq:=qbq st.wf (he.used st.over e.2.page he.mem)
   have aM:IntKind.wrap .u32 ((((h+1+1:Nat):Int))-1)=((h+1:Nat):Int):=by rw [qa3 _ (by omega)]; omega
   rw [aM]
   obtain ⟨u,K,V,e3,rs,C,O,aN⟩:=ad (a:=e.2.page) (b:=((cutP key L).length:Int)) (c:=((h+1:Nat):Int)) ⟨by omega,hq.2⟩ ag ⟨by omega,by omega⟩
   rw [V]
   dsimp only
   rw [if_neg (fun h=>h rfl),e3]
   have aw:cutP key L=e.2.prs:=by rw [aK]; simp
   have ax:[e].flatMap (·.2.pages)=e.2.pages:=by simp
   refine ⟨_,_,rfl,.inr ⟨h,e.2.size,e.2.page,by omega,C,?_⟩,rs,by show M.free.length<=u.free.length+_; omega⟩
   rw [aw,ax]
   exact (he.frame fun x hx=>aN x (by rw [ax]; exact hx)).roots
  ·rw [if_neg (fun h=>h1 (by rw [<- U]; exact h.2))]
   have h2:2<=m:=by omega
   obtain ⟨q,u,V,A,H2,O⟩:=aj.store st.wf st.over (show 2<=m from h2) I J (by omega)
   have ak:Step D M u (p::R) ([q]++es.flatMap (·.2.pages)):=Step.kid (Q:=[q]) (hs.used ho) hn st A
   have hq:=qbq A.wf (A.has q (by simp))
   obtain ⟨K,e3,rs,C⟩:=ak.root (a:=q) (b:=((cutP key L).length:Int)) (c:=((h+1+1:Nat):Int)) ht hr ⟨by omega,hq.2⟩ ag ⟨by omega,by omega⟩
   refine ⟨{ u with roots:=K },[q]++es.flatMap (·.2.pages),?_,.inr ⟨h+1,m,q,by omega,C,H2.roots⟩,rs,by show M.free.length<=u.free.length+_; omega⟩
   unfold rootTo
   rw [V]
   dsimp only
   rw [if_neg (fun h=>h rfl),e3]
end
end Go.Proofs.YtmmkegapckbomaaGreatDoor
end
section
namespace Go.Proofs.YtmmkegapckbomaaGreatDoor
open Go Go.Pt List
attribute [local irreducible] ld ldA ldV fld fldA newZ st new idx idxS idxA slc slcS slcP mkS chk nn call callV inv run runQ runU join loop held ext rng undefer s2a nxt ent IntKind.wrap
structure TW (dbk pb:Nat) (FD:List Nat) (D:DiskM) (j:Nat) (w:World) (Y F:List Nat) (M:PgM):Prop where
 disk:DiskAt w dbk FD D
 lim:Lim D j
 pager:PagerAt w (FD++HG::Y) pb (dbOf dbk M) F M
 hv:Hv w
 wf:M.Wf
 sep:∀ b∈Y,b∉FD/\b≠HG
abbrev Zo (FD Y F:List Nat):List Nat:=(FD++HG::Y)++F
section
variable {dbk pb j:Nat} {FD Y Y' F:List Nat} {D:DiskM} {w w':World} {M:PgM}
theorem TW.frame0 (h:TW dbk pb FD D j w Y F M) (f:Fr [] w w'):TW dbk pb FD D j w' Y F M:=⟨h.disk.frame0 f,h.lim,h.pager.frame0 f,h.hv.frame0 f,h.wf,h.sep⟩
theorem TW.ylt (h:TW dbk pb FD D j w Y F M):∀ b∈Y,b<w.heap.size:=fun b u=>h.pager.xlt b (by simp [u])
theorem TW.zlt (h:TW dbk pb FD D j w Y F M):∀ b∈Zo FD Y F,b<w.heap.size:=fun b u=>(zD.1 u).elim (h.pager.xlt b) (h.pager.lt b)
theorem TW.yf (h:TW dbk pb FD D j w Y F M):∀ b∈Y,b∉F:=fun b u=>h.pager.sep b (by simp [u])
theorem TW.frameY (h:TW dbk pb FD D j w Y F M) (f:Fr Y w w') (I:∀ b∈Y',b<w'.heap.size) (E:∀ b∈Y',b∈Y\/w.heap.size<=b):TW dbk pb FD D j w' Y' F M where
 disk:=h.disk.frame f fun b u C=>(h.sep b C).1 u
 lim:=h.lim
 pager:=h.pager.frameX (f.mono fun b u _=>by simp [u]) (fun b u=>by
  rcases zD.1 u with u | u
  ·exact yC (h.disk.lt b u) f.size
  ·rcases zG.1 u with rfl | u
   ·exact yC h.hv.lt f.size
   ·exact I b u) fun b u=>by
  rcases zD.1 u with u | u
  ·exact .inl (zH _ u)
  ·rcases zG.1 u with rfl | u
   ·exact .inl (by simp)
   ·rcases E b u with A | A
    ·exact .inl (by simp [A])
    ·exact .inr A
 hv:=h.hv.frame f fun C=>(h.sep _ C).2 rfl
 wf:=h.wf
 sep:=fun b u=>by
  rcases E b u with A | A
  ·exact h.sep b A
  ·exact ⟨fun G=>by have:=h.disk.lt b G; omega,fun G=>by have:=h.hv.lt; omega⟩
theorem TW.weakY (h:TW dbk pb FD D j w Y F M) (A:∀ b∈Y',b∈Y):TW dbk pb FD D j w Y' F M:=h.frameY (.refl _ _) (fun b u=>h.ylt b (A b u)) fun b u=>.inl (A b u)
theorem TW.addY {B:List Nat} {w0:World} (h:TW dbk pb FD D j w0 Y F M) (f:Fr Y w0 w) (A:∀ b∈B,w0.heap.size<=b/\b<w.heap.size):TW dbk pb FD D j w (B++Y) F M:=
 h.frameY f (fun b u=>(zD.1 u).elim (fun u=>(A b u).2) fun u=>yC (h.ylt b u) f.size) fun b u=>(zD.1 u).elim (fun u=>.inr (A b u).1) .inl
theorem qqI (M:PgM) (kd:Int) (b:List Int):(makeV M kd b).2.over=M.over:=by
 unfold makeV
 split
 ·rfl
 ·split
  ·rfl
  ·split <;> rfl
theorem qs8 (M:PgM) (n kd:Int) (b:List Int):(putV M n kd b).2.over=M.over:=by
 unfold putV
 split
 ·rfl
 ·split
  ·rfl
  ·split <;> rfl
theorem qqs (M:PgM) (n:Int):(dropV M n).2.over=M.over:=by
 unfold dropV
 split
 ·rfl
 ·split
  ·rfl
  ·split <;> rfl
theorem qrV (M:PgM) (t a b c:Int):(setRootM M t a b c).2.over=M.over:=by
 unfold setRootM
 split
 ·rfl
 ·split <;> rfl
theorem qrs {M M':PgM} (h:M'.over=M.over):dbOf dbk M'=dbOf dbk M:=by unfold dbOf; rw [h]
theorem TW.next {M':PgM} {F':List Nat} (h:TW dbk pb FD D j w Y F M) (u:M'.over=M.over) (A:M'.Wf) (C:PagerAt w' (FD++HG::Y) pb (dbOf dbk M) F' M') (f:Fr F w w'):TW dbk pb FD D j w' Y F' M' where
 disk:=h.disk.frame f fun b E=>h.pager.sep b (zH _ E)
 lim:=h.lim
 pager:=by rw [qrs u]; exact C
 hv:=h.hv.frame f (h.pager.sep HG (by simp))
 wf:=A
 sep:=h.sep
theorem TW.make {kind:Int} {s:Sl} {body:List Int} {K:Int×Int->WP} (h:TW dbk pb FD D j w Y F M) (A:RdB (Zo FD Y F) w s body) (C:body.length<=100000) (E:0<=kind/\kind<256) (G:IsB body)
  (I:∀ F' w',TW dbk pb FD D j w' Y F' (makeV M kind body).2->Fr F w w'->(∀ b∈F',b∈F\/w.heap.size<=b)->K (makeV M kind body).1 w') :
  cW 137 [.pointer (pW pb),.b kind,s.v] [.one .u,.one .i] w K:=
 qs3 h.pager A C (by have:=h.wf.all; omega) fun F' w' J f O=>I F' w' (h.next (qqI M kind body) (qoK h.wf E G).1 J f) f O
theorem TW.put {n kind:Int} {s:Sl} {body:List Int} {K:Int->WP} (h:TW dbk pb FD D j w Y F M) (A:RdB (Zo FD Y F) w s body) (C:body.length<=100000) (E:0<=kind/\kind<256) (G:IsB body)
  (I:∀ w',TW dbk pb FD D j w' Y F (putV M n kind body).2->Fr F w w'->K (putV M n kind body).1 w') :
  cW 136 [.pointer (pW pb),.u n,.b kind,s.v] [.one .i] w K:=
 qtm h.pager A C fun w' J f=>I w' (h.next (qs8 M n kind body) (qqv h.wf E G).1 J f) f
theorem TW.drop {n:Int} {K:Int->WP} (h:TW dbk pb FD D j w Y F M)
  (A:∀ F' w',TW dbk pb FD D j w' Y F' (dropV M n).2->Fr F w w'->(∀ b∈F',b∈F\/w.heap.size<=b)->K (dropV M n).1 w') :
  cW 110 [.pointer (pW pb),.u n] [.one .i] w K:=
 qsC h.pager (by have:=h.wf.all; omega) (by have:=h.wf.all; omega) (by have:=h.wf.all; omega) fun F' w' C f E=>A F' w' (h.next (qqs M n) (qoO h.wf) C f) f E
theorem TW.read {n:Int} {K:Int×Sl×Int->WP} (h:TW dbk pb FD D j w Y F M) (A:U32 n)
  (C:∀ s w',(∀ G:List Nat,(∀ b∈G,b<w.heap.size)->RdB G w' s (pagerReadM D M n).2.1)->Fr [] w w'->K ((pagerReadM D M n).1,s,(pagerReadM D M n).2.2) w') :
  cW 91 [.pointer (pW pb),.u n] [.one .b,.one .slice,.one .i] w K:=
 qrY h.disk h.lim h.pager h.hv A (by have:=h.wf.all; omega) (fun e E=>zL (h.wf.body e E).2.1 (by decide)) C
theorem TW.root {t:Int} {K:Int×Int×Int->WP} (h:TW dbk pb FD D j w Y F M) (A:∀ w',Fr [] w w'->K (rootM M t) w') :
  cW 19 [.pointer (pW pb),.i t] [.agg [.u,.u,.u]] w K:=qsQ h.pager A
theorem qp8 {t a b c:Int} (u:M.Wf) (A:U32 a) (C:U32 b) (E:U32 c):(setRootM M t a b c).2.Wf:=by
 unfold setRootM
 split
 ·exact u
 ·split
  ·exact u
  ·refine qnY u fun x h=>?_
   simp only [zD,zG,xX,or_false] at h
   rcases h with (h | rfl | rfl | rfl) | h
   ·exact u.roots x (yU h)
   ·exact A
   ·exact C
   ·exact E
   ·exact u.roots x (yT h)
theorem TW.setRoot {t a b c:Int} {K:Int->WP} (h:TW dbk pb FD D j w Y F M) (A:U32 a) (C:U32 b) (E:U32 c)
  (G:∀ w',TW dbk pb FD D j w' Y F (setRootM M t a b c).2->Fr F w w'->K (setRootM M t a b c).1 w') :
  cW 107 [.pointer (pW pb),.i t,.agg #[.u a,.u b,.u c]] [.one .i] w K:=
 qoc h.pager fun w' I f=>G w' (h.next (qrV M t a b c) (qp8 h.wf A C E) I f) f
theorem TW.room {K:Int->WP} (h:TW dbk pb FD D j w Y F M) (u:K M.free.length w):cW 46 [.pointer (pW pb)] [.one .i] w K:=qrZ h.pager u
theorem TW.znew {F':List Nat} (h:∀ b∈F',b∈F\/w.heap.size<=b):∀ b∈Zo FD Y F',b∈Zo FD Y F\/w.heap.size<=b:=qkY h
theorem qgr (h:M.Wf) (t:Int):U32 (rootM M t).1/\U32 (rootM M t).2.1/\U32 (rootM M t).2.2:=by
 have key:∀ n,U32 (M.roots.getD n 0):=fun n=>by
  rw [yQ]
  cases e:M.roots[n]? with
  | none=>exact ⟨by decide,by decide⟩
  | some x=>exact h.roots x (yE e)
 unfold rootM
 split
 ·exact ⟨⟨by decide,by decide⟩,⟨by decide,by decide⟩,⟨by decide,by decide⟩⟩
 ·exact ⟨key _,key _,key _⟩
end
end Go.Proofs.YtmmkegapckbomaaGreatDoor
end
section
namespace Go.Proofs.YtmmkegapckbomaaGreatDoor
open Go Go.Pt List
open Classical
attribute [local irreducible] ld ldA ldV fld fldA newZ st new idx idxS idxA slc slcS slcP mkS chk nn call callV inv run runQ runU join loop held ext rng undefer s2a nxt ent IntKind.wrap
abbrev WkC:=Int×Int×Int×Int×Option Addr×Int
def wkX (k v pb:Nat) (t:Int):WkC:=((k:Int),(v:Int),((capsV k v).1:Int),((capsV k v).2:Int),pW pb,t)
def wkV (x:WkC):Array Value:=#[.i x.1,.i x.2.1,.i x.2.2.1,.i x.2.2.2.1,.pointer x.2.2.2.2.1,.i x.2.2.2.2.2]
abbrev WK:TypeId:=114
def shX (k v:Nat):Int×Int×Int×Int:=((k:Int),(v:Int),((capsV k v).1:Int),((capsV k v).2:Int))
def shV (k v:Nat):Array Value:=#[.i k,.i v,.i (capsV k v).1,.i (capsV k v).2]
section
variable {S:List Nat} {w:World} {x:NdC} {n:NodeM} {k v:Nat}
structure NodeL (x:NdC) (n:NodeM):Prop where
 leaf:x.1=n.leaf
 keys:x.2.1.len=n.keys.length
 vals:x.2.2.1.len=n.vals.length
 kids:x.2.2.2.len=n.kids.length
theorem NodeR.lens (h:NodeR S w x n):NodeL x n:=by
 obtain ⟨u,_,⟨pk,A,C⟩,⟨pv,E,G⟩,I⟩:=h
 exact ⟨u,by rw [A.len,<- C,zK],by rw [E.len,<- G,zK],I.1⟩
theorem qk8 {K:Int×Int->WP} (h:NodeL x n) (A:∀ w',Fr [] w w'->K (((sizeN n k v).1:Int),((sizeN n k v).2:Int)) w') :
  cW 174 [.agg (shV k v),.agg (ndV x)] [.one .i,.one .i] w K:=by
 refine qhp ?_
 unfold qd4
 refine Own.new' (Own.start [] w) fun G I e1 J E=>?_
 refine Own.new' E fun O Q R U E=>?_
 refine Own.ld E 0 rfl x.1 rfl ?_
 unfold sizeN at A
 have u:=E.drew
 refine qaa (fun C=>?_) (fun C=>?_)
 ·rw [h.leaf] at C
  rw [if_pos C] at A
  refine Own.ld u 0 rfl x.2.1 rfl ?_
  refine Own.ld u 1 rfl ((capsV k v).1:Int) rfl ?_
  rw [h.keys]
  exact A _ u.fr
 ·rw [h.leaf] at C
  rw [if_neg (by rw [C]; decide)] at A
  refine Own.ld u 0 rfl x.2.2.2 rfl ?_
  refine Own.ld u 1 rfl ((capsV k v).2:Int) rfl ?_
  rw [h.kids]
  exact A _ u.fr
theorem qmi {n:NodeM}:IntKind.wrap .i64 (Int.tdiv ((sizeN n k v).2:Int) 2)=(((sizeN n k v).2 / 2:Nat):Int):=by
 have h:=qfc (k:=k) (v:=v)
 have u:(sizeN n k v).2<=498:=by unfold sizeN; split <;> omega
 rw [Int.tdiv_eq_ediv_of_nonneg (by omega),wi' _ (by omega)]
 rfl
theorem qul {K:Bool->WP} (h:NodeL x n) (A:∀ w',Fr [] w w'->K (decide (lowN n k v)) w') :
  cW 142 [.agg (shV k v),.agg (ndV x)] [.one .bool] w K:=by
 refine qik ?_
 unfold qex
 refine Own.new' (Own.start [] w) fun G I e1 J u=>?_
 refine Own.new' u fun O Q R U u=>?_
 refine Own.ldA u 1 rfl (shX k v) rfl ?_
 refine Own.ldA u 0 rfl x rfl ?_
 refine qk8 (k:=k) (v:=v) h fun C E=>?_
 dsimp only
 rw [qmi]
 have e:decide (((sizeN n k v).1:Int)<(((sizeN n k v).2 / 2:Nat):Int))=decide (lowN n k v):=decide_eq_decide.2 (by unfold lowN; omega)
 rw [e]
 exact A C (u.fr.trans E)
theorem qsd {K:Bool->WP} (h:NodeL x n) (A:∀ w',Fr [] w w'->K (decide (spareN n k v)) w') :
  cW 178 [.agg (shV k v),.agg (ndV x)] [.one .bool] w K:=by
 refine qgQ ?_
 unfold qdv
 refine Own.new' (Own.start [] w) fun G I e1 J u=>?_
 refine Own.new' u fun O Q R U u=>?_
 refine Own.ldA u 1 rfl (shX k v) rfl ?_
 refine Own.ldA u 0 rfl x rfl ?_
 refine qk8 (k:=k) (v:=v) h fun C E=>?_
 dsimp only
 rw [qmi]
 have e:decide (((sizeN n k v).1:Int)>(((sizeN n k v).2 / 2:Nat):Int))=decide (spareN n k v):=decide_eq_decide.2 (by unfold spareN; omega)
 rw [e]
 exact A C (u.fr.trans E)
end
theorem qjz {t:Int} {ks:Sl} {pb:Nat} {k v:Nat} {w:World} {K:WkC×Int->WP} (G:shp t=((k:Int),(v:Int))) (I:k=0->∀ x w',Fr [] w w'->K (x,4) w') (J:k≠0->ks.len≠k->∀ x w',Fr [] w w'->K (x,1) w') (O:k≠0->ks.len=k->∀ w',Fr [] w w'->K (wkX k v pb t,0) w') :
  cW 59 [.pointer (pW pb),.i t,ks.v] [.agg qai,.one .i] w K:=by
 refine qmw ?_
 unfold qjc
 refine Own.new' (Own.start [] w) fun Q R e1 U h=>?_
 refine qnx ?_
 rw [G]
 refine qaa (fun A=>?_) (fun A=>?_)
 ·have A:((k:Nat):Int)=0:=yO.1 A
  refine Own.sz h 0 rfl (wkV (0,0,0,0,none,0)) fun E h C=>?_
  refine Own.ldA h 0 rfl (0,0,0,0,none,0) rfl ?_
  exact I (by omega) _ _ h.fr
 have A:¬ ((k:Nat):Int)=0:=zR.1 A
 refine qaa (fun u=>?_) (fun u=>?_)
 ·have u:¬ ((ks.len:Int)=(k:Int)):=zR.1 (by simpa using u)
  refine Own.sz h 0 rfl (wkV (0,0,0,0,none,0)) fun E h C=>?_
  refine Own.ldA h 0 rfl (0,0,0,0,none,0) rfl ?_
  exact J (by omega) (by omega) _ _ h.fr
 have u:(ks.len:Int)=(k:Int):=by
  rw [yD] at u
  exact yO.1 u
 refine qjK fun E C=>?_
 have h:=h.frame0 C
 refine Own.sz h 0 rfl (wkV (wkX k v pb t)) fun V h f3=>?_
 refine Own.ldA h 0 rfl (wkX k v pb t) rfl ?_
 exact O (by omega) (by omega) _ h.fr
section
variable {dbk pb j:Nat} {FD Y F:List Nat} {D:DiskM} {w:World} {M:PgM} {k v:Nat} {t:Int}
theorem qeZ {p:Int} {K:NdC×Int->WP} (h:TW dbk pb FD D j w Y F M) (hp:U32 p)
  (J:∀ x B w',TW dbk pb FD D j w' (B++Y) F M->NodeB (Zo FD (B++Y) F) w' x (loadN D M k v p).1 B->Fr [] w w'->(∀ c∈B,w.heap.size<=c)->K (x,(loadN D M k v p).2) w') :
  cW 82 [.agg (wkV (wkX k v pb t)),.u p] [.agg qac,.one .i] w K:=by
 refine qip ?_
 unfold qeN
 refine Own.new' (Own.start [] w) fun r1 w1 e1 f1 C=>?_
 refine Own.new' C fun r3 w2 e2 f2 C=>?_
 refine Own.ld C 1 rfl (pW pb) rfl ?_
 have h2:=h.frame0 C.fr
 refine TW.read h2 hp fun s w7 hs f7=>?_
 have C:=C.frame0 f7
 have ab:=hs [] (fun _ h=>nomatch h)
 have hB:IsB (pagerReadM D M p).2.1:=qe6 h.lim.ok (fun e he=>(h.wf.body e he).2.2) p
 unfold loadN at J
 refine qaa (fun A=>?_) (fun A=>?_)
 ·have ad:(pagerReadM D M p).2.2≠0:=fun e=>by
   dsimp only at A
   rw [e] at A
   exact absurd A (by decide)
  rw [if_pos ad] at J
  refine Own.sz C 0 rfl (ndV zeroX) fun w8 C f8=>?_
  refine Own.ldA C 0 rfl zeroX rfl ?_
  exact J zeroX [] w8 (h.frame0 C.fr) (.zero _ _) C.fr (fun _ h=>nomatch h)
 ·have he:¬ (pagerReadM D M p).2.2≠0:=fun e=>by
   dsimp only at A
   rw [yD,yO] at A
   exact e A
  rw [if_neg he] at J
  refine Own.ld C 1 rfl (k:Int) rfl ?_
  refine Own.ld C 1 rfl (v:Int) rfl ?_
  refine qjF (k:=k) (v:=v) ab hB fun x B ao hN ae I=>?_
  have O:=C.frame0 ae
  have Q:=qab (C.at (i:=0) rfl)
  dsimp only at Q
  have hr:∀ c∈B,c∉[r3]:=fun c A hm=>by have:=I c A; rw [zE.1 hm] at this; omega
  refine Own.sz O 0 rfl (ndV x) fun R E af=>?_
  refine Own.ldA E 0 rfl x rfl ?_
  have G:=hN.frame af hr (fun c A=>.inl (by rw [zE.1 A]; simp [Q])) (fun c A=>.inl A)
  have au:=h.frame0 E.fr
  have U:=C.fr.size
  have V:TW dbk pb FD D j R (B++Y) F M:=h.addY (E.fr.mono fun _ h=>nomatch h) fun b hb=>⟨zL U (I b hb),G.lt b hb⟩
  refine J x B R V (G.weak fun c A=>.inl ?_) E.fr (fun c A=>zL U (I c A))
  have zl:=h.zlt
  rcases zD.1 A with A | A
  ·rcases zD.1 A with A | A
   ·have:=zl c (by simp [A]); simp; omega
   ·rcases zG.1 A with A | A
    ·have:=zl c (by simp [A]); simp; omega
    ·rcases zD.1 A with A | A
     ·simp [A]
     ·have:=zl c (by simp [A]); simp; omega
  ·have:=zl c (by simp [A]); simp; omega
theorem qps {kd:Int} {b:List Int} {n:Int} (h:(putV M n kd b).1=10):(putV M n kd b).2=M:=by
 unfold putV at h ⊢
 split
 ·rfl
 ·rename_i u
  rw [if_neg u] at h
  split
  ·rfl
  ·rename_i q A
   rw [A] at h
   dsimp only at h
   split
   ·rfl
   ·rename_i C; rw [if_neg C] at h; cases h
theorem qbj {x:NdC} {n:NodeM} {p:Int} {K:Int×Int->WP} (h:TW dbk pb FD D j w Y F M) (hx:NodeR (Zo FD Y F) w x n) (h1:n.keys.length<=1000000) (h2:n.vals.length<=1000000) (h3:n.kids.length<=1000000)
  (R:∀ F' w',TW dbk pb FD D j w' Y F' (storeN k v M p n).2->Fr F w w'->(∀ b∈F',b∈F\/w.heap.size<=b)->K (storeN k v M p n).1 w') :
  cW 106 [.agg (wkV (wkX k v pb t)),.u p,.agg (ndV x)] [.one .u,.one .i] w K:=by
 refine qhh ?_
 unfold qdV
 refine Own.new' (Own.start [] w) fun r1 w1 e1 f1 E=>?_
 refine Own.new' E fun r3 w2 e2 f2 E=>?_
 refine Own.ldA E 0 rfl x rfl ?_
 refine Own.ld E 1 rfl (k:Int) rfl ?_
 refine Own.ld E 1 rfl (v:Int) rfl ?_
 refine qsj (x:=x) (k:=k) (v:=v) (hx.frame0 E.fr) h1 h2 h3 fun s w9 hs f9=>?_
 have E:=E.frame0 f9
 have h9:=h.frame0 E.fr
 have an:IsB (writeNV n k v).2.1:=by
  unfold writeNV
  split
  ·exact qlJ hx.2.1.1 hx.2.1.2.1
  ·exact fun _ h=>nomatch h
 have ao:0<=(writeNV n k v).1/\(writeNV n k v).1<256:=by
  unfold writeNV kindN
  split
  ·dsimp only; split <;> exact ⟨by decide,by decide⟩
  ·exact ⟨by decide,by decide⟩
 have ap:(writeNV n k v).2.1.length<=100000:=by
  unfold writeNV
  split
  ·rename_i hr; have:=(qem hr).2; dsimp only; omega
  ·exact yW _
 unfold storeN at R
 refine qaa (fun A=>?_) (fun A=>?_)
 ·have aC:(writeNV n k v).2.2≠0:=fun e=>by
   dsimp only at A
   rw [e] at A
   exact absurd A (by decide)
  rw [if_pos aC] at R
  exact R F w9 h9 (E.fr.mono fun _ h=>nomatch h) fun b O=>.inl O
 have he:¬ (writeNV n k v).2.2≠0:=fun e=>by
  dsimp only at A
  rw [yD,yO] at A
  exact e A
 rw [if_neg he] at R
 have aD:=qab (E.at (i:=1) rfl)
 dsimp only at aD
 have ab:=h.zlt
 have ad:r1∉F:=fun hm=>by have:=ab r1 (by simp [hm]); omega
 have aq:w.heap.size<=r1:=by omega
 have aN:=E.fr.size
 have af:∀ G:List Nat,(∀ b∈G,b<w.heap.size)->RdB G w9 s (writeNV n k v).2.1:=fun G hG=>hs G fun b O=>yC (hG b O) (zL f1.size f2.size)
 have ag:Own F w w9 [(r1,.cells (wkV (wkX k v pb t)) WK (0,0))]:=⟨fun q hq=>by rw [zE.1 hq]; exact E.at (i:=1) rfl,by simp,E.fr.mono (fun _ h=>nomatch h),fun q hq=>by rw [zE.1 hq]; exact .inr aq⟩
 generalize a0:(writeNV n k v).1=Q at *
 generalize a1:(writeNV n k v).2.1=I at *
 refine qag (fun _ w'=>(p=0\/(putV M p Q I).1=10)/\TW dbk pb FD D j w' Y F M/\Own F w w' [(r1,.cells (wkV (wkX k v pb t)) WK (0,0))]/\RdB (Zo FD Y F) w' s I) ?_ ?_
 ·refine qaa (fun U=>?_) (fun U=>?_)
  ·have U:p≠0:=by
    rw [zT] at U
    exact zR.1 U
   refine Own.ld ag 0 rfl (pW pb) rfl ?_
   refine TW.put h9 (af _ ab) ap ao an fun aE ai ar=>?_
   have ae:=ag.frame ar (fun i hi=>.inl hi) (fun q hq=>by rw [zE.1 hq]; exact ad)
   refine qaa (fun C=>?_) (fun C=>?_)
   ·have C:(putV M p Q I).1≠10:=by
     rw [zT] at C
     exact zR.1 C
    rw [if_pos ⟨U,C⟩] at R
    exact R F aE ai ae.fr fun b O=>.inl O
   ·have C:(putV M p Q I).1=10:=by
     rw [yD] at C
     exact yO.1 C
    rw [qps C] at ai
    exact ⟨.inr C,ai,ae,(af _ ab).frame (ar.mono fun b O _=>by simp [O]) fun b O=>.inl O⟩
  ·have U:p=0:=by
    rw [yD] at U
    exact yO.1 U
   exact ⟨.inl U,h9,ag,af _ ab⟩
 rintro _ a2 ⟨U,aG,V,au⟩
 rw [if_neg (fun hh=>U.elim hh.1 hh.2)] at R
 refine Own.ld V 0 rfl (pW pb) rfl ?_
 refine TW.make aG au ap ao an fun F' aH av aI aJ=>?_
 have J:=V.frame aI (fun i hi=>.inl hi) (fun q hq=>by rw [zE.1 hq]; exact ad)
 have aj:=V.fr.size
 have aa:∀ b∈F',b∈F\/w.heap.size<=b:=fun b O=>(aJ b O).imp id fun h=>zL aj h
 refine qag (fun e w'=>∃ F2,e=(if (makeV M Q I).1.2=0/\p≠0 then (dropV (makeV M Q I).2 p).1 else (makeV M Q I).1.2)/\TW dbk pb FD D j w' Y F2 (if (makeV M Q I).1.2=0/\p≠0 then (dropV (makeV M Q I).2 p).2 else (makeV M Q I).2)/\Fr F w w'/\∀ b∈F2,b∈F\/w.heap.size<=b) ?_ ?_
 ·refine qag (fun d w'=>d=decide ((makeV M Q I).1.2=0/\p≠0)/\w'=aH) ?_ ?_
  ·refine qaa (fun A=>⟨?_,rfl⟩) (fun A=>⟨?_,rfl⟩)
   ·have A:(makeV M Q I).1.2=0:=yO.1 A
    rw [Bool.eq_iff_iff,yM,zT,zR]
    exact ⟨fun h=>⟨A,h⟩,fun h=>h.2⟩
   ·have A:¬ (makeV M Q I).1.2=0:=zR.1 A
    rw [zU (fun h=>A h.1)]
  rintro d a3 ⟨rfl,rfl⟩
  refine qaa (fun A=>?_) (fun A=>?_)
  ·have A:=zC A
   rw [if_pos A,if_pos A]
   refine Own.ld J 0 rfl (pW pb) rfl ?_
   refine TW.drop av fun F2 a4 aK aL aM=>?_
   have al:=J.fr.size
   refine ⟨F2,rfl,aK,J.fr.trans' aL aa,fun b O=>?_⟩
   rcases aM b O with h | h
   ·exact aa b h
   ·exact .inr (zL al h)
  ·have A:=zB A
   rw [if_neg A,if_neg A]
   exact ⟨F',rfl,av,J.fr,aa⟩
 rintro e aw ⟨F2,rfl,ac,ax,ay⟩
 by_cases A:(makeV M Q I).1.2=0/\p≠0
 ·rw [if_pos A] at R ac ⊢
  exact R F2 aw ac ax ay
 ·rw [if_neg A] at R ac ⊢
  exact R F2 aw ac ax ay
end
section
section
variable {S:List Nat} {w:World} {s:Sl} {ps:Kps}
theorem RdK.take3 (h:RdK S w s ps) {hi:Int} (b:Nat) {K:Sl->Prop} (A:hi=b) (E:b<=ps.length) (G:∀ u,RdK S w u (ps.take b)->K u):slc s none (some hi) (some hi) 1 K:=
 Rds.part3 h.1 b A (by rw [zK]; exact E) fun u C=>G u ⟨by rw [<- xO] at C; exact C,fun p I=>h.2 p (yU I)⟩
theorem RdK.from (h:RdK S w s ps) {lo:Int} (a:Nat) {K:Sl->Prop} (A:lo=a) (E:a<=ps.length) (G:∀ u,RdK S w u (ps.drop a)->K u):slc s (some lo) none none 1 K:=
 Rds.part h.1 a ps.length A (by rw [xW,h.len]) E (by rw [zK]; exact zM _) fun u _ C _=>G u ⟨by
  have e:(slsP ps).take ps.length=slsP ps:=zS (by rw [zK]; exact zM _)
  rw [e,<- xP] at C; exact C,fun p I=>h.2 p (yT I)⟩
theorem RdK.upto (h:RdK S w s ps) {hi:Int} (b:Nat) {K:Sl->Prop} (A:hi=b) (E:b<=ps.length) (G:∀ u,RdK S w u (ps.take b)->K u):slc s none (some hi) none 1 K:=
 Rds.part h.1 0 b rfl A (yW _) (by rw [zK]; exact E) fun u _ C _=>G u ⟨by
  rw [xE,<- xO] at C; exact C,fun p I=>h.2 p (yU I)⟩
theorem qcq (ps:Kps) (b:Nat):keyP (ps.take b)=(keyP ps).take b:=xO
theorem qbO (ps:Kps) (b:Nat):keyP (ps.drop b)=(keyP ps).drop b:=xP
theorem qc2 {ps:Kps} {i:Nat} (hi:i<ps.length):(keyP ps).getD i []=ps[i].2:=by
 rw [yQ,zQ,zA hi]; rfl
theorem Rds.from1 {α:Type} {enc:α->List Value} {l:List α} (h:Rds enc 1 S w s l) {lo:Int} (a:Nat) {K:Sl->Prop} (A:lo=a) (E:a<=l.length) (G:∀ u,Rds enc 1 S w u (l.drop a)->K u):slc s (some lo) none none 1 K:=
 Rds.part h a l.length A (by rw [xW,h.1]) E (zM _) fun u _ C _=>G u (by rw [xZ] at C; exact C)
theorem Rds.upto1 {α:Type} {enc:α->List Value} {l:List α} (h:Rds enc 1 S w s l) {hi:Int} (b:Nat) {K:Sl->Prop} (A:hi=b) (E:b<=l.length) (G:∀ u,Rds enc 1 S w u (l.take b)->K u):slc s none (some hi) none 1 K:=
 Rds.part h 0 b rfl A (yW _) E fun u _ C _=>G u (by rw [xE] at C; exact C)
end
section
variable {S:List Nat} {w:World} {x:NdC} {n:NodeM} {k v:Nat}
def MidOk (n:NodeM) (mid:Nat):Prop:=if n.leaf then mid<n.keys.length/\mid<=n.vals.length else 1<=mid/\mid<=n.keys.length/\mid<=n.kids.length
theorem qqz {mid:Nat} {K:NdC×NdC×Sl->WP} (hx:NodeR S w x n) (hm:MidOk n mid) (hl:mid<=1000000)
  (kk:∀ xl xr ks w',NodeR S w' xl (halvesN n mid).1->NodeR S w' xr (halvesN n mid).2.1->RdB S w' ks (halvesN n mid).2.2->Fr [] w w'->K (xl,xr,ks) w') :
  cW 175 [.agg (ndV x),.i mid] [.agg qac,.agg qac,.one .slice] w K:=by
 have aE:=hx
 obtain ⟨h0,A,⟨pk,C,u⟩,⟨pv,V,E⟩,J⟩:=hx
 have l1:pk.length=n.keys.length:=by rw [<- u,zK]
 have l2:pv.length=n.vals.length:=by rw [<- E,zK]
 refine qls ?_
 unfold qhc
 have h:=Own.start [] w
 refine Own.new' h fun r1 w2 _ f h=>?_
 refine Own.new' h fun r3 w4 _ f h=>?_
 refine Own.new' h fun r5 w6 _ f h=>?_
 have h:=Own.drew h
 refine ⟨?a,?b⟩
 case' a=>
  refine Own.ldA h 2 rfl x rfl ?_
  refine Own.ldA h 2 rfl x rfl ?_
  refine Own.new' h fun r9 au _ f h=>?_
  refine qar (h.cells 3 rfl rfl) (h.cells 3 rfl rfl) ?_
  refine Own.new' h fun av aw _ f h=>?_
  refine qar (h.cells 4 rfl rfl) (h.cells 4 rfl rfl) ?_
  refine Own.sz h 1 rfl (ndV x) fun ax h f=>?_
  refine qah (h.cells 4 rfl rfl) ?_
  refine Own.sz h 0 rfl (ndV x) fun ay h f=>?_
 case' b=>
  refine Own.ldA h 2 rfl x rfl ?_
  refine Own.ldA h 2 rfl x rfl ?_
  refine Own.new' h fun av au _ f h=>?_
  refine qar (h.cells 3 rfl rfl) (h.cells 3 rfl rfl) ?_
  refine Own.new' h fun r9 aw _ f h=>?_
  refine qar (h.cells 4 rfl rfl) (h.cells 4 rfl rfl) ?_
  refine Own.sz h 0 rfl (ndV x) fun ax h f=>?_
  refine qah (h.cells 4 rfl rfl) ?_
  refine Own.sz h 1 rfl (ndV x) fun ay h f=>?_
  have h:=qf7 h (List.Perm.swap _ _ _)
 all_goals
  refine Own.ld h 4 rfl x.1 rfl ?_
  refine qaa (fun hc=>?_) (fun hc=>?_)
  ·rw [h0] at hc
   unfold MidOk at hm
   rw [if_pos hc] at hm
   have hH:halvesN n mid=({ n with keys:=n.keys.take mid,vals:=n.vals.take mid },{ n with keys:=n.keys.drop mid,vals:=n.vals.drop mid },n.keys.getD mid []):=by unfold halvesN; rw [if_pos hc]
   rw [hH] at kk
   have h:=Own.drew h
   refine Own.ld h 4 rfl x.2.1 rfl ?_
   refine RdK.take3 C mid rfl (by omega) fun O ag=>?_
   refine Own.ld h 4 rfl x.2.2.1 rfl ?_
   refine RdK.take3 V mid rfl (by omega) fun aa ah=>?_
   refine Own.sz h 1 rfl (ndV (x.1,O,x.2.2.1,x.2.2.2)) fun aG h f=>?_
   refine qah (h.cell 4 rfl rfl) ?_
   refine Own.sz h 1 rfl (ndV (x.1,O,aa,x.2.2.2)) fun aH h f=>?_
   have h:=Own.drew h
   refine Own.ld h 4 rfl x.2.1 rfl ?_
   refine RdK.from C mid rfl (by omega) fun Q ai=>?_
   refine Own.ld h 4 rfl x.2.2.1 rfl ?_
   refine RdK.from V mid rfl (by omega) fun ab aj=>?_
   refine Own.sz h 0 rfl (ndV (x.1,Q,x.2.2.1,x.2.2.2)) fun aI h f=>?_
   refine qah (h.cell 4 rfl rfl) ?_
   refine Own.sz h 0 rfl (ndV (x.1,Q,ab,x.2.2.2)) fun aJ h f=>?_
   have h:=Own.drew h
   refine Own.ldA h 1 rfl (x.1,O,aa,x.2.2.2) rfl ?_
   refine Own.ldA h 0 rfl (x.1,Q,ab,x.2.2.2) rfl ?_
   refine Own.ld h 4 rfl x.2.1 rfl ?_
   have G:mid<pk.length:=by omega
   refine RdK.get' (C.frame0 h.fr) mid rfl G fun aK I hh=>?_
   refine Own.sz h 3 rfl (ndV (x.1,O,aa,x.2.2.2)) fun aL h f=>?_
   refine qan (hh _ (C.frame0 h.fr)) (h.cell 4 rfl rfl) (h.cells 0 rfl rfl) ?_
   refine Own.sz h 2 rfl (ndV (x.1,Q,ab,x.2.2.2)) fun aA h f=>?_
   refine qar (hh _ (C.frame0 h.fr)) (h.cell 4 rfl rfl) ?_
   refine Own.ldA h 3 rfl (x.1,O,aa,x.2.2.2) rfl ?_
   refine Own.ldA h 2 rfl (x.1,Q,ab,x.2.2.2) rfl ?_
   refine kk _ _ _ aA ⟨h0,⟨fun a I=>A.1 a (yU I),fun a I=>A.2.1 a (yU I),A.2.2⟩,⟨pk.take mid,ag.frame0 h.fr,by rw [qcq,u]⟩,⟨pv.take mid,ah.frame0 h.fr,by rw [qcq,E]⟩,J.frame0 h.fr⟩
    ⟨h0,⟨fun a I=>A.1 a (yT I),fun a I=>A.2.1 a (yT I),A.2.2⟩,⟨pk.drop mid,ai.frame0 h.fr,by rw [qbO,u]⟩,⟨pv.drop mid,aj.frame0 h.fr,by rw [qbO,E]⟩,J.frame0 h.fr⟩ ?_ h.fr
   rw [<- u,qc2 G]
   exact (C.2 _ (zW G)).frame0 h.fr
  ·rw [h0] at hc
   have al:¬ n.leaf=true:=by rw [hc]; decide
   unfold MidOk at hm
   rw [if_neg al] at hm
   have hH:halvesN n mid=({ n with kids:=n.kids.take mid,keys:=n.keys.take (mid-1) },{ n with kids:=n.kids.drop mid,keys:=n.keys.drop mid },n.keys.getD (mid-1) []):=by unfold halvesN; rw [if_neg al]
   rw [hH] at kk
   have em:IntKind.wrap .i64 ((mid:Int)-1)=((mid-1:Nat):Int):=by rw [wi' _ (by omega)]; omega
   have h:=Own.drew h
   refine Own.ld h 4 rfl x.2.2.2 rfl ?_
   refine Rds.part3 J mid rfl (by omega) fun R am=>?_
   refine Own.ld h 4 rfl x.2.1 rfl ?_
   refine RdK.take3 C (mid-1) em (by omega) fun ac an=>?_
   refine Own.sz h 1 rfl (ndV (x.1,x.2.1,x.2.2.1,R)) fun aM h f=>?_
   refine qah (h.cell 4 rfl rfl) ?_
   refine Own.sz h 1 rfl (ndV (x.1,ac,x.2.2.1,R)) fun aN h f=>?_
   have h:=Own.drew h
   refine Own.ld h 4 rfl x.2.2.2 rfl ?_
   refine Rds.from1 J mid rfl (by omega) fun U ao=>?_
   refine Own.ld h 4 rfl x.2.1 rfl ?_
   refine RdK.from C mid rfl (by omega) fun ad ap=>?_
   refine Own.sz h 0 rfl (ndV (x.1,x.2.1,x.2.2.1,U)) fun aO h f=>?_
   refine qah (h.cell 4 rfl rfl) ?_
   refine Own.sz h 0 rfl (ndV (x.1,ad,x.2.2.1,U)) fun aP h f=>?_
   have h:=Own.drew h
   refine Own.ldA h 1 rfl (x.1,ac,x.2.2.1,R) rfl ?_
   refine Own.ldA h 0 rfl (x.1,ad,x.2.2.1,U) rfl ?_
   refine Own.ld h 4 rfl x.2.1 rfl ?_
   have G:mid-1<pk.length:=by omega
   refine RdK.get' (C.frame0 h.fr) (mid-1) em G fun aQ I hh=>?_
   refine Own.sz h 3 rfl (ndV (x.1,ac,x.2.2.1,R)) fun aR h f=>?_
   refine qan (hh _ (C.frame0 h.fr)) (h.cell 4 rfl rfl) (h.cells 0 rfl rfl) ?_
   refine Own.sz h 2 rfl (ndV (x.1,ad,x.2.2.1,U)) fun aB h f=>?_
   refine qar (hh _ (C.frame0 h.fr)) (h.cell 4 rfl rfl) ?_
   refine Own.ldA h 3 rfl (x.1,ac,x.2.2.1,R) rfl ?_
   refine Own.ldA h 2 rfl (x.1,ad,x.2.2.1,U) rfl ?_
   refine kk _ _ _ aB ⟨h0,⟨fun a I=>A.1 a (yU I),A.2.1,fun a I=>A.2.2 a (yU I)⟩,⟨pk.take (mid-1),an.frame0 h.fr,by rw [qcq,u]⟩,⟨pv,V.frame0 h.fr,E⟩,am.frame0 h.fr⟩
    ⟨h0,⟨fun a I=>A.1 a (yT I),A.2.1,fun a I=>A.2.2 a (yT I)⟩,⟨pk.drop mid,ap.frame0 h.fr,by rw [qbO,u]⟩,⟨pv,V.frame0 h.fr,E⟩,ao.frame0 h.fr⟩ ?_ h.fr
   rw [<- u,qc2 G]
   exact (C.2 _ (zW G)).frame0 h.fr
end
end
section
structure Sg (S0:List Nat) (w0 wa:World) (F T:List Nat):Prop where
 tot:Fr S0 w0 wa
 new:∀ b∈F,b∈S0\/w0.heap.size<=b
 own:∀ b∈T,b∈S0\/w0.heap.size<=b
abbrev bks (L:List (Nat×Obj)):List Nat:=L.map (·.1)
section
variable {dbk pb j:Nat} {FD S0 Y Y0 F0 F F' T:List Nat} {D:DiskM} {w0 wa w w':World} {M M':PgM} {L:List (Nat×Obj)}
theorem Sg.start (F:List Nat) (w:World):Sg F w w F []:=⟨.refl _ _,fun b u=>.inl u,fun _ h=>nomatch h⟩
theorem Sg.fr (g:Sg S0 w0 wa F T) (h:Own T wa w L):Fr S0 w0 w:=g.tot.trans' h.fr g.own
theorem Sg.bks (g:Sg S0 w0 wa F T) (h:Own T wa w L):∀ b∈bks L,b∈S0\/w0.heap.size<=b:=fun b A=>by
 obtain ⟨q,C,rfl⟩:=mem_map.1 A
 rcases h.own q C with u | u
 ·exact g.own _ u
 ·exact .inr (zL g.tot.size u)
theorem qhW (h:Own T wa w L):∀ b∈bks L,b<w.heap.size:=fun b u=>by
 obtain ⟨q,A,rfl⟩:=mem_map.1 u
 exact qab (h.blk q A)
theorem TW.now (A:TW dbk pb FD D j wa (T++Y) F M) (h:Own T wa w L):TW dbk pb FD D j w (bks L++Y) F M:=
 A.frameY (h.fr.mono fun b u _=>by simp [u]) (fun b u=>(zD.1 u).elim (qhW h b) fun u=>yC (A.ylt b (by simp [u])) h.fr.size) fun b u=>(zD.1 u).elim (fun u=>by
  obtain ⟨q,C,rfl⟩:=mem_map.1 u
  exact (h.own q C).imp (fun h=>zH _ h) id) fun u=>.inl (zI _ u)
theorem TW.now0 (u:TW dbk pb FD D j wa Y F M) (h:Own [] wa w L):TW dbk pb FD D j w (bks L++Y) F M:=TW.now (T:=[]) u h
theorem qaK {S:List Nat} (h:Own T wa w L) (f:Fr S w w') (A:∀ b∈bks L,b∉S):Own (bks L) w' w' L:=
 ⟨fun q u=>by rw [f.block q.1 (qab (h.blk q u)) (A _ (zY u))]; exact h.blk q u,h.nodup,.refl _ _,fun q u=>.inl (zY u)⟩
theorem TW.own (u:TW dbk pb FD D j w (bks L++Y) F M) (h:Own T wa w L) (f:Fr F w w'):Own (bks L) w' w' L:=qaK h f fun b A=>u.yf b (by simp [A])
theorem Sg.next (g:Sg S0 w0 wa F T) (h:Own T wa w L) (f:Fr F w w') (n:∀ b∈F',b∈F\/w.heap.size<=b):Sg S0 w0 w' F' (Go.Proofs.YtmmkegapckbomaaGreatDoor.bks L):=
 ⟨(g.fr h).trans' f g.new,fun b u=>(n b u).elim (g.new b) fun A=>.inr (zL (g.fr h).size A),g.bks h⟩
theorem Sg.next0 (g:Sg S0 w0 wa F T) (h:Own T wa w L) (f:Fr [] w w'):Sg S0 w0 w' F (Go.Proofs.YtmmkegapckbomaaGreatDoor.bks L):=
 ⟨(g.fr h).trans' f fun _ h=>(nomatch h),g.new,g.bks h⟩
theorem qjS (h:Own T wa w L):∀ b∈Zo FD (Go.Proofs.YtmmkegapckbomaaGreatDoor.bks L++Y) F,b∈Zo FD (T++Y) F\/wa.heap.size<=b:=fun b u=>by
 rcases zD.1 u with u | u
 ·rcases zD.1 u with u | u
  ·exact .inl (by simp [u])
  ·rcases zG.1 u with u | u
   ·exact .inl (by simp [u])
   ·rcases zD.1 u with u | u
    ·obtain ⟨q,A,rfl⟩:=mem_map.1 u
     exact (h.own q A).imp (fun h=>by simp [h]) id
    ·exact .inl (by simp [u])
 ·exact .inl (by simp [u])
theorem qdQ {S:List Nat}:∀ b∈Zo FD Y F,b∈Zo FD (S++Y) F:=fun b h=>by
 simp only [Zo,zD,zG] at h ⊢
 rcases h with (h | h | h) | h <;> simp [h]
theorem zoF {b:Nat} (h:b∈F):b∈Zo FD Y F:=zI _ h
theorem NodeR.now {x:NdC} {n:NodeM} (u:NodeR (Zo FD (T++Y) F) wa x n) (h:Own T wa w L):NodeR (Zo FD (bks L++Y) F) w x n:=u.frame (h.fr.mono fun b A _=>by simp [A]) (qjS h)
theorem NodeR.now0 {x:NdC} {n:NodeM} (u:NodeR (Zo FD Y F) wa x n) (h:Own [] wa w L):NodeR (Zo FD (bks L++Y) F) w x n:=NodeR.now (T:=[]) u h
theorem NodeR.next {x:NdC} {n:NodeM} (h:NodeR (Zo FD Y F) w x n) (f:Fr F w w') (u:∀ b∈F',b∈F\/w.heap.size<=b):NodeR (Zo FD Y F') w' x n:=h.frame (f.mono fun b A _=>zoF A) (TW.znew u)
theorem qaF {s:Sl} {l:Key} (u:RdB (Zo FD (T++Y) F) wa s l) (h:Own T wa w L):RdB (Zo FD (bks L++Y) F) w s l:=u.frame (h.fr.mono fun b A _=>by simp [A]) (qjS h)
theorem qbE {s:Sl} {l:Key} (u:RdB (Zo FD Y F) wa s l) (h:Own [] wa w L):RdB (Zo FD (bks L++Y) F) w s l:=qaF (T:=[]) u h
theorem qnP {s:Sl} {l:Key} (h:RdB (Zo FD Y F) w s l) (f:Fr F w w') (u:∀ b∈F',b∈F\/w.heap.size<=b):RdB (Zo FD Y F') w' s l:=h.frame (f.mono fun b A _=>zoF A) (TW.znew u)
theorem qjt {S:List Nat} {s:Sl} {l:Key} (h:RdB (Zo FD (S++Y) F) w s l):RdB (Zo FD Y F) w s l:=h.frame (.refl _ _) fun b u=>.inl (qdQ b u)
theorem TW.drop0 (h:TW dbk pb FD D j w (T++Y) F M):TW dbk pb FD D j w Y F M:=h.weakY fun b u=>zI _ u
abbrev GrC:=Int×Bool×Sl×Int
def grX (g:Grown) (ks:Sl):GrC:=(g.page,g.fresh,ks,g.other)
abbrev GR:TypeId:=192
def grV (x:GrC):Array Value:=#[.u x.1,.bool x.2.1,x.2.2.1.v,.u x.2.2.2]
theorem qc7:U32 0:=⟨by decide,by decide⟩
theorem qno {k:Int} {b:List Int} (h:M.Wf):U32 (makeV M k b).1.1:=by
 unfold makeV
 split
 ·exact qc7
 ·split
  ·exact qc7
  ·split
   ·exact qc7
   ·rename_i n r u
    have:=h.range n (by rw [u]; simp)
    have:=h.n4
    exact ⟨by dsimp only; omega,by dsimp only; omega⟩
theorem qbk {k v:Nat} {p:Int} {n:NodeM} (h:M.Wf) (u:U32 p):U32 (storeN k v M p n).1.1:=by
 unfold storeN
 split
 ·exact qc7
 ·split
  ·exact u
  ·split
   ·exact qno h
   ·exact qno h
structure GOk (g:Grown):Prop where
 page:U32 g.page
 other:U32 g.other
 key:IsB g.key
theorem IsB.nil:IsB []:=fun _ h=>nomatch h
theorem qjl:GOk zeroG:=⟨⟨by decide,by decide⟩,⟨by decide,by decide⟩,.nil⟩
theorem qa2 {l:List Key} (h:∀ a∈l,IsB a) (i:Nat):IsB (l.getD i []):=by
 rw [yQ]
 cases e:l[i]? with
 | none=>exact .nil
 | some a=>exact h a (yE e)
theorem qlF {x:NdC} {n:NodeM} {p:Int} {k v:Nat} {t:Int} {fresh:Bool} {K:GrC×Int->WP} (hT:TW dbk pb FD D j w0 Y F M) (hx:NodeR (Zo FD Y F) w0 x n) (h1:n.keys.length<=100000) (h2:n.vals.length<=100000) (h3:n.kids.length<=100000)
  (hm:(sizeN n k v).1>(sizeN n k v).2->MidOk n ((sizeN n k v).1 / 2)) (hp:U32 p)
  (kk:∀ ks F' w',GOk (splitN k v M p n fresh).1.1->TW dbk pb FD D j w' Y F' (splitN k v M p n fresh).2->RdB (Zo FD Y F') w' ks (splitN k v M p n fresh).1.1.key->Fr F w0 w'->(∀ b∈F',b∈F\/w0.heap.size<=b)->K (grX (splitN k v M p n fresh).1.1 ks,(splitN k v M p n fresh).1.2) w') :
  cW 139 [.agg (wkV (wkX k v pb t)),.u p,.agg (ndV x),.bool fresh] [.agg qaV,.one .i] w0 K:=by
 refine qhL ?_
 unfold qd7
 have h:=Own.start [] w0
 have g:=Sg.start F w0
 have hl:=hx.lens
 have aD:(sizeN n k v).1<=100000:=by unfold sizeN; split <;> assumption
 refine Own.new' h fun r1 w2 _ f h=>?_
 refine Own.new' h fun r3 w4 _ f h=>?_
 refine Own.new' h fun r5 w6 _ f h=>?_
 refine Own.new' h fun r7 w8 _ f h=>?_
 refine Own.sz h 0 rfl (grV (0,fresh,⟨none,0,0⟩,0)) fun w9 h f=>?_
 refine Own.ldA h 3 rfl (shX k v) rfl ?_
 refine Own.ldA h 2 rfl x rfl ?_
 refine qk8 (k:=k) (v:=v) hl fun aI ak=>?_
 have h:=h.frame0 ak
 refine qag (fun _ w'=>∃ (x':NdC) (n':NodeM) (ks:Sl) (key:Key) (o:Int) (F' T:List Nat) (wa:World) (M':PgM),Sg F w0 wa F' T/\TW dbk pb FD D j wa (T++Y) F' M'/\Own T wa w' [(r7,.cells (grV (0,fresh,ks,o)) GR (0,0)),(r5,.cells (grV (0,false,⟨none,0,0⟩,0)) GR (0,0)),(r3,.cells (ndV x') ND (0,0)),(r1,.cells (wkV (wkX k v pb t)) WK (0,0))]/\
   NodeR (Zo FD (T++Y) F') wa x' n'/\RdB (Zo FD (T++Y) F') wa ks key/\n'.keys.length<=100000/\n'.vals.length<=100000/\n'.kids.length<=100000/\U32 o/\IsB key/\splitN k v M p n fresh=((⟨(storeN k v M' p n').1.1,fresh,key,o⟩,(storeN k v M' p n').1.2),(storeN k v M' p n').2)) ?_ ?_
 ·refine qaa (fun G=>?_) (fun G=>?_)
  ·have G:(sizeN n k v).1>(sizeN n k v).2:=by have:=zC G; dsimp only at this; omega
   have ae:=hm G
   have J:IntKind.wrap .i64 (Int.tdiv ((sizeN n k v).1:Int) 2)=(((sizeN n k v).1 / 2:Nat):Int):=by rw [Int.tdiv_eq_ediv_of_nonneg (by omega),wi' _ (by omega)]; rfl
   generalize af:(sizeN n k v).1 / 2=A at ae J
   refine Own.ldA h 2 rfl x rfl ?_
   dsimp only
   rw [J]
   have C:=hT.now0 h
   refine qqz (hx.now0 h) ae (by omega) fun xl xr ks aJ al am R U=>?_
   have O:=C.frame0 U
   have g:=g.next0 h U
   have h:=qaK h U fun _ _ h=>nomatch h
   refine Own.new' h fun aK aL _ f h=>?_
   refine Own.new' h fun aM aN _ f h=>?_
   refine Own.sz h 1 rfl (ndV xl) fun aO h f=>?_
   refine Own.sz h 0 rfl (ndV xr) fun aP h f=>?_
   refine Own.ldA h 5 rfl (wkX k v pb t) rfl ?_
   refine Own.ldA h 0 rfl xr rfl ?_
   have hH:(halvesN n A).1.keys.length<=100000/\(halvesN n A).1.vals.length<=100000/\(halvesN n A).1.kids.length<=100000/\(halvesN n A).2.1.keys.length<=100000/\(halvesN n A).2.1.vals.length<=100000/\(halvesN n A).2.1.kids.length<=100000:=by
    unfold halvesN
    split <;> simp only [yK,yB] <;> omega
   refine qbj (O.now h) (am.now h) (by omega) (by omega) (by omega) fun F1 ap Q I V=>?_
   have aa:=(al.now h).next I V
   have ab:=qnP (qaF R h) I V
   have g:=g.next h I V
   have h:=(O.now h).own h I
   refine qaa (fun E=>?_) (fun E=>?_)
   ·have aq:(storeN k v M 0 (halvesN n A).2.1).1.2≠0:=by
     rw [zT] at E
     exact zR.1 E
    have e:splitN k v M p n fresh=((zeroG,(storeN k v M 0 (halvesN n A).2.1).1.2),(storeN k v M 0 (halvesN n A).2.1).2):=by
     unfold splitN
     rw [if_pos G,af,if_pos aq]
    rw [e] at kk
    refine Own.sz h 3 rfl (grV (0,false,⟨none,0,0⟩,0)) fun ar h f=>?_
    refine Own.ldA h 3 rfl (0,false,⟨none,0,0⟩,0) rfl ?_
    exact kk ⟨none,0,0⟩ F1 ar qjl (Q.now h).drop0 (.nil _ _ _ _) (g.fr h) g.new
   ·have he:¬ (storeN k v M 0 (halvesN n A).2.1).1.2≠0:=fun e=>by
     rw [yD,yO] at E
     exact e E
    refine Own.ldA h 1 rfl xl rfl ?_
    refine Own.sz h 4 rfl (ndV xl) fun aR h f=>?_
    refine Own.st' h 2 rfl (grV (0,fresh,⟨none,0,0⟩,(storeN k v M 0 (halvesN n A).2.1).1.1)) rfl rfl (zO rfl) fun aS h f=>?_
    refine Own.st' h 2 rfl (grV (0,fresh,ks,(storeN k v M 0 (halvesN n A).2.1).1.1)) rfl rfl (zO rfl) fun aT h f=>?_
    refine ⟨xl,(halvesN n A).1,ks,(halvesN n A).2.2,_,F1,_,ap,_,g,Q,h.sub (.cons _ (.cons _ (.refl _))),aa,ab,hH.1,hH.2.1,hH.2.2.1,qbk hT.wf ⟨by decide,by decide⟩,?_,?_⟩
    ·unfold halvesN
     split
     ·exact qa2 hx.2.1.1 _
     ·exact qa2 hx.2.1.1 _
    unfold splitN
    rw [if_pos G,af,if_neg he]
  ·have G:¬ (sizeN n k v).1>(sizeN n k v).2:=by have:=zB G; dsimp only at this; omega
   refine ⟨x,n,⟨none,0,0⟩,[],0,F,[],w0,M,g,hT,h,hx,.nil _ _ _ _,h1,h2,h3,⟨by decide,by decide⟩,.nil,?_⟩
   unfold splitN
   rw [if_neg G]
 ·rintro aU aV ⟨x',n',ks,key,o,F1,T,wa,M',g,C,h,au,av,l1,l2,l3,uo,bk,e⟩
  rw [e] at kk
  refine Own.ldA h 3 rfl (wkX k v pb t) rfl ?_
  refine Own.ldA h 2 rfl x' rfl ?_
  refine qbj (C.now h) (au.now h) (by omega) (by omega) (by omega) fun F2 aZ ag ac ah=>?_
  have R:=qnP (qaF av h) ac ah
  have g:=g.next h ac ah
  have h:=(C.now h).own h ac
  refine Own.sz h 0 rfl (grV ((storeN k v M' p n').1.1,fresh,ks,o)) fun a0 h f=>?_
  refine Own.ldA h 0 rfl ((storeN k v M' p n').1.1,fresh,ks,o) rfl ?_
  refine Own.sz h 1 rfl (grV ((storeN k v M' p n').1.1,fresh,ks,o)) fun aw h f=>?_
  refine Own.ldA h 1 rfl ((storeN k v M' p n').1.1,fresh,ks,o) rfl ?_
  exact kk ks F2 aw ⟨qbk C.wf hp,uo,bk⟩ (ag.now h).drop0 (qjt (qaF R h)) (g.fr h) g.new
end
end
section
section
variable {Z:List Nat} {w w':World} {s:Sl} {l:List Key} {B:List Nat}
theorem qlK {α β:Type} (f:α->β) (l:List α) (i:Nat) (x:α):(insAt l i x).map f=insAt (l.map f) i (f x):=by unfold insAt; rw [xM,xM,xO,xP]; rfl
theorem qlA {α β:Type} (f:α->β) (l:List α) (i:Nat):(delAt l i).map f=delAt (l.map f) i:=by unfold delAt; rw [xM,xO,xP]
theorem qeK {α:Type} {l:List α} {i:Nat} {y:α} (h:y∈delAt l i):y∈l:=by
 unfold delAt at h
 exact (zD.1 h).elim yU yT
abbrev NewZ (Z:List Nat) (w:World) (Z':List Nat):Prop:=∀ b∈Z',b∈Z\/w.heap.size<=b
theorem qfA {pk pk':Kps} {Z':List Nat} {C:Sl} {B':List Nat} {l':List Key} (E:∀ p∈pk,RdB Z w p.1 p.2) (u:Buf encSl 1 w' C (slsP pk') B') (e:keyP pk'=l') (f:Fr B w w') (A:∀ b∈B,b∈Z) (G:NewZ Z w Z') (I:∀ p∈pk',p∈pk\/RdB Z w p.1 p.2):BufK Z' w' C l' B':=
 ⟨pk',u,e,fun p h=>((I p h).elim (E p) id).frame (f.mono fun b u _=>A b u) G⟩
theorem BufK.ins {i:Nat} {ii:Int} {ks:Sl} {key:Key} {vb:Nat} {T':TypeId} {K:Sl->WP} (h:BufK Z w s l B) (A:∀ b∈B,b∈Z) (hi:i<=l.length) (I:ii=i) (G:l.length<=100000) (J:w.heap[vb]?=some (.cells #[elSl ks] T' (0,0))) (C:vb∉B) (O:RdB Z w ks key)
  (Q:∀ u B' w',(∀ Z',NewZ Z w Z'->BufK Z' w' u (insAt l i key) B')->Fr B w w'->(∀ b∈B',b∈B\/w.heap.size<=b)->K u w') :
  cW 138 [s.v,.i ii,.slice (pW vb) 1 1] [.one .slice] w K:=by
 obtain ⟨pk,R,rfl,E⟩:=h
 rw [zK] at hi G
 refine qpp R (by rw [zK]; exact hi) I (by rw [zK]; exact G) J C fun u B' w' U f n=>Q u B' w' (fun Z' V=>qfA (pk':=insAt pk i (ks,key)) E (by rw [show slsP (insAt pk i (ks,key))=insAt (slsP pk) i ks from qlK _ _ _ _]; exact U) (qlK _ _ _ _) f A V fun p E=>?_) f n
 rcases qeq E with rfl | h
 ·exact .inr O
 ·exact .inl h
theorem BufK.del {i:Nat} {ii jj:Int} {K:Sl->WP} (h:BufK Z w s l B) (A:∀ b∈B,b∈Z) (hi:i<l.length) (G:ii=i) (I:jj=((i+1:Nat):Int)) (E:l.length<=100000)
  (J:∀ u w',(∀ Z',NewZ Z w Z'->BufK Z' w' u (delAt l i) B)->Fr B w w'->K u w') :
  cW 141 [s.v,.i ii,.i jj] [.one .slice] w K:=by
 obtain ⟨pk,O,rfl,C⟩:=h
 rw [zK] at hi E
 exact qpS O (by rw [zK]; exact hi) G I (by rw [zK]; exact E) fun u w' Q f=>J u w' (fun Z' R=>qfA (pk':=delAt pk i) C (by rw [show slsP (delAt pk i)=delAt (slsP pk) i from qlA _ _ _]; exact Q) (qlA _ _ _) f A R fun p C=>.inl (qeK C)) f
theorem BufK.set {i:Nat} {ii:Int} {ks:Sl} {key:Key} {K:WP} (h:BufK Z w s l B) (u:∀ b∈B,b∈Z) (hi:i<l.length) (E:ii=i) (G:RdB Z w ks key)
  (I:∀ w',(∀ Z',NewZ Z w Z'->BufK Z' w' s (l.set i key) B)->Fr B w w'->K w'):idx s ii 1 fun a=>st a [ks.v] w K:=by
 obtain ⟨pk,C,rfl,A⟩:=h
 rw [zK] at hi
 refine Buf.idxAt C E (by rw [zK]; exact hi) fun b J=>?_
 subst J
 refine Buf.stAt (e:=elSl) (x:=ks) (fun _=>rfl) C (by rw [zK]; exact hi) rfl rfl fun w' O f=>I w' (fun Z' Q=>qfA (pk':=pk.set i (ks,key)) A (by rw [show slsP (pk.set i (ks,key))=(slsP pk).set i ks from map_set]; exact O) (map_set) f u Q fun p A=>?_) f
 rcases mem_or_eq_of_mem_set A with h | rfl
 ·exact .inl h
 ·exact .inr G
theorem BufK.app1 {ks:Sl} {key:Key} {vb:Nat} {T':TypeId} {K:Sl->WP} (h:BufK Z w s l B) (A:∀ b∈B,b∈Z) (E:l.length<=100000) (G:w.heap[vb]?=some (.cells #[elSl ks] T' (0,0))) (I:RdB Z w ks key)
  (J:∀ u B' w',(∀ Z',NewZ Z w Z'->BufK Z' w' u (l++[key]) B')->Fr B w w'->(∀ b∈B',b∈B\/w.heap.size<=b)->K u w') :
  Pt.run [Ty1.one Cell.slice] ((Builtin.append_ #[22,22] 22 #[s.v,.slice (pW vb) 1 1]).run Tryz.prog w) K:=by
 obtain ⟨pk,O,rfl,C⟩:=h
 rw [zK] at E
 refine appK O (by rw [zK]; exact E) G fun u B' w' Q f n=>J u B' w' (fun Z' R=>qfA (pk':=pk++[(ks,key)]) C (by rw [show slsP (pk++[(ks,key)])=slsP pk++[ks] by simp]; exact Q) (by simp) f A R fun p C=>?_) f n
 rcases zD.1 C with h | h
 ·exact .inl h
 ·rw [zE.1 h]; exact .inr I
theorem BufK.appAll {S:List Nat} {src:Sl} {ps:Kps} {K:Sl->WP} (h:BufK Z w s l B) (C:∀ b∈B,b∈Z) (Q:l.length+ps.length<=100000) (u:Rds encSl 1 S w src (slsP ps)) (E:∀ p∈ps,RdB Z w p.1 p.2)
  (R:∀ A B' w',(∀ Z',NewZ Z w Z'->BufK Z' w' A (l++keyP ps) B')->Fr B w w'->(∀ b∈B',b∈B\/w.heap.size<=b)->K A w') :
  Pt.run [Ty1.one Cell.slice] ((Builtin.append_ #[22,22] 22 #[s.v,src.v]).run Tryz.prog w) K:=by
 obtain ⟨pk,U,rfl,G⟩:=h
 rw [zK] at Q
 obtain ⟨V,I,hz,J,O⟩:=qkh
 refine Buf.appSrc (ys:=slsP ps) (e:=23) U qcl (by kernel_rfl) I hz J rfl (qdN (e':=23) u qcl qrt (by kernel_rfl)) u.1 (by rw [O,zK,u.1,zK]; omega) (by rw [zK,u.1,zK]; omega) fun A B' w' b' f n _=>R A B' w' (fun Z' hZ=>qfA (pk':=pk++ps) G (by rw [show slsP (pk++ps)=slsP pk++slsP ps by simp]; exact b') (by simp) f C hZ fun p G=>?_) f n
 rcases zD.1 G with h | h
 ·exact .inl h
 ·exact .inr (E p h)
theorem qtU {S:List Nat} {src:Sl} {l ys:List Int} {K:Sl->WP} (h:Buf encU 1 w s l B) (V:l.length+ys.length<=100000) (A:Rds encU 1 S w src ys)
  (J:∀ C B' w',Buf encU 1 w' C (l++ys) B'->Fr B w w'->(∀ b∈B',b∈B\/w.heap.size<=b)->K C w') :
  Pt.run [Ty1.one Cell.slice] ((Builtin.append_ #[92,92] 92 #[s.v,src.v]).run Tryz.prog w) K:=by
 obtain ⟨O,E,Q,G,I⟩:=qdY
 exact Buf.appSrc (ys:=ys) (e:=37) h qaZ (by kernel_rfl) E Q G rfl (qdN (e':=37) A qaZ (fun x u R=>by rw [zE.1 R]; rfl) (by kernel_rfl)) A.1 (by rw [I,A.1]; omega) (by rw [A.1]; omega) fun C B' w' U f n _=>J C B' w' U f n
theorem quS {l:List Int} {i:Nat} {ii x:Int} {K:WP} (h:Buf encU 1 w s l B) (hi:i<l.length) (A:ii=i) (C:∀ w',Buf encU 1 w' s (l.set i x) B->Fr B w w'->K w'):idx s ii 1 fun a=>st a [.u x] w K:=by
 refine Buf.idxAt h A hi fun b E=>?_
 subst E
 exact Buf.stAt (e:=elU) (x:=x) (fun _=>rfl) h hi rfl rfl C
end
section
variable {Z:List Nat} {w:World} {x:NdC} {n:NodeM} {B:List Nat}
theorem NodeB.keysL (h:NodeB Z w x n B):∃ Bk,BufK Z w x.2.1 n.keys Bk/\(∀ b∈Bk,b∈B)/\∀ E C Bk' w',Fr Bk w w'->(∀ b∈Bk,b∈Z)->(∀ b∈Bk',b∈Bk\/w.heap.size<=b)->(∀ a∈C,IsB a)->
  ∃ B',(∀ b∈B',b∈B\/w.heap.size<=b)/\∀ Z',NewZ Z w Z'->BufK Z' w' E C Bk'->NodeB Z' w' (x.1,E,x.2.2) { n with keys:=C } B':=by
 obtain ⟨h0,G,Bk,Q,R,rfl,I,hk,U,V⟩:=h
 obtain ⟨n1,n2,J⟩:=yL.1 I
 refine ⟨Bk,hk,fun b u=>by simp [u],fun E C Bk' w' f hz nk hl=>⟨Bk'++(Q++R),fun b u=>?_,fun Z' hZ A=>⟨h0,⟨hl,G.2⟩,Bk',Q,R,rfl,?_,A,U.frame f (fun b u K=>J b K b (by simp [u]) rfl) (fun b u=>.inl (hz b u)) hZ,V.frame f fun b u K=>J b K b (by simp [u]) rfl⟩⟩⟩
 ·rcases zD.1 u with u | u
  ·exact (nk b u).imp (fun h=>by simp [h]) id
  ·exact .inl (zI _ u)
 ·have O:Bk'.Nodup:=by obtain ⟨_,u,_⟩:=A; exact qcc u
  refine yL.2 ⟨O,n2,fun a ha b u e=>?_⟩
  subst e
  rcases nk a ha with h1 | h1
  ·exact J a h1 a u rfl
  ·rcases zD.1 u with u | u
   ·have:=U.lt a u; omega
   ·have:=V.lt a u; omega
theorem NodeB.valsL (h:NodeB Z w x n B):∃ C,BufK Z w x.2.2.1 n.vals C/\(∀ b∈C,b∈B)/\∀ O K A w',Fr C w w'->(∀ b∈C,b∈Z)->(∀ b∈A,b∈C\/w.heap.size<=b)->(∀ a∈K,IsB a)->
  ∃ B',(∀ b∈B',b∈B\/w.heap.size<=b)/\∀ Z',NewZ Z w Z'->BufK Z' w' O K A->NodeB Z' w' (x.1,x.2.1,O,x.2.2.2) { n with vals:=K } B':=by
 obtain ⟨h0,E,Bk,C,Bi,rfl,Q,hk,hv,hi⟩:=h
 obtain ⟨n1,n2,R⟩:=yL.1 Q
 obtain ⟨m1,m2,m3⟩:=yL.1 n2
 refine ⟨C,hv,fun b u=>by simp [u],fun O K A w' f hz U hl=>⟨Bk++(A++Bi),fun b u=>?_,fun Z' hZ G=>⟨h0,⟨E.1,hl,E.2.2⟩,Bk,A,Bi,rfl,?_,hk.frame f (fun b u V=>R b u b (by simp [V]) rfl) (fun b u=>.inl (hz b u)) hZ,G,hi.frame f fun b u V=>m3 b V b u rfl⟩⟩⟩
 ·simp only [zD] at u ⊢
  rcases u with u | u | u
  ·exact .inl (.inl u)
  ·exact (U b u).imp (fun h=>.inr (.inl h)) id
  ·exact .inl (.inr (.inr u))
 ·have aa:A.Nodup:=by obtain ⟨_,u,_⟩:=G; exact qcc u
  refine yL.2 ⟨n1,yL.2 ⟨aa,m2,fun a I b u e=>?_⟩,fun a I b u e=>?_⟩
  ·subst e
   rcases U a I with J | J
   ·exact m3 a J a u rfl
   ·have:=hi.lt a u; omega
  ·subst e
   rcases zD.1 u with u | u
   ·rcases U a u with J | J
    ·exact R a I a (by simp [J]) rfl
    ·have:=hk.lt a I; omega
   ·exact R a I a (by simp [u]) rfl
theorem NodeB.kidsL (h:NodeB Z w x n B):∃ C,Buf encU 1 w x.2.2.2 n.kids C/\(∀ b∈C,b∈B)/\∀ O K A w',Fr C w w'->(∀ b∈C,b∈Z)->(∀ b∈A,b∈C\/w.heap.size<=b)->(∀ a∈K,U32 a)->
  ∃ B',(∀ b∈B',b∈B\/w.heap.size<=b)/\∀ Z',NewZ Z w Z'->Buf encU 1 w' O K A->NodeB Z' w' (x.1,x.2.1,x.2.2.1,O) { n with kids:=K } B':=by
 obtain ⟨h0,G,Bk,Bv,C,rfl,Q,hk,hv,hi⟩:=h
 obtain ⟨n1,n2,R⟩:=yL.1 Q
 obtain ⟨m1,m2,m3⟩:=yL.1 n2
 refine ⟨C,hi,fun b u=>by simp [u],fun O K A w' f hz U hl=>⟨Bk++(Bv++A),fun b u=>?_,fun Z' hZ I=>⟨h0,⟨G.1,G.2.1,hl⟩,Bk,Bv,A,rfl,?_,hk.frame f (fun b u V=>R b u b (by simp [V]) rfl) (fun b u=>.inl (hz b u)) hZ,hv.frame f (fun b u V=>m3 b u b V rfl) (fun b u=>.inl (hz b u)) hZ,I⟩⟩⟩
 ·simp only [zD] at u ⊢
  rcases u with u | u | u
  ·exact .inl (.inl u)
  ·exact .inl (.inr (.inl u))
  ·exact (U b u).imp (fun h=>.inr (.inr h)) id
 ·refine yL.2 ⟨n1,yL.2 ⟨m1,qcc I,fun a E b u e=>?_⟩,fun a E b u e=>?_⟩
  ·subst e
   rcases U a u with J | J
   ·exact m3 a E a J rfl
   ·have:=hv.lt a E; omega
  ·subst e
   rcases zD.1 u with u | u
   ·exact R a E a (by simp [u]) rfl
   ·rcases U a u with J | J
    ·exact R a E a (by simp [J]) rfl
    ·have:=hk.lt a E; omega
end
structure Ed (dbk pb:Nat) (FD:List Nat) (D:DiskM) (j:Nat) (S0 N0:List Nat) (w0 wa:World) (T Y F:List Nat) (M:PgM) (x:NdC) (n:NodeM) (B:List Nat):Prop where
 sg:Sg S0 w0 wa F T
 tw:TW dbk pb FD D j wa (T++(B++Y)) F M
 node:NodeB (Zo FD (T++(B++Y)) F) wa x n B
 sep:∀ b∈T,b∉B
 bnew:∀ b∈B,b∈N0\/w0.heap.size<=b
 nsub:∀ b∈N0,b∈S0
 ysep:∀ b∈B,b∉Y
section
variable {dbk pb j:Nat} {FD S0 N0 Y F F' T B B':List Nat} {D:DiskM} {w0 wa w w':World} {M M':PgM} {L:List (Nat×Obj)} {x x':NdC} {n n':NodeM}
theorem Ed.now (e:Ed dbk pb FD D j S0 N0 w0 wa T Y F M x n B) (h:Own T wa w L):Ed dbk pb FD D j S0 N0 w0 w (bks L) Y F M x n B where
 sg:=⟨e.sg.fr h,e.sg.new,e.sg.bks h⟩
 tw:=e.tw.now h
 node:=e.node.frame h.fr (fun b u A=>e.sep b A u) (fun b u=>.inl (by simp [u])) (qjS h)
 sep:=fun b u A=>by
  obtain ⟨q,E,rfl⟩:=mem_map.1 u
  rcases h.own q E with C | C
  ·exact e.sep _ C A
  ·have:=e.node.lt _ A; omega
 bnew:=e.bnew
 nsub:=e.nsub
 ysep:=e.ysep
theorem Ed.rd (e:Ed dbk pb FD D j S0 N0 w0 wa T Y F M x n B):∀ b∈B,b∈Zo FD (T++(B++Y)) F:=fun b h=>by simp [h]
theorem Ed.edit {Bk:List Nat} (e:Ed dbk pb FD D j S0 N0 w0 w (bks L) Y F M x n B) (h:Own T wa w L) (E:∀ b∈Bk,b∈B) (f:Fr Bk w w') (I:NodeB (Zo FD (bks L++(B'++Y)) F) w' x' n' B') (C:∀ b∈B',b∈B\/w.heap.size<=b):Ed dbk pb FD D j S0 N0 w0 w' (bks L) Y F M x' n' B'/\Own (bks L) w' w' L:=by
 refine ⟨⟨⟨e.sg.tot.trans' f fun b u=>(e.bnew b (E b u)).imp (e.nsub b) id,e.sg.new,e.sg.own⟩,e.tw.frameY (f.mono fun b u _=>by simp [E b u]) (fun b u=>?_) (fun b u=>?_),I,fun b u G=>?_,fun b u=>(C b u).elim (e.bnew b) fun A=>.inr (zL e.sg.tot.size A),e.nsub,fun b u J=>?_⟩,qaK h f fun b u G=>e.sep b u (E b G)⟩
 ·rcases zD.1 u with u | u
  ·exact yC (e.tw.ylt b (by simp [u])) f.size
  ·rcases zD.1 u with u | u
   ·exact I.lt b u
   ·exact yC (e.tw.ylt b (by simp [u])) f.size
 ·rcases zD.1 u with u | u
  ·exact .inl (by simp [u])
  ·rcases zD.1 u with u | u
   ·exact (C b u).imp (fun h=>by simp [h]) id
   ·exact .inl (by simp [u])
 ·rcases C b G with A | A
  ·exact e.sep b u A
  ·have:=e.tw.ylt b (by simp [u]); omega
 ·rcases C b u with A | A
  ·exact e.ysep b A J
  ·have:=e.tw.ylt b (by simp [J]); omega
theorem Ed.newZ (e:Ed dbk pb FD D j S0 N0 w0 w T Y F M x n B) (A:∀ b∈B',b∈B\/w.heap.size<=b):NewZ (Zo FD (T++(B++Y)) F) w (Zo FD (T++(B'++Y)) F):=fun b u=>by
 simp only [Zo,zD,zG] at u ⊢
 rcases u with (u | u | u | u | u) | u
 ·simp [u]
 ·simp [u]
 ·simp [u]
 ·exact (A b u).imp (fun h=>by simp [h]) id
 ·simp [u]
 ·simp [u]
theorem Ed.next (e:Ed dbk pb FD D j S0 N0 w0 w (bks L) Y F M x n B) (h:Own T wa w L) (C:TW dbk pb FD D j w' (bks L++(B++Y)) F' M') (f:Fr F w w') (A:∀ b∈F',b∈F\/w.heap.size<=b):Ed dbk pb FD D j S0 N0 w0 w' (bks L) Y F' M' x n B/\Own (bks L) w' w' L:=by
 have E:∀ b∈bks L,b∉F:=fun b u=>e.tw.yf b (by simp [u])
 refine ⟨⟨⟨e.sg.tot.trans' f e.sg.new,fun b u=>(A b u).elim (e.sg.new b) fun G=>.inr (zL e.sg.tot.size G),e.sg.own⟩,C,e.node.frame f (fun b u=>e.tw.yf b (by simp [u])) (fun b u=>.inl (zoF u)) (TW.znew A),e.sep,e.bnew,e.nsub,e.ysep⟩,qaK h f E⟩
theorem Ed.next0 (e:Ed dbk pb FD D j S0 N0 w0 w (bks L) Y F M x n B) (h:Own T wa w L) (f:Fr [] w w'):Ed dbk pb FD D j S0 N0 w0 w' (bks L) Y F M x n B/\Own (bks L) w' w' L:=
 e.next h (e.tw.frame0 f) (f.mono fun _ h=>nomatch h) fun b u=>.inl u
theorem Ed.nodeR (e:Ed dbk pb FD D j S0 N0 w0 w T Y F M x n B):NodeR (Zo FD (T++Y) F) w x n:=
 e.node.rd (fun b h u=>by
  simp only [Zo,zD,zG] at u
  have A:=e.tw.sep b (by simp [h])
  rcases u with (u | u | u | u) | u
  ·exact A.1 u
  ·exact A.2 u
  ·exact e.sep b u h
  ·exact e.ysep b h u
  ·exact e.tw.yf b (by simp [h]) u) fun b h=>.inl (by
  simp only [Zo,zD,zG] at h ⊢
  rcases h with (h | h | h | h) | h <;> simp [h])
theorem Ed.tw' (e:Ed dbk pb FD D j S0 N0 w0 w T Y F M x n B):TW dbk pb FD D j w (T++Y) F M:=e.tw.weakY fun b u=>(zD.1 u).elim (fun h=>by simp [h]) fun h=>by simp [h]
end
end
end Go.Proofs.YtmmkegapckbomaaGreatDoor
end
