/- Texts PlB, PlC, PlD, SrtB, SrtC, SrtD, SrtE, SrtF, SrtG, SrtH, PlE, RfA, PlF, PgA, LwL, FormsT, PtQ, PgB, PgC, PgD, TrA, PgE, TrB, PtR, FormsF, FlA, FlB, FlC, FormsW, SuA, SuB: contracts of the program's functions, one behind the other. Conditions: those that stand in each line. -/
import Derived.Test.YtmmkegapckbomaaGreatDoorCCP1
import Derived.Sort.LotC
import Derived.Sort.LotA
import Derived.Sort.LotD1
import Derived.Laws.Bits64b
import Derived.Laws.Closers25b
import Derived.KernelRfl
import Derived.Sort.LotD2
import Derived.Sort.LotB
import Derived.Sort.LotD3
import Derived.Shelf.Bytes.SlCountOne
import Derived.Laws.CopyRow
import Derived.Laws.IdiomCopy
import Derived.Test.YtmmkegapckbomaaGreatDoorTie
import Derived.LaidMore
import Derived.MakeChecks
import Derived.OpenShut
import Derived.ProofKit
import Derived.Test.YtmmkegapckbomaaGreatDoorProg
import Derived.Laws.Externs
set_option linter.unusedVariables false
set_option linter.unusedSimpArgs false
section
namespace Go.Proofs.YtmmkegapckbomaaGreatDoor
open Go Go.Pt Go.Sort List
attribute [local irreducible] ld ldA ldV fld fldA newZ st new idx idxS idxA slc slcS slcP mkS chk nn call callV inv run runQ runU join loop held ext rng undefer s2a nxt ent IntKind.wrap
theorem qdY:∃ i,Tryz.prog.info? 37=some i/\i.zero=some (.u 0)/\i.size=1/\i.bytes=4:=qcV (by kernel_rfl)
theorem qpH (v:Value) (k:Nat) (h:v.cells = #[v]):Builtin.zeroCells v.cells k=Array.replicate k v:=by
 rw [h]
 apply Array.ext
 ·simp [Builtin.zeroCells]
 ·intro i u A
  simp [Builtin.zeroCells,Nat.mod_one]
theorem qlY (l:List Int):u32s l.toArray=(l.map (Value.int .u32)).toArray:=by simp [u32s]
theorem qfZ {d:Array Int} {l:List Int} {n i:Nat} (h:d.toList.take n=l) (hi:i<n) (u:n<=d.size):l[i]?=some d[i]!:=by
 rw [<- h,xA,if_pos hi]
 simp [show i<d.size by omega]
theorem qmZ {α:Type} (x:α):∀ (l:List α) (n:Nat),n<l.length->(l.set n x).take (n+1)=l.take n++[x]
 | a::l,0,_=>by simp
 | a::l,n+1,h=>by simpa using qmZ x l n (by simpa using h)
theorem quC {w:World} {pb:Nat} {mb:Value} {R:List Nat} {d:Array Int} {n:Nat} {x:Int} {K:Unit->WP} (h:RowAt w pb mb R d n) (hn:n<=1000000)
  (hk:∀ R' d' w',RowAt w' pb mb R' d' (n+1)->d'.toList.take (n+1)=d.toList.take n++[x]->Fr (pb::R) w w'->(∀ b∈R',b∈R\/w.heap.size<=b)->K () w') :
  inv Tryz.prog (.iface 243 (.pointer (pW pb))) "Push" [.iface 37 (.u x)] [] w K:=by
 obtain ⟨ae,O,hz,E,U⟩:=qdY
 refine qo3 (f:=259) (by kernel_rfl) (e:=199) (by kernel_rfl) (by kernel_rfl) ?_
 refine qjk ?_
 unfold qfF
 have ta:(Instr.typeAssert (.iface 37 (.u x)) 20 37 true).run Tryz.prog w=.ok (.tuple #[.u x,.bool true]) w:=by kernel_rfl
 refine qbu (ts:=[.one .u,.one .bool]) (x,true) ta ?_
 refine cond_true rfl ?_
 refine qae ?_
 have zc:∀ k,Builtin.zeroCells (Value.int .u32 0).cells k=Array.replicate k (.u 0):=fun k=>qpH _ k rfl
 rcases h with ⟨h0,hd,hR,G⟩ | ⟨rb,T,hR,G,ag,V,aw⟩
 ·-- nil
  subst h0 hd hR
  refine qaj G ⟨none,0,0⟩ rfl ?_
  have A:Own [pb] w w [(pb,.cells #[.slice none 0 0,mb] PT (0,0))]:=⟨by simpa using G,by simp,.refl _ _,by simp⟩
  refine Own.new A fun tb J et ah A=>?_
  refine qt1 (P:=Tryz.prog) (e:=37) (by kernel_rfl) O hz [.u x] (by rw [E]; rfl) (fun j u C=>?_) (by omega) (by rw [U]; omega) (by omega) fun q aa ai=>?_
  ·match j,C with
   | 0,C=>
    have:=A.cell (off:=0) 0 rfl rfl
    simp at C
    subst C
    exact this
   | j+1,C=>simp at C
  rw [zc]
  have A:=A.drew.alloc (.cells (#[Value.int .u32 x]++Array.replicate (q-1) (.u 0)) 37 (0,0))
  refine qae ?_
  refine Own.st A 2 rfl _ rfl rfl rfl fun w2 A _=>?_
  have Q:J.drew.heap.size≠pb:=by
   have:=A.nodup
   simp at this
   exact fun e=>this.1.2 e
  have aj:#[Value.int .u32 x]++Array.replicate (q-1) (.u 0)=u32s (([x]++List.replicate (q-1) 0).toArray):=by
   rw [qlY]
   apply Array.ext'
   simp
  refine hk [J.drew.heap.size] (([x]++List.replicate (q-1) 0).toArray) w2 (.inr ⟨J.drew.heap.size,37,rfl,?_,?_,Q,by simp⟩) (by simp) (A.fr.mono (fun i O _=>by simpa using O)) (fun b G=>?_)
  ·have:=A.at (i:=2) rfl
   have e:(([x]++List.replicate (q-1) (0:Int)).toArray).size=q:=by simp; omega
   rw [e]
   exact this
  ·have:=A.at (i:=0) rfl
   rw [<- aj]
   exact this
  ·simp at G
   subst G
   right
   have:=A.own (J.drew.heap.size,_) (by simp; exact .inl rfl)
   simp at this
   omega
 ·subst hR
  refine qaj G ⟨pW rb,n,d.size⟩ rfl ?_
  dsimp only
  have A:Own [pb,rb] w w [(pb,plB rb n d.size mb),(rb,.cells (u32s d) T (0,0))]:=⟨by simpa using ⟨G,ag⟩,by simpa using fun e=>V e.symm,.refl _ _,by simp⟩
  refine Own.new A fun tb J et ah A=>?_
  have I:∀ (j:Nat) u,[Value.int .u32 x][j]?=some u->J.cell? ((⟨tb,0,none⟩:Addr).add j)=some u:=fun j u C=>by
   match j,C with
   | 0,C=>
    have:=A.cell (off:=0) 0 rfl rfl
    simp at C
    subst C
    exact this
   | j+1,C=>simp at C
  by_cases hroom:n+1<=d.size
  ·refine qtJ (P:=Tryz.prog) (e:=37) (by kernel_rfl) O [.u x] (A.at (i:=2) rfl) (by rw [E]; rfl) I (by simp [Value.oneCell']) hroom (by rw [E,qeP]; simp; omega) ?_
   have ak:splice (u32s d) (0+n*ae.size) [.u x]=u32s (d.setIfInBounds n x):=by
    rw [E,xR,xT]
    exact qmQ d n x
   rw [ak]
   have A:=A.upd (o':=.cells (u32s (d.setIfInBounds n x)) T (0,0)) 2 rfl
   refine qae ?_
   refine Own.st A 1 rfl _ rfl rfl rfl fun w2 A _=>?_
   refine hk [rb] (d.setIfInBounds n x) w2 (.inr ⟨rb,T,rfl,?_,?_,V,by simpa using hroom⟩) ?_ (A.fr.mono (fun i O _=>by simpa using O)) (fun b G=>.inl G)
   ·have:=A.at (i:=1) rfl
    rw [Array.size_setIfInBounds]
    exact this
   ·exact A.at (i:=2) rfl
   ·rw [Array.toList_setIfInBounds]
    exact qmZ x _ _ (by simp; omega)
  ·have ac:n=d.size:=by omega
   refine qsN (P:=Tryz.prog) (e:=37) (by kernel_rfl) O hz (d.toList.map (Value.int .u32)) [.u x] (by rw [E]; simp; omega) (fun j u C=>?_) (by rw [E]; rfl) I (by omega) (by rw [U]; omega) (by omega) fun q aa ai=>?_
   ·rw [Addr.add_mk,qaf (A.at (i:=2) rfl),xR]
    rw [zQ] at C
    unfold u32s
    rw [Array.getElem?_map]
    simpa using C
   rw [zc]
   have al:(d.toList.map (Value.int .u32)).toArray++[Value.int .u32 x].toArray++Array.replicate (q-(n+1)) (.u 0)=u32s ((d.toList++[x]++List.replicate (q-(n+1)) (0:Int)).toArray):=by
    rw [qlY]
    apply Array.ext'
    simp
   rw [al]
   have e:((d.toList++[x]++List.replicate (q-(n+1)) (0:Int)).toArray).size=q:=by simp; omega
   have A:=A.drew.alloc (.cells (u32s ((d.toList++[x]++List.replicate (q-(n+1)) (0:Int)).toArray)) 37 (0,0))
   refine qae ?_
   refine Own.st A 2 rfl _ rfl rfl rfl fun w2 A _=>?_
   have Q:J.drew.heap.size≠pb:=by
    have:=A.nodup
    simp at this
    exact fun e=>this.1.2.1 e
   refine hk [J.drew.heap.size] _ w2 (.inr ⟨J.drew.heap.size,37,rfl,?_,A.at (i:=0) rfl,Q,by rw [e]; exact aa⟩) ?_ (A.fr.mono (fun i O _=>by simpa using O)) (fun b G=>?_)
   ·have:=A.at (i:=2) rfl
    rw [e]
    exact this
   ·rw [ac]
    simp [take_append,zS]
   ·simp at G
    subst G
    right
    show w.heap.size<=J.heap.size
    omega
theorem quR {w:World} {pb rb:Nat} {mb:Value} {d:Array Int} {n:Nat} {T:TypeId} {K:Value->WP} (G:w.heap[pb]?=some (plB rb (n+1) d.size mb)) (h:w.heap[rb]?=some (.cells (u32s d) T (0,0))) (E:rb≠pb) (R:n+1<=d.size) (I:n<=1000000)
  (J:∀ w',w'.heap[pb]?=some (plB rb n d.size mb)->w'.heap[rb]?=some (.cells (u32s d) T (0,0))->Fr [pb] w w'->K (.iface 37 (.u d[n]!)) w') :
  inv Tryz.prog (.iface 243 (.pointer (pW pb))) "Pop" [] [.one .any] w K:=by
 refine qo3 (f:=258) (by kernel_rfl) (e:=199) (by kernel_rfl) (by kernel_rfl) ?_
 refine qkf ?_
 unfold qgv
 have C:Own [pb] w w [(pb,plB rb (n+1) d.size mb)]:=⟨by simpa using G,by simp,.refl _ _,by simp⟩
 have O:Arr rb T w w d:=.start h
 refine qae (Own.ld C.drew 0 rfl ⟨pW rb,n+1,d.size⟩ rfl ?_)
 refine qae (Own.ld C.drew 0 rfl ⟨pW rb,n+1,d.size⟩ rfl ?_)
 dsimp only
 refine O.drew.rd n (by rw [wi _ (by omega)]; omega) (by omega) (by omega) ?_
 refine qae (Own.ld C.drew.drew 0 rfl ⟨pW rb,n+1,d.size⟩ rfl ?_)
 refine qae (Own.ld C.drew.drew 0 rfl ⟨pW rb,n+1,d.size⟩ rfl ?_)
 dsimp only
 rw [wi _ (by omega)]
 refine qe3 ⟨by omega,by dsimp only; omega⟩ ?_
 refine qae ?_
 refine Own.st C.drew.drew 0 rfl _ rfl rfl rfl fun Q A _=>?_
 refine J Q ?_ ?_ A.fr
 ·have:=A.at (i:=0) rfl
  rw [show (((n+1:Nat):Int)-1).toNat=n by omega] at this
  exact this
 ·rw [A.fr.block rb (qab h) (by simpa using E)]
  exact h
theorem qeR {d u:Array Int} {n:Nat} (h:PermIn 0 n d u):(u.toList.take n).Perm (d.toList.take n):=by
 have:=h.2.2
 simpa [Array.toList_extract] using this
theorem qsP {w:World} {pb:Nat} {mb:Value} {R:List Nat} {d:Array Int} {n:Nat} {x:Int} {K:Unit->WP} (h:RowAt w pb mb R d n) (hn:n<=1000000) (hh:IsHeap d n)
  (hk:∀ R' U w',RowAt w' pb mb R' U (n+1)->IsHeap U (n+1)->(U.toList.take (n+1)).Perm (d.toList.take n++[x])->Fr (pb::R) w w'->(∀ b∈R',b∈R\/w.heap.size<=b)->K () w') :
  cW 153 [.iface 243 (.pointer (pW pb)),.iface 37 (.u x)] [] w K:=by
 have V:n<=d.size:=by
  rcases h with ⟨O,_⟩ | ⟨_,_,_,_,_,_,C⟩
  ·omega
  ·exact C
 apply qnC
 unfold qj9
 refine quC h hn fun R1 d1 w1 hr ht hf hR=>?_
 rcases hr with ⟨O,_⟩ | ⟨rb,T,aa,Q,J,E,G⟩
 ·omega
 subst aa
 refine qug Q E (.start J) ?_
 rw [wi _ (by omega),show ((n+1:Nat):Int)-1=(n:Nat) by omega]
 have A:∀ i,i<n->d1[i]! = d[i]!:=fun i I=>by
  have C:=qfZ ht (show i<n+1 by omega) G
  rw [yY (by simp; omega)] at C
  have h2:=qfZ (d:=d) rfl I V
  rw [h2] at C
  exact (yN C).symm
 refine quz Q E (.start J) (Nat.lt_succ_self n) ⟨G,by omega⟩ ⟨fun i O I an=>?_,fun i O I ao _=>by omega⟩ fun d2 w2 hp hH ha=>?_
 ·rw [A i (by omega),A _ (by omega)]
  exact hh i O (by omega)
 ·refine hk [rb] d2 w2 (.inr ⟨rb,T,rfl,?_,ha.blk,E,by rw [hp.1]; exact G⟩) hH ((qeR hp).trans (by rw [ht])) (hf.trans' ha.fr fun i I=>?_) hR
  ·rw [ha.fr.block pb (qab Q) (by simpa using fun e=>E e.symm),hp.1]
   exact Q
  ·simp at I
   subst I
   rcases hR i (by simp) with C | C
   ·exact .inl (zN _ C)
   ·exact .inr C
theorem IsHeap.min {d:Array Int} {n:Nat} (h:IsHeap d n):∀ i,i<n->d[0]!<=d[i]!:=by
 intro i
 induction i using Nat.strongRecOn with
 | _ i ih=>
  intro u
  by_cases h0:i=0
  ·rw [h0]; exact Int.le_refl _
  ·exact Int.le_trans (ih ((i-1) / 2) (by omega) (by omega)) (h i (by omega) u)
theorem qtL {w:World} {pb rb:Nat} {mb:Value} {d:Array Int} {n:Nat} {T:TypeId} {K:Value->WP} (G:w.heap[pb]?=some (plB rb (n+1) d.size mb)) (I:w.heap[rb]?=some (.cells (u32s d) T (0,0))) (h:rb≠pb) (O:n+1<=d.size) (hn:n<=1000000) (hh:IsHeap d (n+1))
  (hk:∀ Q w',RowAt w' pb mb [rb] Q n->IsHeap Q n->(d[0]!::Q.toList.take n).Perm (d.toList.take (n+1))->Fr [pb,rb] w w'->K (.iface 37 (.u d[0]!)) w') :
  cW 211 [.iface 243 (.pointer (pW pb))] [.one .any] w K:=by
 apply qoB
 unfold ql9
 refine qug G h (.start I) ?_
 rw [wi _ (by omega),show ((n+1:Nat):Int)-1=(n:Nat) by omega]
 refine qpU (i:=0) (k:=n) G h (.start I) (by omega) (by omega) ⟨O,by omega⟩ fun w1 h1=>?_
 have J:(swp d 0 n).size=d.size:=Sort.size_swp _ _ _
 have A:=qcB d (i:=0) (j:=n) (by omega) (by omega)
 refine qt6 (n:=n) G h h1 (by omega) ⟨by omega,by omega⟩ ⟨fun i h0 C ai=>?_,fun i h0 C aj hc=>by omega⟩ fun b R w2 U hH V=>?_
 ·rw [A,A,if_neg (by omega),if_neg (by omega),if_neg (by omega),if_neg (by omega)]
  exact hh i h0 (by omega)
 have aa:=U.1
 have ab:w2.heap[pb]?=some (plB rb (n+1) R.size mb):=by
  rw [V.fr.block pb (qab G) (by simpa using fun e=>h e.symm),aa,J]
  exact G
 refine quR ab V.blk h (by omega) hn fun w3 g1 g2 g3=>?_
 have E:R[n]! = d[0]!:=by
  rw [U.2.1 n (.inr (zM _)),A,if_pos rfl]
 rw [E]
 refine hk R w3 (.inr ⟨rb,T,rfl,g1,g2,h,by omega⟩) hH ?_ ((V.fr.mono (T:=[pb,rb]) (fun i C _=>by simp at C; simp [C])).trans (g3.mono (fun i C _=>by simp at C; simp [C])))
 have p1:=qeR U
 have p2:=qeR (swp_permIn d 0 (n+1) 0 n (by omega) (by omega) (by omega) (by omega) (by omega))
 have e1:(swp d 0 n).toList.take (n+1)=(swp d 0 n).toList.take n++[d[0]!]:=by
  have hv:(swp d 0 n)[n]! = d[0]!:=by rw [A,if_pos rfl]
  have hl:n<(swp d 0 n).toList.length:=by simp [J]; omega
  rw [yF hl]
  congr 2
  rw [<- hv]
  simp [show n<(swp d 0 n).size by omega]
 rw [e1] at p2
 exact ((perm_append_singleton _ _).symm.trans (p1.append_right _)).trans p2
def ins (x:Int):List Int->List Int
 | []=>[x]
 | a::l=>if x<a then x::a::l else if x=a then a::l else a::ins x l
theorem qcX {x:Int}:∀ {l:List Int},x∉l->(ins x l).Perm (x::l)
 | [],_=>.refl _
 | a::l,h=>by
  simp only [zG,not_or] at h
  simp only [ins]
  split
  ·exact .refl _
  ·rw [if_neg h.1]
   exact ((qcX h.2).cons a).trans (.swap x a l)
theorem qo7 {x y:Int}:∀ {l:List Int},y∈ins x l->y=x\/y∈l
 | [],h=>by simp [ins] at h; exact .inl h
 | a::l,h=>by
  simp only [ins] at h
  split at h
  ·simp only [zG] at h ⊢; exact h
  ·split at h
   ·exact .inr h
   ·simp only [zG] at h ⊢
    rcases h with h | h
    ·exact .inr (.inl h)
    ·rcases qo7 h with h | h
     ·exact .inl h
     ·exact .inr (.inr h)
theorem qcv {x:Int}:∀ {l:List Int},l.Pairwise (· < ·)->(ins x l).Pairwise (· < ·)
 | [],_=>by simp [ins]
 | a::l,h=>by
  have A:=yI.1 h
  simp only [ins]
  split
  ·rename_i C
   refine yI.2 ⟨fun b u=>?_,h⟩
   rcases zG.1 u with rfl | u
   ·exact C
   ·exact Int.lt_trans C (A.1 b u)
  ·split
   ·exact h
   ·rename_i E G
    refine yI.2 ⟨fun b u=>?_,qcv A.2⟩
    rcases qo7 u with rfl | u
    ·omega
    ·exact A.1 b u
theorem qns {x:Int}:∀ {l:List Int},l.Pairwise (· < ·)->x∈l->ins x l=l
 | a::l,h,u=>by
  have A:=yI.1 h
  simp only [ins]
  rcases zG.1 u with rfl | u
  ·rw [if_neg (Int.lt_irrefl _),if_pos rfl]
  ·have:=A.1 x u
   rw [if_neg (by omega),if_neg (by omega),qns A.2 u]
theorem qd9 {w:World} {b:Nat} (h:b<w.heap.size) (o:Obj):Fr [b] w (upd w b o):=
 ⟨rfl,rfl,rfl,by rw [qbP]; exact zM _,fun j A u=>by rw [qay _ _ _ _ h,if_neg (by simpa using u)]⟩
theorem RowAt.frame {w w':World} {pb:Nat} {m:Value} {R S:List Nat} {d:Array Int} {n:Nat} (h:RowAt w pb m R d n) (k:Fr S w w') (u:pb∉S) (A:∀ r∈R,r∉S):RowAt w' pb m R d n:=by
 rcases h with ⟨a,b,c,e⟩ | ⟨rb,T,a,b,c,e,f⟩
 ·exact .inl ⟨a,b,c,by rw [k.block pb (qab e) u]; exact e⟩
 ·exact .inr ⟨rb,T,a,by rw [k.block pb (qab b) u]; exact b,by rw [k.block rb (qab c) (A rb (by rw [a]; simp))]; exact c,e,f⟩
theorem qg3 {α:Type} [DecidableEq α] {kv:α->Value} {w w':World} {b:Nat} {S:List Nat} {f:List (α×Value)} (h:MapAt kv w b f) (k:Fr S w w') (A:b∉S):MapAt kv w' b f:=by
 obtain ⟨C,c,u,E⟩:=h
 exact ⟨C,c,by rw [k.block b (qab u) A]; exact u,E⟩
theorem RowAt.map_ne {w:World} {pb mb:Nat} {m:Value} {R:List Nat} {d:Array Int} {n:Nat} {f:List (Int×Value)} (h:RowAt w pb m R d n) (G:MapAt u32V w mb f):pb≠mb/\∀ r∈R,r≠mb:=by
 obtain ⟨I,c,u,_⟩:=G
 rcases h with ⟨_,_,C,e⟩ | ⟨rb,T,a,b,C,e,_⟩
 ·refine ⟨fun A=>?_,by simp [C]⟩
  subst A
  rw [e] at u; cases u
 ·refine ⟨fun A=>?_,fun r E A=>?_⟩
  ·subst A
   rw [b] at u; cases u
  ·rw [a] at E
   simp at E
   subst E A
   rw [C] at u; cases u
theorem PoolAt.frame {w w':World} {pb:Nat} {F S:List Nat} {l:List Int} (h:PoolAt w pb F l) (k:Fr S w w') (u:∀ b∈F,b∉S):PoolAt w' pb F l:=by
 obtain ⟨⟨mb,R,d,f,rfl,A,C,E,G,I,J⟩,K⟩:=h
 exact ⟨⟨mb,R,d,f,rfl,A.frame k (u _ (by simp)) (fun r A=>u r (by simp [A])),qg3 C k (u _ (by simp)),E,G,I,J⟩,K⟩
theorem PoolAt.lt {w:World} {pb:Nat} {F:List Nat} {l:List Int} (h:PoolAt w pb F l):∀ b∈F,b<w.heap.size:=by
 obtain ⟨⟨mb,R,d,f,rfl,E,⟨I,c,C,_⟩,_⟩,_⟩:=h
 intro b u
 simp only [zG] at u
 rcases E with ⟨_,_,A,e⟩ | ⟨rb,T,a,G,A,e,_⟩
 ·rcases u with rfl | rfl | u
  ·exact qab e
  ·exact qab C
  ·rw [A] at u; cases u
 ·rcases u with rfl | rfl | u
  ·exact qab G
  ·exact qab C
  ·rw [a] at u
   simp at u
   subst u
   exact qab A
theorem qm6 {w:World} {pb:Nat} {F:List Nat} {l:List Int} {n:Int} {K:Bool->WP} (h:PoolAt w pb F l) (hl:l.length<=1000000)
  (hk:∀ F' w',PoolAt w' pb F' (ins n l)->Fr F w w'->(∀ b∈F',b∈F\/w.heap.size<=b)->K (decide (n∉l)) w') :
  cW 116 [.pointer (pW pb),.u n] [.one .bool] w K:=by
 refine qjJ ?_
 unfold qfl
 refine qnl h ?_
 by_cases hx:n∈l
 ·refine cond_true (by simpa using hx) ?_
  have:=hk F w (by rw [qns h.sorted hx]; exact h) (.refl _ _) (fun b J=>.inl J)
  simpa [hx] using this
 refine cond_false (by simpa using hx) ?_
 obtain ⟨s,A,C,_,_⟩:=h.cells
 have U:=h.sorted
 obtain ⟨mb,R,d,f,rfl,hr,hm,I,hh,hf,h1⟩:=h.ex
 have ai:A=mb:=by
  rcases hr with ⟨_,_,_,e⟩ | ⟨rb,T,_,b,_⟩
  ·have h3:=congrArg (fun o=>match o with | some (Obj.cells cs _ _)=>cs[1]? | _=>none) (C.symm.trans e)
   simpa using h3
  ·have h3:=congrArg (fun o=>match o with | some (Obj.cells cs _ _)=>cs[1]? | _=>none) (C.symm.trans b)
   simpa [plB] using h3
 subst ai
 refine qae ?_
 refine qaj C (some A) rfl ?_
 have ab:posOf n f=none:=by
  rcases qet (x:=n) h1 with ⟨I,_⟩ | ⟨j,_,al,_⟩
  ·exact I
  ·exact absurd (hf.mem_iff.1 al) hx
 obtain ⟨o,ac,am⟩:=qpy (P:=Tryz.prog) (t:=200) (et:=3) (v:=.i 1) (by kernel_rfl) qch hm n ab
 refine qid _ ac ?_
 obtain ⟨O,Q⟩:=hr.map_ne hm
 have ad:A<w.heap.size:=by obtain ⟨es,c,J,_⟩:=hm; exact qab J
 have ae:=qd9 ad o
 have an:=hr.frame ae (by simpa using O) (fun r hr=>by simpa using Q r hr)
 refine qae ?_
 refine qsP an hl hh fun R' d' w2 ao ap aq af ar=>?_
 have E:=qcX hx
 have G:(ins n l).length=l.length+1:=by have:=E.length_eq; simpa using this
 have au:MapAt u32V w2 A (f++[(n,.i 1)]):=qg3 am af (by simp only [zG,not_or]; exact ⟨fun e=>O e.symm,fun e=>Q _ e rfl⟩)
 have:=hk (pb::A::R') w2 ⟨⟨A,R',d',f++[(n,.i 1)],rfl,by rw [G]; exact ao,au,?_,by rw [G]; exact ap,?_,?_⟩,qcv U⟩
  ((ae.mono (T:=pb::A::R) (fun i V _=>by simp at V; simp [V])).trans (af.mono (fun i V _=>by simp at V; rcases V with rfl | V <;> simp [*]))) (fun b J=>?_)
 ·simpa [hx] using this
 ·rw [G]
  exact aq.trans (((I.append_right [n]).trans (perm_append_singleton _ _)).trans E.symm)
 ·rw [xM]
  exact ((hf.append_right _).trans (perm_append_singleton _ _)).trans E.symm
 ·intro p I
  rcases zD.1 I with I | I
  ·exact h1 p I
  ·simp at I; rw [I]
 ·simp only [zG] at J
  rcases J with rfl | rfl | J
  ·exact .inl (by simp)
  ·exact .inl (by simp)
  ·rcases ar b J with h' | h'
   ·exact .inl (by simp [h'])
   ·rw [qbP] at h'; exact .inr h'
theorem qeF {α:Type}:∀ (l:List α) (i:Nat) (h:i<l.length),(l[i]::l.eraseIdx i).Perm l
 | a::l,0,_=>.refl _
 | a::l,i+1,h=>by
  simp only [getElem_cons_succ,eraseIdx_cons_succ]
  exact (List.Perm.swap _ _ _).trans ((qeF l i (by simpa using h)).cons a)
def takeV:List Int->(Int×Bool)×List Int
 | []=>((0,false),[])
 | x::r=>((x,true),r)
theorem qtk {w:World} {pb:Nat} {F:List Nat} {l:List Int} {K:Int×Bool->WP} (h:PoolAt w pb F l) (hl:l.length<=1000000)
  (U:∀ F' w',PoolAt w' pb F' (takeV l).2->Fr F w w'->(∀ b∈F',b∈F\/w.heap.size<=b)->K (takeV l).1 w') :
  cW 171 [.pointer (pW pb)] [.one .u,.one .bool] w K:=by
 refine qix ?_
 unfold qei
 have C:=h.sorted
 have A:=h
 obtain ⟨mb,R,d,f,rfl,hr,hm,J,V,hf,h1⟩:=h.ex
 rcases hr with ⟨h0,hd,hR,E⟩ | ⟨rb,T,hR,E,ac,ad,G⟩
 ·have au:l=[]:=eq_nil_of_length_eq_zero h0
  subst au
  refine qae ?_
  refine qaj E ⟨none,0,0⟩ rfl ?_
  refine cond_true rfl ?_
  exact U _ w A (.refl _ _) (fun b E=>.inl E)
 subst hR
 refine qae ?_
 refine qaj E ⟨pW rb,l.length,d.size⟩ rfl ?_
 match l,hl,U,C,A,E,J,V,hf,G with
 | [],hl,U,C,A,E,J,V,hf,G=>
  refine cond_true rfl ?_
  exact U _ w A (.refl _ _) (fun b E=>.inl E)
 | x::r,hl,U,C,A,E,J,V,hf,G=>
  simp only [yH] at E J V G hl ⊢
  refine cond_false (by simp; omega) ?_
  refine qae ?_
  have I:=(show RowAt w pb (.map (some mb)) [rb] d (r.length+1) from .inr ⟨rb,T,rfl,E,ac,ad,G⟩).map_ne hm
  have av:d[0]! = x:=by
   have ae:d[0]!∈x::r:=J.mem_iff.1 (by
    have:=qfZ (d:=d) rfl (show 0<r.length+1 by omega) G
    exact yE this)
   have hx:x∈d.toList.take (r.length+1):=J.mem_iff.2 (by simp)
   obtain ⟨i,O,aw⟩:=getElem_of_mem hx
   have af:i<r.length+1:=by simp at O; omega
   have h2:=qfZ (d:=d) rfl af G
   rw [zA O,aw] at h2
   have ag:=V.min i af
   rw [<- yN h2] at ag
   rcases zG.1 ae with e | e
   ·exact e
   ·have:=(yI.1 C).1 _ e
    omega
  refine qtL E ac ad G (by omega) V fun d2 w2 ah ax ai aj=>?_
  rw [av] at ai ⊢
  have ta:(Instr.typeAssert (.iface 37 (.u x)) 20 37 true).run Tryz.prog w2=.ok (.tuple #[.u x,.bool true]) w2:=by kernel_rfl
  refine qbu (ts:=[.one .u,.one .bool]) (x,true) ta ?_
  have ak:MapAt u32V w2 mb f:=qg3 hm aj (by simp only [zG,xX,or_false,not_or]; exact ⟨fun e=>I.1 e.symm,fun e=>I.2 rb (by simp) e.symm⟩)
  obtain ⟨s2,ay⟩:∃ s:Sl,w2.heap[pb]?=some (.cells #[s.v,.map (some mb)] PT (0,0)):=by
   rcases ah with ⟨_,_,_,Q⟩ | ⟨az,T',_,Q,_⟩
   ·exact ⟨⟨none,0,0⟩,Q⟩
   ·exact ⟨⟨pW az,_,_⟩,Q⟩
  refine qae ?_
  refine qaj ay (some mb) rfl ?_
  obtain ⟨o,al,am⟩:=qp6 (P:=Tryz.prog) (t:=200) (et:=3) (kt:=37) (ty:=0) (by kernel_rfl) qch ak x
  refine qrF (ts:=[]) () _ al ?_
  rcases qet (x:=x) h1 with ⟨_,aA⟩ | ⟨j,an,_,hj⟩
  ·exact absurd (hf.mem_iff.2 (by simp)) aA
  rw [an] at am
  have ao:mb<w2.heap.size:=by obtain ⟨es,c,E,_⟩:=ak; exact qab E
  have ap:=qd9 ao o
  refine U [pb,mb,rb] (upd w2 mb o) ⟨⟨mb,[rb],d2,f.eraseIdx j,rfl,ah.frame ap (by simpa using I.1) (fun r hr=>by simpa using I.2 r hr),am,(ai.trans J).cons_inv,ax,?_,fun p J=>h1 p (mem_of_mem_eraseIdx J)⟩,(yI.1 C).2⟩
   ((aj.mono (T:=[pb,mb,rb]) (fun i O _=>by simp at O; rcases O with rfl | rfl <;> simp)).trans (ap.mono (fun i O _=>by simp at O; simp [O]))) (fun b E=>.inl E)
  show ((f.eraseIdx j).map (·.1)).Perm r
  rw [qbh]
  obtain ⟨aB,aC⟩:=zP.1 hj
  have:=qeF _ _ aB
  rw [aC] at this
  exact (this.trans hf).cons_inv
section
section
variable {blk:Nat} {T:ArrT} {w0 w:World} {d:Array Int} {len cap:Nat}
end
end
section
section
variable {blk:Nat} {T:ArrT} {w0 w:World} {d:Array Int} {len cap:Nat}
end
end
section
section
variable {blk:Nat} {T:ArrT} {w0 w:World} {d:Array Int} {len cap:Nat}
end
end
end Go.Proofs.YtmmkegapckbomaaGreatDoor
end
section
namespace Go.Proofs.YtmmkegapckbomaaGreatDoor
open Go Go.Pt Go.Sort List
attribute [local irreducible] ld ldA ldV fld fldA newZ st new idx idxS idxA slc slcS slcP mkS chk nn call callV inv run runQ runU join loop held ext rng undefer s2a nxt ent IntKind.wrap
end Go.Proofs.YtmmkegapckbomaaGreatDoor
end
section
namespace Go.Proofs.YtmmkegapckbomaaGreatDoor
open Go Go.Pt Go.Sort List
attribute [local irreducible] ld ldA ldV fld fldA newZ st new idx idxS idxA slc slcS slcP mkS chk nn call callV inv run runQ runU join loop held ext rng undefer s2a nxt ent IntKind.wrap
structure Arr2 (blk:Nat) (T:ArrT) (w0 w:World) (d:Array Int) (sb:Nat) (k:IntKind) (v:Int):Prop where
 arr:Arr blk T w0 w d
 cell:∃ T2,w.heap[sb]?=some (.cells #[.int k v] T2 (0,0))
 ne:sb≠blk
 new:w0.heap.size<=sb
section
variable {blk:Nat} {T:ArrT} {w0 w:World} {d:Array Int} {len cap sb:Nat} {k:IntKind} {v:Int}
end
section
section
variable {blk:Nat} {T:ArrT} {w0 w:World} {d:Array Int} {len cap sb:Nat} {k:IntKind} {v:Int}
end
end
section
section
variable {blk:Nat} {T:ArrT} {len cap:Nat}
end
end
theorem qft:∀ {u A:List Int},u.Perm A->u.Pairwise (·<=·)->A.Pairwise (·<=·)->u=A
 | [],A,h,_,_=>h.nil_eq
 | a::u,[],h,_,_=>absurd h.symm.nil_eq (by simp)
 | a::u,b::A,h,J,K=>by
  have C:=yI.1 J
  have E:=yI.1 K
  have G:a=b:=by
   have O:a∈b::A:=h.mem_iff.1 (by simp)
   have Q:b∈a::u:=h.mem_iff.2 (by simp)
   rcases zG.1 O with e | e
   ·exact e
   ·rcases zG.1 Q with I | I
    ·exact I.symm
    ·have:=E.1 a e
     have:=C.1 b I
     omega
  subst G
  rw [qft h.cons_inv C.2 E.2]
abbrev encU:Int->List Value:=fun n=>[Value.int .u32 n]
abbrev Rd (S:List Nat) (w:World) (s:Sl) (l:List Int):Prop:=Rds encU 1 S w s l
abbrev BufU (w:World) (s:Sl) (l:List Int) (B:List Nat):Prop:=Buf encU 1 w s l B
theorem qaZ:∀ x,(encU x).length=1:=fun _=>rfl
theorem Rd.at {S:List Nat} {w:World} {s:Sl} {l:List Int} (h:Rd S w s l) (n:Nat) {i x:Int} {K:Int->Prop} (hi:i=n) (A:l[n]?=some x) (k:K x):idx s i 1 fun a=>ld .u a w K:=
 Rds.get (y:=x) h n hi A rfl k
theorem qtf {w:World} {s:Sl} {l:List Int} {B:List Nat} {x:Int} {T:TypeId} {K:Sl->WP} (h:BufU w s l B) (Q:l.length<=1000000)
  (G:∀ E B' w',BufU w' E (l++[x]) B'->Fr B w w'->(∀ b∈B',b∈B\/w.heap.size<=b)->K E w') :
  Pt.new (.cells #[.u x] T) w fun r I=>Pt.run [Ty1.one Cell.slice] ((Builtin.append_ #[92,92] 92 #[s.v,.slice (pW r) 1 1]).run Tryz.prog I) K:=by
 obtain ⟨i,J,O,A,C⟩:=qdY
 exact Buf.push (e:=37) h qaZ (by simp [Value.oneCell']) (by kernel_rfl) J O A rfl rfl (by rw [C]; omega) (by omega) G
theorem qkd {w0 w:World} {F F':List Nat} (u:∀ b∈F,w0.heap.size<=b) (C:w0.heap.size<=w.heap.size) (h:∀ b∈F',b∈F\/w.heap.size<=b):∀ b∈F',w0.heap.size<=b:=by
 intro b A
 rcases h b A with h | h
 ·exact u b h
 ·omega
end Go.Proofs.YtmmkegapckbomaaGreatDoor
end
section
namespace Go.Proofs.YtmmkegapckbomaaGreatDoor
open Go Go.Pt List
attribute [local irreducible] ld ldA ldV fld fldA newZ st new idx idxS idxA slc slcS slcP mkS chk nn call callV inv run runQ runU join loop held ext rng undefer s2a nxt ent IntKind.wrap
abbrev encB:Int->List Value:=fun n=>[Value.int .u8 n]
abbrev RdB (S:List Nat) (w:World) (s:Sl) (l:List Int):Prop:=Rds encB 1 S w s l
abbrev BufB (w:World) (s:Sl) (l:List Int) (B:List Nat):Prop:=Buf encB 1 w s l B
theorem qat:∀ x,(encB x).length=1:=fun _=>rfl
def bytesA (l:List Int):Array Value:=(l.map (Value.int .u8)).toArray
theorem qb1 (l:List Int):(bytesA l).size=l.length:=by simp [bytesA]
theorem qaA (l:List Int):l.flatMap encB=l.map (Value.int .u8):=by
 induction l with
 | nil=>rfl
 | cons a l ih=>rw [yG,ih]; rfl
theorem qky:∃ i,Tryz.prog.info? 5=some i/\i.zero=some (.b 0)/\i.size=1/\i.bytes=1:=qcV (by kernel_rfl)
theorem RdB.at {S:List Nat} {w:World} {s:Sl} {l:List Int} (h:RdB S w s l) (n:Nat) {i x:Int} {K:Int->Prop} (hi:i=n) (u:l[n]?=some x) (k:K x):idx s i 1 fun a=>ld .b a w K:=
 Rds.get (y:=x) h n hi u rfl k
theorem qce {S:List Nat} {w:World} {b o n cap:Nat} {L:List Int} {T:TypeId} {u:Nat×Nat} (A:w.heap[b]?=some (.cells (bytesA L) T u)) (I:o+n<=L.length) (C:n<=cap) (E:b∉S):RdB S w ⟨some ⟨b,o,none⟩,n,cap⟩ ((L.drop o).take n):=by
 refine ⟨by rw [yK,yB]; dsimp only; omega,C,.inr ⟨b,o,_,T,_,rfl,A,E,fun i x h=>?_⟩⟩
 have G:=(zP.1 h).1
 rw [yK,yB] at G
 rw [xA,if_pos (by omega),yZ] at h
 rw [xT]
 apply ext_getElem?
 intro j
 rw [xA,yZ]
 match j with
 | 0=>simp [bytesA,h]
 | j+1=>simp
theorem qh9 {b o len cap:Nat} {lo hi:Int} {h:Nat} {K:Sl->Prop} (u:0<=lo) (A:lo<=hi) (C:hi<=cap) (E:lo<cap) (k:K ⟨some ⟨b,o+lo.toNat*h,none⟩,hi.toNat-lo.toNat,cap-lo.toNat⟩):slc ⟨some ⟨b,o,none⟩,len,cap⟩ (some lo) (some hi) none h K:=by
 unfold slc
 refine ⟨by simpa using ⟨u,A,C⟩,?_⟩
 simp only [xW,xV,zJ]
 rw [if_neg (by omega)]
 simp only [Option.map_some,Addr.add_mk]
 exact k
theorem qjB {b o len cap:Nat} {lo:Int} {h:Nat} {K:Sl->Prop} (u:0<=lo) (A:lo<=len) (C:len<=cap) (E:lo<cap) (k:K ⟨some ⟨b,o+lo.toNat*h,none⟩,len-lo.toNat,cap-lo.toNat⟩):slc ⟨some ⟨b,o,none⟩,len,cap⟩ (some lo) none none h K:=by
 unfold slc
 refine ⟨by simp; omega,?_⟩
 simp only [xW,xV,zJ]
 rw [if_neg (by omega)]
 simp only [Option.map_some,Addr.add_mk]
 exact k
theorem Rds.part {α:Type} {enc:α->List Value} {k:Nat} {S:List Nat} {w:World} {s:Sl} {l:List α} (h:Rds enc k S w s l) {lo hi:Option Int} (a b:Nat) {K:Sl->Prop} (u:lo.getD 0=a) (A:hi.getD s.len=b) (R:a<=b) (O:b<=l.length)
  (U:∀ C,C.len=b-a->Rds enc k S w C ((l.take b).drop a)->(s.a.isNone=true->C.a.isNone=true)->K C):slc s lo hi none k K:=by
 obtain ⟨h1,h2,G⟩:=h
 unfold slc
 refine ⟨by rw [u,A]; simp; omega,U _ ?_ ⟨?_,?_,?_⟩ ?_⟩
 ·rw [u,A]; simp
 ·rw [u,A]; simp; omega
 ·rw [u,A]; simp; omega
 ·by_cases he:(l.take b).drop a=[]
  ·exact .inl he
  ·right
   have V:a<b:=by
    rcases Nat.lt_or_ge a b with h | h
    ·exact h
    ·exact absurd (by rw [vE]; simp; omega) he
   rcases G with G | ⟨bl,o,cs,T,fr,ha,I,J,hc⟩
   ·rw [G] at O; simp at O; omega
   ·refine ⟨bl,o+a*k,cs,T,fr,?_,I,J,fun i x E=>?_⟩
    ·rw [u]
     simp only [xW,zJ]
     rw [if_neg (by omega),ha]
     simp [Addr.add_mk]
    ·rw [yZ,xA] at E
     split at E
     ·have:=hc (a+i) x E
      rw [<- this,xU,Nat.add_assoc]
     ·cases E
 ·intro Q
  rw [Option.isNone_iff_eq_none] at Q
  rw [Q]
  simp
def byteAt (n:Int) (j:Nat):Int:=IntKind.wrap .u8 (Int.fdiv n (2^min (8*j) 32))
def be (n:Int) (k:Nat):List Int:=(List.range k).map fun i=>byteAt n (k-1-i)
theorem qaq (n:Int) (k:Nat):(be n k).length=k:=by simp [be]
theorem wi' (n:Int) (h:-1000000000000000<=n/\n<=1000000000000000):IntKind.wrap .i64 n=n:=by rw [IntWalk.i64_in]; omega
theorem qnO {S:List Nat} {w0 w:World} {L:List (Nat×Obj)} {b o k cap:Nat} {A X Z:List Int} {T:TypeId} {n:Int} {K:Unit->WP} (h:Own S w0 w L) (i:Nat) (hi:L[i]?=some (b,.cells (bytesA (A++X++Z)) T (0,0))) (ho:A.length=o) (hX:X.length=k) (U:k<=4)
  (V:∀ w',Own S w0 w' (L.set i (b,.cells (bytesA (A++be n k++Z)) T (0,0)))->K () w') :
  cW 150 [.slice (some ⟨b,o,none⟩) k cap,.u n] [] w K:=by
 refine qox (b:=⟨some ⟨b,o,none⟩,k,cap⟩) ?_
 unfold qlu
 refine qak (fun x w'=>∃ j:Nat,x=j/\j<=k/\Own S w0 w' (L.set i (b,.cells (bytesA (A++((be n k).take j++X.drop j)++Z)) T (0,0)))) (fun x _=>((k:Int)-x).toNat) ⟨0,rfl,by omega,?_⟩ ?_
 ·have:L.set i (b,.cells (bytesA (A++((be n k).take 0++X.drop 0)++Z)) T (0,0))=L:=by
   apply ext_getElem?
   intro j
   rw [List.getElem?_set]
   by_cases hij:i=j
   ·subst hij
    rw [if_pos rfl,hi]
    have:=(zP.1 hi).1
    simp [this]
   ·rw [if_neg hij]
  rw [this]; exact h
 rintro x w1 ⟨j,rfl,hj,E⟩ Y hY
 have O:=(zP.1 hi).1
 dsimp only
 refine qaa (fun Q=>?_) (fun Q=>?_)
 ·have G:j<k:=by have:=zC Q; omega
  have e1:IntKind.wrap .i64 (8*IntKind.wrap .i64 (IntKind.wrap .i64 ((k:Int)-1)-j))=((8*(k-1-j):Nat):Int):=by
   rw [wi' ((k:Int)-1) (by omega),wi' ((k:Int)-1-j) (by omega),wi' (8*((k:Int)-1-j)) (by omega)]; omega
  rw [e1,wi' _ (by omega)]
  refine qbg (by omega) ?_
  refine qck (by omega) (by omega) ?_
  rw [zJ,xT,zJ]
  have I:X.drop j=X[j]::X.drop (j+1):=zX (by omega)
  have R:(be n k).take (j+1)=(be n k).take j++[byteAt n (k-1-j)]:=by
   rw [yF (by rw [qaq]; exact G)]
   simp [be]
  have C:((be n k).take j).length=j:=by rw [yK,qaq]; omega
  refine Own.st E i (by rw [List.getElem?_set,if_pos rfl,if_pos O]) (bytesA (A++((be n k).take (j+1)++X.drop (j+1))++Z)) ?_ rfl ?_ fun w2 J _=>?_
  ·rw [splice,splice]
   apply Array.ext'
   rw [Array.toList_setIfInBounds]
   show (bytesA _).toList.set _ _=(bytesA _).toList
   unfold bytesA
   simp only [toList_toArray]
   rw [<- map_set,I,R,zV A,set_append_right _ _ (by omega)]
   rw [show o+j-A.length=j by omega,zV ((be n k).take j),set_append_right _ _ (by omega),C,Nat.sub_self,xI,set_cons_zero]
   simp only [zV,xI,xH,byteAt]
  ·refine Nat.ble_eq_true_of_le ?_
   rw [qb1,I]
   simp only [zF,yH,xJ,C]
   omega
  ·refine hY _ _ ⟨j+1,by omega,by omega,?_⟩ (by omega)
   rw [set_set] at J
   exact J
 ·have G:j=k:=by have:=zB Q; omega
  subst G
  rw [zS (by rw [qaq]; exact zM _),drop_of_length_le (by omega),xG] at E
  exact V _ E
def getV (l:List Int):Int:=l.foldl (fun r x=>bits .or .u32 (IntKind.wrap .u32 (r*2^8)) (IntKind.wrap .u32 x)) 0
theorem qnQ {S:List Nat} {w:World} {s:Sl} {l:List Int} {K:Int->WP} (h:RdB S w s l) (Q:l.length<=100000) (J:K (getV l) w):cW 157 [s.v] [.one .u] w K:=by
 refine qol ?_
 unfold qlN
 have G:=h.1
 refine qak (fun x w'=>w'=w/\∃ i:Nat,x.2=i/\i<=l.length/\x.1=getV (l.take i)) (fun x _=>((l.length:Int)-x.2).toNat) ⟨rfl,0,rfl,by omega,rfl⟩ ?_
 rintro ⟨r,ii⟩ w' ⟨rfl,i,C,R,I⟩ X O
 simp only at C I
 subst C I
 refine qaa (fun E=>?_) (fun E=>?_)
 ·have A:i<l.length:=by have:=zC E; omega
  refine RdB.at h i rfl (zA A) ?_
  rw [wi' _ (by omega)]
  refine O _ _ ⟨rfl,i+1,by simp,by omega,?_⟩ (by dsimp only; omega)
  rw [yF A,getV,getV,foldl_append]
  rfl
 ·have A:i=l.length:=by have:=zB E; omega
  subst A
  rw [xZ]
  exact J
theorem qiU {S:List Nat} {w:World} {s:Sl} {l:List Int} {K:Sl->World->Prop} (h:RdB S w s l) (hl:l.length<=1000000)
  (hk:∀ s' B w',BufB w' s' l B->Fr [] w w'->(∀ b∈B,w.heap.size<=b)->(s.a.isNone=true->s'=⟨none,0,0⟩)->(s.a.isNone=false->s'.a.isNone=false)->K s' w') :
  cond (Option.isNone s.a) (K ⟨none,0,0⟩ w) (new (.cells #[] 5) w fun r w1=>Pt.run [Ty1.one Cell.slice] ((Builtin.append_ #[23,23] 23 #[.slice (some ⟨r,0,none⟩) 0 0,.slice s.a s.len s.cap]).run Tryz.prog w1) fun s' w'=>K s' w'):=by
 obtain ⟨i5,hi,hz,hsz,hby⟩:=qky
 refine qaa (fun hc=>?_) (fun hc=>?_)
 ·have hl0:l=[]:=by
   rcases h.2.2 with h3 | ⟨b,o,cs,T,fr,ha,_⟩
   ·exact h3
   ·rw [ha] at hc; cases hc
  subst hl0
  exact hk _ [] w (.nil _ _ _) (.refl _ _) (by simp) (fun _=>rfl) (fun h=>by rw [hc] at h; cases h)
 ·obtain ⟨a,ha⟩:∃ a,s.a=some a:=by cases hs:s.a with | none=>rw [hs] at hc; cases hc | some a=>exact ⟨a,rfl⟩
  have ho:=Own.start [] w
  refine Own.new ho fun r w1 e1 s1 ho=>?_
  have h1:RdB S w1 s l:=h.frame0 ho.fr
  have hb:BufB w1 ⟨some ⟨r,0,none⟩,0,0⟩ [] [r]:=Buf.fresh qat (ho.at (i:=0) rfl) rfl (zM _) (by simp) (by simp)
  have hlen:=h.1
  rw [ha]
  refine Buf.appSrc (s:=⟨some ⟨r,0,none⟩,0,0⟩) (ys:=l) (e:=5) hb qat (by kernel_rfl) hi hz hsz rfl (.ofSlice _ (e':=5) (by kernel_rfl) a s.len s.cap _ ?_ (h1.cells qat ha) ?_) hlen (by rw [hby,hlen]; simp; omega) (by rw [hlen]; simp; omega) fun s' B w' g1 g2 g3 g4=>?_
  ·rw [qaA]; simp [hlen]
  ·intro u hu
   rw [qaA] at hu
   obtain ⟨x,_,rfl⟩:=List.mem_map.1 hu
   rfl
  ·have hBn:∀ b∈B,w.heap.size<=b:=fun b hb=>by
    rcases g3 b hb with h | h
    ·simp at h; omega
    ·omega
   refine hk s' B w' (by simpa using g1) (ho.fr.trans' g2 (fun b hb=>by simp at hb; subst hb; exact .inr (by omega))) hBn (fun h=>by rw [hc] at h; cases h) (fun _=>?_)
   rcases g4 with hn | hn
   ·exact hn
   ·simp at hn
theorem qaX {S:List Nat} {w:World} {s:Sl} {l:List Int} {K:Sl->WP} (h:RdB S w s l) (A:l.length<=1000000)
  (C:∀ u B w',BufB w' u l B->Fr [] w w'->(∀ b∈B,w.heap.size<=b)->(s.a.isNone=true->u=⟨none,0,0⟩)->(s.a.isNone=false->u.a.isNone=false)->K u w') :
  cW 123 [s.v] [.one .slice] w K:=by
 refine qji ?_
 unfold qfG
 exact qiU h A C
theorem qaO {S:List Nat} {w:World} {s:Sl} {l:List Int} {K:Sl->WP} (h:RdB S w s l) (A:l.length<=1000000)
  (C:∀ u B w',BufB w' u l B->Fr [] w w'->(∀ b∈B,w.heap.size<=b)->(s.a.isNone=true->u=⟨none,0,0⟩)->(s.a.isNone=false->u.a.isNone=false)->K u w') :
  cW 68 [s.v] [.one .slice] w K:=by
 refine qkU ?_
 unfold qhg
 exact qiU h A C
def halvesL:List Int:=[0,274646895,549293790,820201905,1098587580,1361435347,1640403810,1905808397,2197175160,2460548119,2722870694,2987750089,3280807620,3553878443,3811616794,4084100981]
abbrev HG:Nat:=1
def Hv (w:World):Prop:=∃ T h,w.heap[HG]?=some (.cells (halvesL.map (Value.int .u32)).toArray T h)
theorem Hv.frame {S:List Nat} {w w':World} (h:Hv w) (f:Fr S w w') (A:HG∉S):Hv w':=by
 obtain ⟨T,C,u⟩:=h
 exact ⟨T,C,by rw [f.block HG (qab u) A]; exact u⟩
theorem Hv.frame0 {w w':World} (h:Hv w) (f:Fr [] w w'):Hv w':=h.frame f (by simp)
theorem Hv.lt {w:World} (h:Hv w):HG<w.heap.size:=by obtain ⟨T,A,u⟩:=h; exact qab u
theorem qqk (x:Int):0<=bits .and .u32 x 15/\bits .and .u32 x 15<16:=by
 have h:(BitVec.ofInt 32 x&&& BitVec.ofInt 32 15).toNat<16:=by
  rw [BitVec.toNat_and]
  exact Nat.lt_of_le_of_lt Nat.and_le_right (by decide)
 have u:bits .and .u32 x 15=((BitVec.ofInt 32 x&&& BitVec.ofInt 32 15).toNat:Int):=by
  show IntKind.wrap .u32 _=_
  unfold IntKind.wrap
  have:(IntKind.u32.signed)=false:=rfl
  simp only [this,Bool.false_and,Bool.false_eq_true,if_false]
  have e:((2:Int)^IntKind.u32.bits)=4294967296:=rfl
  rw [e]
  exact Int.emod_eq_of_lt (by omega) (by
   have:(BitVec.ofInt IntKind.u32.bits x&&& BitVec.ofInt IntKind.u32.bits 15).toNat<16:=h
   omega)
 rw [u]
 omega
def half (x:Int):Int:=halvesL.getD x.toNat 0
def turn4 (r:Int):Int:=bits .xor .u32 (Int.fdiv r (2^4)) (half (bits .and .u32 r 15))
def crcStep (r x:Int):Int:=turn4 (turn4 (bits .xor .u32 r (IntKind.wrap .u32 x)))
def moreV (h:Int) (l:List Int):Int:=bits .xor .u32 (l.foldl crcStep (bits .xor .u32 h 4294967295)) 4294967295
def sumV (l:List Int):Int:=moreV 0 l
theorem qo8 {w:World} {x:Int} {K:Int->Prop} (h:Hv w) (k:K (half (bits .and .u32 x 15))):ld .u (Addr.add ⟨HG,0,none⟩ (Int.toNat (bits .and .u32 x 15)*1)) w K:=by
 obtain ⟨T,I,C⟩:=h
 obtain ⟨E,G⟩:=qqk x
 rw [Addr.add_mk]
 refine qaj C _ ?_ k
 generalize bits .and .u32 x 15=y at E G
 have A:y.toNat<halvesL.length:=by show y.toNat<16; omega
 rw [xR,xT]
 simp only [List.getElem?_toArray,zQ,zA A,Option.map_some,half,yQ,xV]
 rfl
theorem qtq {S:List Nat} {w:World} {s:Sl} {l:List Int} {C:Int} {K:Int->WP} (h:RdB S w s l) (I:Hv w) (U:l.length<=100000) (Q:K (moreV C l) w) :
  cW 199 [.u C,s.v] [.one .u] w K:=by
 refine qoe ?_
 unfold qlR
 have J:=h.1
 refine qak (fun x w'=>w'=w/\∃ i:Nat,x.2=i/\i<=l.length/\x.1=(l.take i).foldl crcStep (bits .xor .u32 C 4294967295)) (fun x _=>((l.length:Int)-x.2).toNat) ⟨rfl,0,rfl,by omega,rfl⟩ ?_
 rintro ⟨r,ii⟩ w' ⟨rfl,i,E,V,O⟩ X R
 simp only at E O
 subst E O
 refine qaa (fun G=>?_) (fun G=>?_)
 ·have A:i<l.length:=by have:=zC G; omega
  refine RdB.at h i rfl (zA A) ?_
  refine qbg (qqk _) ?_
  refine qo8 I ?_
  refine qbg (qqk _) ?_
  refine qo8 I ?_
  rw [wi' _ (by omega)]
  refine R _ _ ⟨rfl,i+1,by simp,by omega,?_⟩ (by dsimp only; omega)
  rw [yF A,foldl_append]
  rfl
 ·have A:i=l.length:=by have:=zB G; omega
  subst A
  rw [xZ]
  exact Q
theorem qqJ {S:List Nat} {w:World} {s:Sl} {l:List Int} {K:Int->WP} (h:RdB S w s l) (A:Hv w) (C:l.length<=100000) (E:K (sumV l) w) :
  cW 151 [s.v] [.one .u] w K:=by
 refine qpm ?_
 unfold qmU
 exact qtq h A C E
end Go.Proofs.YtmmkegapckbomaaGreatDoor
end
section
namespace Go.Proofs.YtmmkegapckbomaaGreatDoor
open Go.ChangeShapes Go.WideShapes Go.ChangeAt Go.RowKit Go.Pt
theorem quD:ownKnob Tryz.prog.godebug=none:=by kernel_rfl
theorem qq1:laidOutB Tryz.prog=true:=by kernel_rfl
abbrev laidH:List (String×DataW Unit):=[("cashbook/crc.halves",Rows.laid_cashbook_crc_halves)]
theorem qoL:Tryz.prog.globalNamed "cashbook/crc.halves"=some HG:=by kernel_rfl
theorem qtO:(Tryz.prog.globals[HG]?).map (·.type)=some 308:=by kernel_rfl
theorem qtR:Tryz.prog.underlying 308=some (.array 16 37):=by kernel_rfl
theorem qs2:Tryz.prog.underlying 37=some (.int .u32):=by kernel_rfl
set_option maxRecDepth 100000 in
theorem qsK (h:Os) (args:Array Value):laidMetH Tryz.prog laidH ((World.doorLaid Tryz.prog 4000 h).forCall (fun _ _=>0) ⟨#[],args,[]⟩).memory:=
 laidMetH_of_parts3 (fuel:=8) (laidMet_of_run' 8 (by kernel_rfl) (by kernel_rfl)) (by kernel_rfl) (by kernel_rfl)
theorem qpr {W:World} (h:laidMetH Tryz.prog laidH W):Hv W:=by
 rw [MakeChecks.laidMetH_plain _ _ _ (by kernel_rfl)] at h
 obtain ⟨ps,⟨g0,t0,cs0,f0,p0,q0,hg0,ht0,hv0,hd0,_,_⟩,_,_⟩:=h
 obtain rfl:=yN (qoL.symm.trans hg0)
 obtain rfl:=yN (qtO.symm.trans ht0)
 obtain ⟨xs,m1,rfl,hx1,hlen,hn3,hel⟩:=DataW.trod_array qtR hd0
 simp only [Prod.mk.injEq] at hx1
 have hx:=hx1.1
 unfold Rows.laid_cashbook_crc_halves at hx
 rw [DataW.agg.injEq] at hx
 have c31:Tryz.prog.cellsOf 37=1:=by kernel_rfl
 have hcl:Tryz.prog.cellsOf 308=16:=by kernel_rfl
 have hb:∃ T fr,W.heap[HG]?=some (.cells cs0 T fr):=by
  unfold World.var? at hv0
  rw [qoL,Option.bind_some] at hv0
  split at hv0
  ·rename_i cs T fr hb
   cases hv0
   exact ⟨T,fr,hb⟩
  ·cases hv0
 obtain ⟨T,fr,hb⟩:=hb
 have key:∀ (i:Nat) (n:Int),(xs.map (·.1))[i]?=some (DataW.lit (.int .u32 n))->cs0.toList[i]?=some (.int .u32 n):=by
  intro i n hi
  rw [zQ] at hi
  obtain ⟨y,hy,hyn⟩:=yS.1 hi
  have hil:i<xs.length:=(zP.1 hy).1
  have h1:=hel i (by omega)
  rw [c31] at h1
  rw [hy] at h1
  obtain ⟨k,e1,e2,_⟩:=DataW.trod_int qs2 h1
  rw [e2] at hyn
  have hk:k=n:=by simpa using hyn
  subst hk
  have:=congrArg (·[0]?) e1
  simpa using this
 refine ⟨T,fr,?_⟩
 rw [hb]
 refine congrArg (fun c=>some (Obj.cells c T fr)) ?_
 apply Array.ext'
 apply List.ext_getElem?
 intro i
 have hsz:cs0.toList.length=16:=hlen.trans hcl
 have hx':xs.map (·.1)=halvesL.map (fun n=>DataW.lit (.int .u32 n)):=hx.symm
 by_cases hi:i<halvesL.length
 ·have h1:=key i halvesL[i] (by rw [hx',zQ,zA hi]; rfl)
  rw [h1]
  show _=(halvesL.map (Value.int .u32))[i]?
  rw [zQ,zA hi]
  rfl
 ·have h16:halvesL.length=16:=rfl
  rw [yR (by omega)]
  exact (yR (by rw [zK]; omega)).symm
theorem qpq {x:Int} (h:IntKind.u8.has x):0<=x/\x<256:=by
 have u:(0:Int)<=x/\x<=255:=h
 omega
end Go.Proofs.YtmmkegapckbomaaGreatDoor
end
section
set_option maxRecDepth 100000
namespace Go.Proofs.YtmmkegapckbomaaGreatDoor
open Go Go.Pt
@[reducible] def qac:List Cell:=[Cell.bool,Cell.slice,Cell.slice,Cell.slice]
@[reducible] def qca:List Cell:=[Cell.int IntKind.i64,Cell.int IntKind.i64,Cell.int IntKind.i64,Cell.int IntKind.i64]
@[reducible] def qai:List Cell:=[Cell.int IntKind.i64,Cell.int IntKind.i64,Cell.int IntKind.i64,Cell.int IntKind.i64,Cell.ptr,Cell.int IntKind.i64]
@[reducible] def qdt:List Cell:=[Cell.int IntKind.u32,Cell.int IntKind.u32,Cell.int IntKind.u32]
@[reducible] def qaV:List Cell:=[Cell.int IntKind.u32,Cell.bool,Cell.slice,Cell.int IntKind.u32]
def qfI (a:Sl) (b:Sl) (K:Int->WP) (w:World):Prop:=ext Tryz.prog 182 ([a.v,b.v]) ([.one .i]) w fun (c:Int) d=>K c d
theorem qjL {a b w K} (hF:qfI a b K w):cW 144 [a.v,b.v] [.one .i] w K:=qad (an:=[.n,.n]) Tryz.func144 hF
def qnk (a:Sl) (b:Sl) (K:Int->WP) (w:World):Prop:=cW 144 ([a.v,b.v]) ([.one .i]) w fun (c:Int) d=>K c d
theorem qpL {a b w K} (hF:qnk a b K w):cW 111 [a.v,b.v] [.one .i] w K:=qad (an:=[.n,.n]) Tryz.func111 hF
def qha (n:Int) (f:Value) (K:Int->WP) (w:World):Prop:=loop (Int×Int) (fun a (b:Int×Int) c=>cond (decide (b.fst<b.snd)) (callV Tryz.prog f ([.i (IntKind.wrap .i64 (Int.fdiv (IntKind.wrap .u64 (IntKind.wrap .i64 (b.fst+b.snd))) (2^1)))]) ([.one .bool]) c fun (d:Bool) e=>cond (!d) (a ((IntKind.wrap .i64 (IntKind.wrap .i64 (Int.fdiv (IntKind.wrap .u64 (IntKind.wrap .i64 (b.fst+b.snd))) (2^1))+1),b.snd)) e) (a ((b.fst,IntKind.wrap .i64 (Int.fdiv (IntKind.wrap .u64 (IntKind.wrap .i64 (b.fst+b.snd))) (2^1)))) e)) (K b.fst c)) ((0,n)) w
theorem qk3 {n f w K} (hF:qha n f K w):cW 117 [.i n,f] [.one .i] w K:=qad (an:=[.n,.n,.n,.l [(5,.one .i),(6,.one .i)],.n,.n,.n,.n,.n]) Tryz.func117 hF
def qkp (n:Int) (cmp:Value) (K:(Int×Bool)->WP) (w:World):Prop:=loop (Int×Int) (fun a (b:Int×Int) c=>cond (decide (b.fst<b.snd)) (callV Tryz.prog cmp ([.i (IntKind.wrap .i64 (Int.fdiv (IntKind.wrap .u64 (IntKind.wrap .i64 (b.fst+b.snd))) (2^1)))]) ([.one .i]) c fun (d:Int) e=>cond (decide (d>0)) (a ((IntKind.wrap .i64 (IntKind.wrap .i64 (Int.fdiv (IntKind.wrap .u64 (IntKind.wrap .i64 (b.fst+b.snd))) (2^1))+1),b.snd)) e) (a ((b.fst,IntKind.wrap .i64 (Int.fdiv (IntKind.wrap .u64 (IntKind.wrap .i64 (b.fst+b.snd))) (2^1)))) e)) (cond (decide (b.fst<n)) (callV Tryz.prog cmp ([.i b.fst]) ([.one .i]) c fun (f:Int) g=>K ((b.fst,f==0)) g) (K ((b.fst,false)) c))) ((0,n)) w
theorem qn3 {n cmp w K} (hF:qkp n cmp K w):cW 119 [.i n,cmp] [.one .i,.one .bool] w K:=qad (an:=[.n,.n,.n,.l [(4,.one .i),(6,.one .i)],.n,.n,.n,.n,.n]) Tryz.func119 hF
def qdf (s:Sl) (f:Value) (K:Int->WP) (w:World):Prop:=loop (Int) (fun b (c:Int) d=>cond (decide (c<(↑s.len:Int))) (idx s c 1 fun e=>ld .slice e d fun g=>callV Tryz.prog f ([g.v]) ([.one .bool]) d fun (h:Bool) i=>cond h (K c i) (b (IntKind.wrap .i64 (c+1)) i)) (K (-1) d)) 0 w
theorem qgg {s f w K} (hF:qdf s f K w):cW 235 [s.v,f] [.one .i] w K:=qad (an:=[.n,.n,.n,.l [(8,.one .i)],.n,.n,.n,.n,.n,.n,.n]) Tryz.func235 hF
def qdo (s:Sl) (f:Value) (K:Int->WP) (w:World):Prop:=loop (Int) (fun a (b:Int) c=>cond (decide (b<(↑s.len:Int))) (idx s b 1 fun d=>ld .u d c fun (e:Int)=>callV Tryz.prog f ([.u e]) ([.one .bool]) c fun (g:Bool) h=>cond g (K b h) (a (IntKind.wrap .i64 (b+1)) h)) (K (-1) c)) 0 w
theorem qge {s f w K} (hF:qdo s f K w):cW 218 [s.v,f] [.one .i] w K:=qad (an:=[.n,.n,.n,.l [(8,.one .i)],.n,.n,.n,.n,.n,.n,.n]) Tryz.func218 hF
def qcr (s:Sl) (f:Value) (K:Bool->WP) (w:World):Prop:=cW 235 ([s.v,f]) ([.one .i]) w fun (b:Int) c=>K (decide (b>=0)) c
theorem qef {s f w K} (hF:qcr s f K w):cW 216 [s.v,f] [.one .bool] w K:=qad (an:=[.n,.n]) Tryz.func216 hF
def qco (s:Sl) (f:Value) (K:Bool->WP) (w:World):Prop:=cW 218 ([s.v,f]) ([.one .i]) w fun (b:Int) c=>K (decide (b>=0)) c
theorem qee {s f w K} (hF:qco s f K w):cW 186 [s.v,f] [.one .bool] w K:=qad (an:=[.n,.n]) Tryz.func186 hF
def qeH (s:Sl) (i:Int) (v:Sl) (K:Sl->WP) (w:World):Prop:=slc s (some i) none none 1 fun b=>cond ((↑v.len:Int)==0) (K s w) (cond (i==(↑s.len:Int)) (run [.one .slice] ((Builtin.append_ (#[22,22]) 22 (#[.slice s.a s.len s.cap,.slice v.a v.len v.cap])).run Tryz.prog w) fun c d=>K c d) (cond (decide (IntKind.wrap .i64 ((↑s.len:Int)+(↑v.len:Int))>(↑s.cap:Int))) (slc s none (some i) none 1 fun e=>run [.one .slice] ((Builtin.append_ (#[22,3]) 22 (#[.slice e.a e.len e.cap,.i (IntKind.wrap .i64 (IntKind.wrap .i64 ((↑s.len:Int)+(↑v.len:Int))-i))])).run Tryz.prog w) fun f g=>slc f (some i) none none 1 fun h=>run [.one .i] ((Builtin.copy_ (#[22,22]) 3 (#[.slice h.a h.len h.cap,.slice v.a v.len v.cap])).run Tryz.prog g) fun (j:Int) k=>slc f (some (IntKind.wrap .i64 (i+(↑v.len:Int)))) none none 1 fun l=>slc s (some i) none none 1 fun m=>run [.one .i] ((Builtin.copy_ (#[22,22]) 3 (#[.slice l.a l.len l.cap,.slice m.a m.len m.cap])).run Tryz.prog k.drew) fun (n:Int) o=>K f o) (slc s none (some (IntKind.wrap .i64 ((↑s.len:Int)+(↑v.len:Int)))) none 1 fun p=>slc p (some (IntKind.wrap .i64 (i+(↑v.len:Int)))) none none 1 fun q=>ext Tryz.prog 172 ([.slice v.a v.len v.cap,.slice q.a q.len q.cap]) ([.one .bool]) w fun (r:Bool) t=>cond (!r) (slc p (some (IntKind.wrap .i64 (i+(↑v.len:Int)))) none none 1 fun u=>slc p (some i) none none 1 fun x=>run [.one .i] ((Builtin.copy_ (#[22,22]) 3 (#[.slice u.a u.len u.cap,.slice x.a x.len x.cap])).run Tryz.prog t.drew) fun (y:Int) z=>slc p (some i) none none 1 fun A=>run [.one .i] ((Builtin.copy_ (#[22,22]) 3 (#[.slice A.a A.len A.cap,.slice v.a v.len v.cap])).run Tryz.prog z) fun (B:Int) C=>K p C) (slc p (some (↑s.len:Int)) none none 1 fun D=>run [.one .i] ((Builtin.copy_ (#[22,22]) 3 (#[.slice D.a D.len D.cap,.slice v.a v.len v.cap])).run Tryz.prog t) fun (E:Int) F=>slc p (some i) none none 1 fun G=>cW 173 ([.slice G.a G.len G.cap,.i (↑v.len:Int)]) [] F fun (H:PUnit) I=>K p I))))
theorem qis {s i v w K} (hF:qeH s i v K w):cW 138 [s.v,.i i,v.v] [.one .slice] w K:=qad (an:=[.n,.n,.n,.n,.n,.n,.n,.n,.n,.n,.n,.n,.n,.n,.n,.o [[0,1,2,3,4,5,6,7,8]],.n,.n,.n,.n,.n,.o [[0,1,2,3,4,5,6,7,8]],.n,.n,.n,.n,.n]) Tryz.func138 hF
def qeA (s:Sl) (i:Int) (v:Sl) (K:Sl->WP) (w:World):Prop:=slc s (some i) none none 1 fun b=>cond ((↑v.len:Int)==0) (K s w) (cond (i==(↑s.len:Int)) (run [.one .slice] ((Builtin.append_ (#[92,92]) 92 (#[.slice s.a s.len s.cap,.slice v.a v.len v.cap])).run Tryz.prog w) fun c d=>K c d) (cond (decide (IntKind.wrap .i64 ((↑s.len:Int)+(↑v.len:Int))>(↑s.cap:Int))) (slc s none (some i) none 1 fun e=>run [.one .slice] ((Builtin.append_ (#[92,3]) 92 (#[.slice e.a e.len e.cap,.i (IntKind.wrap .i64 (IntKind.wrap .i64 ((↑s.len:Int)+(↑v.len:Int))-i))])).run Tryz.prog w) fun f g=>slc f (some i) none none 1 fun h=>run [.one .i] ((Builtin.copy_ (#[92,92]) 3 (#[.slice h.a h.len h.cap,.slice v.a v.len v.cap])).run Tryz.prog g) fun (j:Int) k=>slc f (some (IntKind.wrap .i64 (i+(↑v.len:Int)))) none none 1 fun l=>slc s (some i) none none 1 fun m=>run [.one .i] ((Builtin.copy_ (#[92,92]) 3 (#[.slice l.a l.len l.cap,.slice m.a m.len m.cap])).run Tryz.prog k.drew) fun (n:Int) o=>K f o) (slc s none (some (IntKind.wrap .i64 ((↑s.len:Int)+(↑v.len:Int)))) none 1 fun p=>slc p (some (IntKind.wrap .i64 (i+(↑v.len:Int)))) none none 1 fun q=>ext Tryz.prog 176 ([.slice v.a v.len v.cap,.slice q.a q.len q.cap]) ([.one .bool]) w fun (r:Bool) t=>cond (!r) (slc p (some (IntKind.wrap .i64 (i+(↑v.len:Int)))) none none 1 fun u=>slc p (some i) none none 1 fun x=>run [.one .i] ((Builtin.copy_ (#[92,92]) 3 (#[.slice u.a u.len u.cap,.slice x.a x.len x.cap])).run Tryz.prog t.drew) fun (y:Int) z=>slc p (some i) none none 1 fun A=>run [.one .i] ((Builtin.copy_ (#[92,92]) 3 (#[.slice A.a A.len A.cap,.slice v.a v.len v.cap])).run Tryz.prog z) fun (B:Int) C=>K p C) (slc p (some (↑s.len:Int)) none none 1 fun D=>run [.one .i] ((Builtin.copy_ (#[92,92]) 3 (#[.slice D.a D.len D.cap,.slice v.a v.len v.cap])).run Tryz.prog t) fun (E:Int) F=>slc p (some i) none none 1 fun G=>cW 177 ([.slice G.a G.len G.cap,.i (↑v.len:Int)]) [] F fun (H:PUnit) I=>K p I))))
theorem qiA {s i v w K} (hF:qeA s i v K w):cW 140 [s.v,.i i,v.v] [.one .slice] w K:=qad (an:=[.n,.n,.n,.n,.n,.n,.n,.n,.n,.n,.n,.n,.n,.n,.n,.o [[0,1,2,3,4,5,6,7,8]],.n,.n,.n,.n,.n,.o [[0,1,2,3,4,5,6,7,8]],.n,.n,.n,.n,.n]) Tryz.func140 hF
def qel (s:Sl) (i:Int) (j:Int) (K:Sl->WP) (w:World):Prop:=slc s (some i) (some j) (some (↑s.len:Int)) 1 fun b=>cond (i==j) (K s w) (slc s none (some i) none 1 fun c=>slc s (some j) none none 1 fun d=>run [.one .slice] ((Builtin.append_ (#[22,22]) 22 (#[.slice c.a c.len c.cap,.slice d.a d.len d.cap])).run Tryz.prog w.drew) fun e f=>slc e (some (↑e.len:Int)) (some (↑s.len:Int)) none 1 fun g=>run [] ((Builtin.clear_ #[22] 0 (#[.slice g.a g.len g.cap])).run Tryz.prog f) fun (h:PUnit) k=>K e k)
theorem qiu {s i j w K} (hF:qel s i j K w):cW 141 [s.v,.i i,.i j] [.one .slice] w K:=qad (an:=[.n,.n,.n,.n,.n,.n,.n,.o [[0,1,2,3,4,5,6,7]],.n,.n]) Tryz.func141 hF
def qev (s:Sl) (i:Int) (j:Int) (K:Sl->WP) (w:World):Prop:=slc s (some i) (some j) (some (↑s.len:Int)) 1 fun b=>cond (i==j) (K s w) (slc s none (some i) none 1 fun c=>slc s (some j) none none 1 fun d=>run [.one .slice] ((Builtin.append_ (#[92,92]) 92 (#[.slice c.a c.len c.cap,.slice d.a d.len d.cap])).run Tryz.prog w.drew) fun e f=>slc e (some (↑e.len:Int)) (some (↑s.len:Int)) none 1 fun g=>run [] ((Builtin.clear_ #[92] 0 (#[.slice g.a g.len g.cap])).run Tryz.prog f) fun (h:PUnit) k=>K e k)
theorem qiv {s i j w K} (hF:qev s i j K w):cW 214 [s.v,.i i,.i j] [.one .slice] w K:=qad (an:=[.n,.n,.n,.n,.n,.n,.n,.o [[0,1,2,3,4,5,6,7]],.n,.n]) Tryz.func214 hF
def qfa (slices:Sl) (K:Sl->WP) (w:World):Prop:=loop (Int×Int) (fun b (c:Int×Int) d=>cond (decide (c.snd<(↑slices.len:Int))) (join (Int) (fun e=>idx slices c.snd 1 fun f=>ld .slice f d fun g=>cond (decide (IntKind.wrap .i64 (c.fst+(↑g.len:Int))<0)) (False) (e (IntKind.wrap .i64 (c.fst+(↑g.len:Int))) d)) fun (h:Int) i=>b ((h,IntKind.wrap .i64 (c.snd+1))) i) (cW 210 ([.slice none 0 0,.i c.fst]) ([.one .slice]) d fun j k=>loop (Sl×Int) (fun l (m:Sl×Int) n=>cond (decide (m.snd<(↑slices.len:Int))) (idx slices m.snd 1 fun o=>ld .slice o n fun p=>run [.one .slice] ((Builtin.append_ (#[23,23]) 23 (#[m.fst.v,p.v])).run Tryz.prog n) fun q r=>l ((q,IntKind.wrap .i64 (m.snd+1))) r) (K m.fst n)) ((j,0)) k)) ((0,0)) w
theorem qjq {slices w K} (hF:qfa slices K w):cW 170 [slices.v] [.one .slice] w K:=qad (an:=[.n,.n,.n,.n,.l [(3,.one .i),(11,.one .i)],.n,.n,.j [(3,.one .i)],.n,.n,.n,.n,.n,.n,.l [(6,.one .slice),(27,.one .i)],.n,.n,.n,.n,.n]) Tryz.func170 hF
def qhs (s:Sl) (n:Int) (K:Sl->WP) (w:World):Prop:=join (PUnit) (fun b=>cond (decide (n<0)) (False) (b () w)) fun (c:PUnit) d=>join (Sl) (fun e=>cond (decide (IntKind.wrap .i64 (n-IntKind.wrap .i64 ((↑s.cap:Int)-(↑s.len:Int)))>0)) (slc s none (some (↑s.cap:Int)) none 1 fun f=>run [.one .slice] ((Builtin.append_ (#[23,3]) 23 (#[.slice f.a f.len f.cap,.i (IntKind.wrap .i64 (n-IntKind.wrap .i64 ((↑s.cap:Int)-(↑s.len:Int))))])).run Tryz.prog d) fun g h=>slc g none (some (↑s.len:Int)) none 1 fun i=>e i h) (e s d)) fun j k=>K j k
theorem qll {s n w K} (hF:qhs s n K w):cW 210 [s.v,.i n] [.one .slice] w K:=qad (an:=[.n,.j [],.n,.j [(0,.one .slice)],.n,.n,.n]) Tryz.func210 hF
def qj4 (k:Int) (v:Int) (K:(Int×Int)->WP) (w:World):Prop:=join (Bool) (fun a=>cond (decide (k<1)) (a true w) (cond (decide (k>24)) (a true w) (cond (decide (v<0)) (a true w) (a (decide (v>108)) w)))) fun (b:Bool) c=>cond b (K ((0,0)) c) (chk (IntKind.wrap .i64 (k+v)≠0)<|chk (IntKind.wrap .i64 (4+k)≠0)<|K ((IntKind.wrap .i64 (Int.tdiv 498 (IntKind.wrap .i64 (k+v))),IntKind.wrap .i64 (Int.tdiv (IntKind.wrap .i64 (498+k)) (IntKind.wrap .i64 (4+k))))) c.drew)
theorem qmW {k v w K} (hF:qj4 k v K w):cW 64 [.i k,.i v] [.one .i,.one .i] w K:=qad (an:=[.n,.n,.j [(20,.one .bool)],.n,.n,.n,.o [[0,1,2,3,4,5,6,7,8,9,10,11,12]]]) Tryz.func64 hF
def qj2 (l:Sl) (n:Int) (K:Bool->WP) (w:World):Prop:=new (Obj.cells #[.i n] 3) w fun b c=>cW 216 ([l.v,Value.func (Fn.func 217) #[] #[.pointer (pW b)]]) ([.one .bool]) c fun (d:Bool) e=>K (!d) e
theorem qmS {l n w K} (hF:qj2 l n K w):cW 184 [l.v,.i n] [.one .bool] w K:=qad (an:=[.n,.n]) Tryz.func184 hF
def qgC (b:Sl) (cap0:Addr) (K:Bool->WP) (w:World):Prop:=ld .i cap0 w fun (a:Int)=>K (!(↑b.len:Int)==a) w
theorem qkc {b cap0 w K} (hF:qgC b cap0 K w):cW 217 [b.v,.pointer (some cap0)] [.one .bool] w K:=qad (an:=[.n,.n]) Tryz.func217 hF
def qi3 (l:Sl) (K:Bool->WP) (w:World):Prop:=loop (Int) (fun b (c:Int) d=>cond (decide (c<(↑l.len:Int))) (idx l (IntKind.wrap .i64 (c-1)) 1 fun e=>ld .slice e d.drew fun f=>idx l c 1 fun g=>ld .slice g d.drew fun h=>cW 111 ([f.v,h.v]) ([.one .i]) d.drew fun (i:Int) j=>cond (decide (i>=0)) (K false j) (b (IntKind.wrap .i64 (c+1)) j)) (K true d)) 1 w
theorem qmr {l w K} (hF:qi3 l K w):cW 185 [l.v] [.one .bool] w K:=qad (an:=[.n,.n,.n,.l [(3,.one .i)],.n,.n,.n,.n,.o [[0,1,2,3,4,5,6,7,8,9,10]],.n,.n]) Tryz.func185 hF
def qiC (n0:Bool) (n1:Sl) (n2:Sl) (n3:Sl) (k:Int) (v:Int) (K:Bool->WP) (w:World):Prop:=new (Obj.cells #[.bool n0,n1.v,n2.v,n3.v] 143) w fun b c=>cW 64 ([.i k,.i v]) ([.one .i,.one .i]) c fun (d:Int×Int) e=>join (Bool) (fun f=>ld .slice ⟨b,1,none⟩ e fun g=>cW 184 ([g.v,.i k]) ([.one .bool]) e fun (h:Bool) i=>cond (!h) (f true i) (ld .slice ⟨b,2,none⟩ i fun j=>cW 184 ([j.v,.i v]) ([.one .bool]) i fun (l:Bool) m=>cond (!l) (f true m) (ld .slice ⟨b,1,none⟩ m fun n=>cW 185 ([n.v]) ([.one .bool]) m fun (o:Bool) p=>f (!o) p))) fun (q:Bool) r=>cond q (K false r) (ld .bool ⟨b,0,none⟩ r fun (s:Bool)=>cond s (ld .slice ⟨b,3,none⟩ r fun t=>cond ((↑t.len:Int)==0) (ld .slice ⟨b,1,none⟩ r fun u=>cond (decide ((↑u.len:Int)>=1)) (ld .slice ⟨b,1,none⟩ r fun x=>cond (decide ((↑x.len:Int)<=d.fst)) (ld .slice ⟨b,2,none⟩ r fun y=>ld .slice ⟨b,1,none⟩ r fun z=>K ((↑y.len:Int)==(↑z.len:Int)) r) (K false r)) (K false r)) (K false r)) (ld .slice ⟨b,3,none⟩ r fun A=>cW 186 ([A.v,Value.func (Fn.func 187) #[] #[]]) ([.one .bool]) r fun (B:Bool) C=>cond B (K false C) (ld .slice ⟨b,2,none⟩ C fun D=>cond ((↑D.len:Int)==0) (ld .slice ⟨b,3,none⟩ C fun E=>cond (decide ((↑E.len:Int)>=2)) (ld .slice ⟨b,3,none⟩ C fun F=>cond (decide ((↑F.len:Int)<=d.snd)) (ld .slice ⟨b,1,none⟩ C fun G=>ld .slice ⟨b,3,none⟩ C fun H=>K ((↑G.len:Int)==IntKind.wrap .i64 ((↑H.len:Int)-1)) C) (K false C)) (K false C)) (K false C))))
theorem qmA {n0 n1 n2 n3 k v w K} (hF:qiC n0 n1 n2 n3 k v K w):cW 147 [.agg #[.bool n0,n1.v,n2.v,n3.v],.i k,.i v] [.one .bool] w K:=qad (an:=[.n,.n,.n,.j [(32,.one .bool)],.n,.n,.n,.n,.n,.n,.n,.n]) Tryz.func147 hF
def qe5 (x:Int) (K:Bool->WP) (w:World):Prop:=K (decide (x<2)) w
theorem qjQ {x w K} (hF:qe5 x K w):cW 187 [.u x] [.one .bool] w K:=qad (an:=[.n,.n]) Tryz.func187 hF
def qjd (n0:Bool) (n1:Sl) (n2:Sl) (n3:Sl) (k:Int) (v:Int) (K:(Int×Sl×Int)->WP) (w:World):Prop:=new (Obj.cells #[.bool n0,n1.v,n2.v,n3.v] 143) w fun b c=>ldA (qac) ⟨b,0,none⟩ c fun (d:Bool×Sl×Sl×Sl)=>cW 147 ([.agg (List.toArray (HL.mk qac d)),.i k,.i v]) ([.one .bool]) c fun (e:Bool) f=>cond (!e) (K ((0,{ a:=none,len:=0,cap:=0 },1)) f) (ld .bool ⟨b,0,none⟩ f fun (g:Bool)=>cond g (ld .slice ⟨b,1,none⟩ f fun h=>ld .slice ⟨b,1,none⟩ f fun i=>new (Obj.cells #[.b (IntKind.wrap .u8 (Int.fdiv ((↑h.len:Int)) (2^8))),.b (IntKind.wrap .u8 (↑i.len:Int))] 5) f fun j l=>ld .slice ⟨b,1,none⟩ l fun m=>loop (Sl×Int) (fun n (o:Sl×Int) p=>cond (decide (o.snd<(↑m.len:Int))) (idx m o.snd 1 fun q=>ld .slice q p fun r=>ld .slice ⟨b,2,none⟩ p.drew fun s=>idx s o.snd 1 fun t=>ld .slice t p.drew fun u=>run [.one .slice] ((Builtin.append_ (#[23,23]) 23 (#[o.fst.v,r.v])).run Tryz.prog p.drew) fun x y=>held [cEl t u.v,cEl ⟨b,2,none⟩ s.v] y<|run [.one .slice] ((Builtin.append_ (#[23,23]) 23 (#[x.v,u.v])).run Tryz.prog y) fun B C=>n ((B,IntKind.wrap .i64 (o.snd+1))) C) (K ((3,o.fst,0)) p)) (({ a:=pW j,len:=2,cap:=2 },0)) l) (ld .slice ⟨b,3,none⟩ f fun D=>ld .slice ⟨b,3,none⟩ f fun E=>new (Obj.cells #[.b (IntKind.wrap .u8 (Int.fdiv ((↑D.len:Int)) (2^8))),.b (IntKind.wrap .u8 (↑E.len:Int))] 5) f fun F G=>ld .slice ⟨b,3,none⟩ G fun H=>loop (Sl×Int) (fun I (J:Sl×Int) L=>cond (decide (J.snd<(↑H.len:Int))) (idx H J.snd 1 fun M=>ld .u M L fun (N:Int)=>new (Obj.cells #[.b (IntKind.wrap .u8 (Int.fdiv N (2^24))),.b (IntKind.wrap .u8 (Int.fdiv N (2^16))),.b (IntKind.wrap .u8 (Int.fdiv N (2^8))),.b (IntKind.wrap .u8 N)] 5) L fun O P=>run [.one .slice] ((Builtin.append_ (#[23,23]) 23 (#[J.fst.v,.slice (pW O) 4 4])).run Tryz.prog P) fun Q R=>I ((Q,IntKind.wrap .i64 (J.snd+1))) R) (ld .slice ⟨b,1,none⟩ L fun S=>cW 170 ([S.v]) ([.one .slice]) L fun T U=>run [.one .slice] ((Builtin.append_ (#[23,23]) 23 (#[J.fst.v,T.v])).run Tryz.prog U) fun V W=>K ((4,V,0)) W)) (({ a:=pW F,len:=2,cap:=2 },0)) G))
theorem qmu {n0 n1 n2 n3 k v w K} (hF:qjd n0 n1 n2 n3 k v K w):cW 135 [.agg #[.bool n0,n1.v,n2.v,n3.v],.i k,.i v] [.one .b,.one .slice,.one .i] w K:=qad (an:=[.n,.n,.n,.n,.n,.n,.n,.n,.n,.l [(9,.one .slice),(35,.one .i)],.n,.n,.n,.n,.o [[0,1,3,4,5,6,7,2,8,9]],.n,.n,.n,.n,.l [(12,.one .slice),(64,.one .i)],.n,.n,.n,.n,.n]) Tryz.func135 hF
def qeX (b:Sl) (K:Value->WP) (w:World):Prop:=new (Obj.cells #[b.v] 23) w fun c d=>K (Value.func (Fn.func 215) #[] #[.pointer (pW c)]) d
theorem qgt {b w K} (hF:qeX b K w):cW 183 [b.v] [.one .any] w K:=qad (an:=[.n,.n]) Tryz.func183 hF
def qfu (n:Int) (cap0:Addr) (K:Sl->WP) (w:World):Prop:=ld .slice cap0 w fun b=>slc b none (some n) none 1 fun c=>cW 123 ([c.v]) ([.one .slice]) w fun d e=>ld .slice cap0 e fun f=>slc f (some n) none none 1 fun g=>st cap0 ([g.v]) e fun h=>K d h
theorem qjO {n cap0 w K} (hF:qfu n cap0 K w):cW 215 [.i n,.pointer (some cap0)] [.one .slice] w K:=qad (an:=[.n,.n,.n,.n]) Tryz.func215 hF
def qkA (body:Sl) (count:Int) (k:Int) (v:Int) (K:((Bool×Sl×Sl×Sl)×Bool)->WP) (w:World):Prop:=new (Obj.cells #[.bool false,.slice none 0 0,.slice none 0 0,.slice none 0 0] 143) w fun b c=>cond (!(↑body.len:Int)==IntKind.wrap .i64 (count*IntKind.wrap .i64 (k+v))) (st ⟨b,0,none⟩ ([.bool false,.slice none 0 0,.slice none 0 0,.slice none 0 0]) c fun d=>ldA (qac) ⟨b,0,none⟩ d fun (e:Bool×Sl×Sl×Sl)=>K ((e,false)) d) (new (Obj.cells #[.bool false,.slice none 0 0,.slice none 0 0,.slice none 0 0] 143) c fun f g=>st ⟨f,0,none⟩ ([.bool true,.slice none 0 0,.slice none 0 0,.slice none 0 0]) g fun h=>cW 183 ([body.v]) ([.one .any]) h fun (i:Value) j=>loop (Int) (fun l (m:Int) n=>cond (decide (m<count)) (ld .slice ⟨f,1,none⟩ n.drew fun o=>callV Tryz.prog i ([.i k]) ([.one .slice]) n.drew fun p q=>held [cEl ⟨f,1,none⟩ o.v] q<|new (Obj.cells #[p.v] 23) q fun s t=>held [cEl ⟨f,1,none⟩ o.v] t<|run [.one .slice] ((Builtin.append_ (#[22,22]) 22 (#[o.v,.slice (pW s) 1 1])).run Tryz.prog t) fun x y=>st ⟨f,1,none⟩ ([x.v]) y fun z=>ld .slice ⟨f,2,none⟩ z.drew fun A=>callV Tryz.prog i ([.i v]) ([.one .slice]) z.drew fun B C=>held [cEl ⟨f,2,none⟩ A.v] C<|new (Obj.cells #[B.v] 23) C fun E F=>held [cEl ⟨f,2,none⟩ A.v] F<|run [.one .slice] ((Builtin.append_ (#[22,22]) 22 (#[A.v,.slice (pW E) 1 1])).run Tryz.prog F) fun H I=>st ⟨f,2,none⟩ ([H.v]) I fun J=>l (IntKind.wrap .i64 (m+1)) J) (ldA (qac) ⟨f,0,none⟩ n fun (L:Bool×Sl×Sl×Sl)=>st ⟨b,0,none⟩ (HL.mk qac L) n fun M=>ldA (qac) ⟨b,0,none⟩ M fun (N:Bool×Sl×Sl×Sl)=>K ((N,true)) M)) 0 j)
theorem qnt {body count k v w K} (hF:qkA body count k v K w):cW 145 [body.v,.i count,.i k,.i v] [.agg [.bool,.slice,.slice,.slice],.one .bool] w K:=qad (an:=[.n,.n,.n,.n,.n,.n,.n,.n,.l [(25,.one .i)],.n,.n,.n,.n,.o [[0,1,2,3,4,5,6,7,8]],.o [[0,1,2,3,4,5,6,7,8]],.n]) Tryz.func145 hF
def qiN (body:Sl) (count:Int) (k:Int) (K:((Bool×Sl×Sl×Sl)×Bool)->WP) (w:World):Prop:=new (Obj.cells #[.bool false,.slice none 0 0,.slice none 0 0,.slice none 0 0] 143) w fun b c=>join (Bool) (fun d=>cond (decide (count<1)) (d true c) (d (!(↑body.len:Int)==IntKind.wrap .i64 (IntKind.wrap .i64 (count*4)+IntKind.wrap .i64 (IntKind.wrap .i64 (count-1)*k))) c)) fun (e:Bool) f=>cond e (st ⟨b,0,none⟩ ([.bool false,.slice none 0 0,.slice none 0 0,.slice none 0 0]) f fun g=>ldA (qac) ⟨b,0,none⟩ g fun (h:Bool×Sl×Sl×Sl)=>K ((h,false)) g) (new (Obj.cells #[.bool false,.slice none 0 0,.slice none 0 0,.slice none 0 0] 143) f fun i j=>cW 183 ([body.v]) ([.one .any]) j fun (l:Value) m=>loop (Int) (fun n (o:Int) p=>cond (decide (o<count)) (callV Tryz.prog l ([.i 4]) ([.one .slice]) p fun q r=>ld .slice ⟨i,3,none⟩ r.drew fun s=>idx q 0 1 fun t=>ld .b t r.drew fun (u:Int)=>idx q 1 1 fun v=>ld .b v r.drew fun (x:Int)=>idx q 2 1 fun y=>ld .b y r.drew fun (z:Int)=>idx q 3 1 fun A=>ld .b A r.drew fun (B:Int)=>new (Obj.cells #[.u (bits BinOp.or IntKind.u32 (bits BinOp.or IntKind.u32 (bits BinOp.or IntKind.u32 (IntKind.wrap .u32 (IntKind.wrap .u32 u*2^24)) (IntKind.wrap .u32 (IntKind.wrap .u32 x*2^16))) (IntKind.wrap .u32 (IntKind.wrap .u32 z*2^8))) (IntKind.wrap .u32 B))] 37) r.drew fun C D=>held [cEl ⟨i,3,none⟩ s.v] D<|run [.one .slice] ((Builtin.append_ (#[92,92]) 92 (#[s.v,.slice (pW C) 1 1])).run Tryz.prog D) fun F G=>st ⟨i,3,none⟩ ([F.v]) G fun H=>n (IntKind.wrap .i64 (o+1)) H) (loop (Int) (fun I (J:Int) L=>cond (decide (J<IntKind.wrap .i64 (count-1))) (ld .slice ⟨i,1,none⟩ L.drew fun M=>callV Tryz.prog l ([.i k]) ([.one .slice]) L.drew fun N O=>held [cEl ⟨i,1,none⟩ M.v] O<|new (Obj.cells #[N.v] 23) O fun Q R=>held [cEl ⟨i,1,none⟩ M.v] R<|run [.one .slice] ((Builtin.append_ (#[22,22]) 22 (#[M.v,.slice (pW Q) 1 1])).run Tryz.prog R) fun T U=>st ⟨i,1,none⟩ ([T.v]) U fun V=>I (IntKind.wrap .i64 (J+1)) V) (ldA (qac) ⟨i,0,none⟩ L fun (W:Bool×Sl×Sl×Sl)=>st ⟨b,0,none⟩ (HL.mk qac W) L fun X=>ldA (qac) ⟨b,0,none⟩ X fun (Y:Bool×Sl×Sl×Sl)=>K ((Y,true)) X)) 0 p)) 0 m)
theorem qmE {body count k w K} (hF:qiN body count k K w):cW 146 [body.v,.i count,.i k] [.agg [.bool,.slice,.slice,.slice],.one .bool] w K:=qad (an:=[.n,.n,.j [(24,.one .bool)],.n,.n,.n,.n,.n,.l [(29,.one .i)],.n,.n,.n,.n,.o [[0,1,2,3,4,5,6,7,8,9,10,11,12,13,14,15,16,17,18,19,20,21,22,23,24,25,26,27]],.n,.n,.l [(63,.one .i)],.n,.n,.n,.o [[0,1,2,3,4,5,6,7,8]],.n]) Tryz.func146 hF
def qkq (kind:Int) (body:Sl) (k:Int) (v:Int) (K:((Bool×Sl×Sl×Sl)×Int)->WP) (w:World):Prop:=new (Obj.cells #[.bool false,.slice none 0 0,.slice none 0 0,.slice none 0 0] 143) w fun b c=>cW 64 ([.i k,.i v]) ([.one .i,.one .i]) c fun (d:Int×Int) e=>join (Bool) (fun f=>cond (d.fst==0) (f true e) (cond (decide ((↑body.len:Int)<2)) (f true e) (f (decide ((↑body.len:Int)>500)) e))) fun (g:Bool) h=>cond g (st ⟨b,0,none⟩ ([.bool false,.slice none 0 0,.slice none 0 0,.slice none 0 0]) h fun i=>ldA (qac) ⟨b,0,none⟩ i fun (j:Bool×Sl×Sl×Sl)=>K ((j,2)) i) (idx body 0 1 fun l=>ld .b l h.drew fun (m:Int)=>idx body 1 1 fun n=>ld .b n h.drew fun (o:Int)=>new (Obj.cells #[.bool false,.slice none 0 0,.slice none 0 0,.slice none 0 0] 143) h.drew fun p q=>join (Bool) (fun r=>cond (kind==3) (slc body (some 2) none none 1 fun s=>cW 145 ([s.v,.i (bits BinOp.or IntKind.i64 (IntKind.wrap .i64 (IntKind.wrap .i64 m*2^8)) (IntKind.wrap .i64 o)),.i k,.i v]) ([.agg qac,.one .bool]) q fun (t:(Bool×Sl×Sl×Sl)×Bool) u=>st ⟨p,0,none⟩ (HL.mk qac t.fst) u fun x=>r t.snd x) (cond (kind==4) (slc body (some 2) none none 1 fun y=>cW 146 ([y.v,.i (bits BinOp.or IntKind.i64 (IntKind.wrap .i64 (IntKind.wrap .i64 m*2^8)) (IntKind.wrap .i64 o)),.i k]) ([.agg qac,.one .bool]) q fun (z:(Bool×Sl×Sl×Sl)×Bool) A=>st ⟨p,0,none⟩ (HL.mk qac z.fst) A fun B=>r z.snd B) (r false q))) fun (C:Bool) D=>join (Bool) (fun E=>cond (!C) (E true D) (ldA (qac) ⟨p,0,none⟩ D fun (F:Bool×Sl×Sl×Sl)=>cW 147 ([.agg (List.toArray (HL.mk qac F)),.i k,.i v]) ([.one .bool]) D fun (G:Bool) H=>E (!G) H)) fun (I:Bool) J=>cond I (st ⟨b,0,none⟩ ([.bool false,.slice none 0 0,.slice none 0 0,.slice none 0 0]) J fun L=>ldA (qac) ⟨b,0,none⟩ L fun (M:Bool×Sl×Sl×Sl)=>K ((M,2)) L) (ldA (qac) ⟨p,0,none⟩ J fun (N:Bool×Sl×Sl×Sl)=>st ⟨b,0,none⟩ (HL.mk qac N) J fun O=>ldA (qac) ⟨b,0,none⟩ O fun (P:Bool×Sl×Sl×Sl)=>K ((P,0)) O))
theorem qm9 {kind body k v w K} (hF:qkq kind body k v K w):cW 112 [.b kind,body.v,.i k,.i v] [.agg [.bool,.slice,.slice,.slice],.one .i] w K:=qad (an:=[.n,.n,.n,.j [(32,.one .bool)],.n,.n,.o [[0,1,2,3,4,5,6,7,8,9,10]],.n,.n,.j [(14,.one .bool)],.n,.n,.n,.n,.j [(74,.one .bool)],.n,.n]) Tryz.func112 hF
def qiT (n0:Bool) (n1:Sl) (n2:Sl) (n3:Sl) (k:Sl) (K:(Int×Bool)->WP) (w:World):Prop:=new (Obj.cells #[.bool n0,n1.v,n2.v,n3.v] 143) w fun b c=>new (Obj.cells #[k.v] 23) c fun d e=>ld .slice ⟨b,1,none⟩ e fun f=>cW 119 ([.i (↑f.len:Int),Value.func (Fn.func 120) #[] #[.pointer (pW d),.pointer (pW b)]]) ([.one .i,.one .bool]) e fun (g:Int×Bool) h=>K g h
theorem qmF {n0 n1 n2 n3 k w K} (hF:qiT n0 n1 n2 n3 k K w):cW 84 [.agg #[.bool n0,n1.v,n2.v,n3.v],k.v] [.one .i,.one .bool] w K:=qad (an:=[.n,.n]) Tryz.func84 hF
def qfk (i:Int) (cap0:Addr) (cap1:Addr) (K:Int->WP) (w:World):Prop:=ld .slice cap0 w.drew fun b=>ld .slice ⟨cap1.block,cap1.off+1,none⟩ w.drew fun c=>idx c i 1 fun d=>ld .slice d w.drew fun e=>cW 111 ([b.v,e.v]) ([.one .i]) w.drew fun (f:Int) g=>K f g
theorem qjG {i cap0 cap1 w K} (hF:qfk i cap0 cap1 K w):cW 120 [.i i,.pointer (some cap0),.pointer (some cap1)] [.one .i] w K:=qad (an:=[.n,.n,.o [[0,1,2,3,4,5,6,7]]]) Tryz.func120 hF
def qmh (n0:Bool) (n1:Sl) (n2:Sl) (n3:Sl) (k:Sl) (K:Int->WP) (w:World):Prop:=new (Obj.cells #[.bool n0,n1.v,n2.v,n3.v] 143) w fun b c=>new (Obj.cells #[k.v] 23) c fun d e=>ld .slice ⟨b,1,none⟩ e fun f=>cW 117 ([.i (↑f.len:Int),Value.func (Fn.func 118) #[] #[.pointer (pW d),.pointer (pW b)]]) ([.one .i]) e fun (g:Int) h=>K g h
theorem qob {n0 n1 n2 n3 k w K} (hF:qmh n0 n1 n2 n3 k K w):cW 83 [.agg #[.bool n0,n1.v,n2.v,n3.v],k.v] [.one .i] w K:=qad (an:=[.n,.n]) Tryz.func83 hF
def qhk (i:Int) (cap0:Addr) (cap1:Addr) (K:Bool->WP) (w:World):Prop:=ld .slice cap0 w.drew fun b=>ld .slice ⟨cap1.block,cap1.off+1,none⟩ w.drew fun c=>idx c i 1 fun d=>ld .slice d w.drew fun e=>cW 111 ([b.v,e.v]) ([.one .i]) w.drew fun (f:Int) g=>K (decide (f<0)) g
theorem qlp {i cap0 cap1 w K} (hF:qhk i cap0 cap1 K w):cW 118 [.i i,.pointer (some cap0),.pointer (some cap1)] [.one .bool] w K:=qad (an:=[.n,.n,.o [[0,1,2,3,4,5,6,7,8]]]) Tryz.func118 hF
def qiV (t:Int) (K:(Int×Int)->WP) (w:World):Prop:=cond (t==0) (K ((16,88)) w) (cond (t==1) (K ((16,108)) w) (cond (t==2) (K ((16,1)) w) (cond (t==3) (K ((16,16)) w) (join (Bool) (fun a=>cond (t==4) (a (t==4) w) (a (t==5) w)) fun (b:Bool) c=>cond b (K ((24,16)) c) (cond (t==6) (K ((24,65)) c) (cond (t==7) (K ((1,8)) c) (K ((0,0)) c)))))))
theorem qmz {t w K} (hF:qiV t K w):cW 63 [.i t] [.one .i,.one .i] w K:=qad (an:=[.n,.n,.n,.n,.n,.n,.n,.n,.n,.n,.n,.j [(13,.one .bool)],.n,.n,.n,.n,.n,.n,.n]) Tryz.func63 hF
def qd4 (s0:Int) (s1:Int) (s2:Int) (s3:Int) (n0:Bool) (n1:Sl) (n2:Sl) (n3:Sl) (K:(Int×Int)->WP) (w:World):Prop:=new (Obj.cells #[.i s0,.i s1,.i s2,.i s3] 112) w fun b c=>new (Obj.cells #[.bool n0,n1.v,n2.v,n3.v] 143) c fun d e=>ld .bool ⟨d,0,none⟩ e fun (f:Bool)=>cond f (ld .slice ⟨d,1,none⟩ e.drew fun g=>ld .i ⟨b,2,none⟩ e.drew fun (h:Int)=>K (((↑g.len:Int),h)) e.drew) (ld .slice ⟨d,3,none⟩ e.drew fun i=>ld .i ⟨b,3,none⟩ e.drew fun (j:Int)=>K (((↑i.len:Int),j)) e.drew)
theorem qhp {s0 s1 s2 s3 n0 n1 n2 n3 w K} (hF:qd4 s0 s1 s2 s3 n0 n1 n2 n3 K w):cW 174 [.agg #[.i s0,.i s1,.i s2,.i s3],.agg #[.bool n0,n1.v,n2.v,n3.v]] [.one .i,.one .i] w K:=qad (an:=[.n,.n,.n,.n,.o [[0,1,2,3,4,5,6]],.n,.o [[0,1,2,3,4,5,6]]]) Tryz.func174 hF
def qex (s0:Int) (s1:Int) (s2:Int) (s3:Int) (n0:Bool) (n1:Sl) (n2:Sl) (n3:Sl) (K:Bool->WP) (w:World):Prop:=new (Obj.cells #[.i s0,.i s1,.i s2,.i s3] 112) w fun b c=>new (Obj.cells #[.bool n0,n1.v,n2.v,n3.v] 143) c fun d e=>ldA (qca) ⟨b,0,none⟩ e fun (f:Int×Int×Int×Int)=>ldA (qac) ⟨d,0,none⟩ e fun (g:Bool×Sl×Sl×Sl)=>cW 174 ([.agg (List.toArray (HL.mk qca f)),.agg (List.toArray (HL.mk qac g))]) ([.one .i,.one .i]) e fun (h:Int×Int) i=>K (decide (h.fst<IntKind.wrap .i64 (Int.tdiv h.snd 2))) i
theorem qik {s0 s1 s2 s3 n0 n1 n2 n3 w K} (hF:qex s0 s1 s2 s3 n0 n1 n2 n3 K w):cW 142 [.agg #[.i s0,.i s1,.i s2,.i s3],.agg #[.bool n0,n1.v,n2.v,n3.v]] [.one .bool] w K:=qad (an:=[.n,.n,.n]) Tryz.func142 hF
def qdv (s0:Int) (s1:Int) (s2:Int) (s3:Int) (n0:Bool) (n1:Sl) (n2:Sl) (n3:Sl) (K:Bool->WP) (w:World):Prop:=new (Obj.cells #[.i s0,.i s1,.i s2,.i s3] 112) w fun b c=>new (Obj.cells #[.bool n0,n1.v,n2.v,n3.v] 143) c fun d e=>ldA (qca) ⟨b,0,none⟩ e fun (f:Int×Int×Int×Int)=>ldA (qac) ⟨d,0,none⟩ e fun (g:Bool×Sl×Sl×Sl)=>cW 174 ([.agg (List.toArray (HL.mk qca f)),.agg (List.toArray (HL.mk qac g))]) ([.one .i,.one .i]) e fun (h:Int×Int) i=>K (decide (h.fst>IntKind.wrap .i64 (Int.tdiv h.snd 2))) i
theorem qgQ {s0 s1 s2 s3 n0 n1 n2 n3 w K} (hF:qdv s0 s1 s2 s3 n0 n1 n2 n3 K w):cW 178 [.agg #[.i s0,.i s1,.i s2,.i s3],.agg #[.bool n0,n1.v,n2.v,n3.v]] [.one .bool] w K:=qad (an:=[.n,.n,.n]) Tryz.func178 hF
def qjc (p:Option Addr) (t:Int) (key:Sl) (K:((Int×Int×Int×Int×(Option Addr)×Int)×Int)->WP) (w:World):Prop:=new (Obj.cells #[.i 0,.i 0,.i 0,.i 0,.pointer none,.i 0] 114) w fun a b=>cW 63 ([.i t]) ([.one .i,.one .i]) b fun (c:Int×Int) d=>cond (c.fst==0) (st ⟨a,0,none⟩ ([.i 0,.i 0,.i 0,.i 0,.pointer none,.i 0]) d fun e=>ldA (qai) ⟨a,0,none⟩ e fun (f:Int×Int×Int×Int×Option Addr×Int)=>K ((f,4)) e) (cond (!(↑key.len:Int)==c.fst) (st ⟨a,0,none⟩ ([.i 0,.i 0,.i 0,.i 0,.pointer none,.i 0]) d fun g=>ldA (qai) ⟨a,0,none⟩ g fun (h:Int×Int×Int×Int×Option Addr×Int)=>K ((h,1)) g) (cW 64 ([.i c.fst,.i c.snd]) ([.one .i,.one .i]) d fun (i:Int×Int) j=>st ⟨a,0,none⟩ ([.i c.fst,.i c.snd,.i i.fst,.i i.snd,.pointer p,.i t]) j fun k=>ldA (qai) ⟨a,0,none⟩ k fun (l:Int×Int×Int×Int×Option Addr×Int)=>K ((l,0)) k))
theorem qmw {p t key w K} (hF:qjc p t key K w):cW 59 [.pointer p,.i t,key.v] [.agg [.i,.i,.i,.i,.ptr,.i],.one .i] w K:=qad (an:=[.n,.n,.n,.n,.n,.n,.n,.n,.n]) Tryz.func59 hF
def qeN (w_0:Int) (w_1:Int) (w_2:Int) (w_3:Int) (w_4:Option Addr) (w_5:Int) (n:Int) (K:((Bool×Sl×Sl×Sl)×Int)->WP) (w:World):Prop:=new (Obj.cells #[.i w_0,.i w_1,.i w_2,.i w_3,.pointer w_4,.i w_5] 114) w fun b w_2=>new (Obj.cells #[.bool false,.slice none 0 0,.slice none 0 0,.slice none 0 0] 143) w_2 fun c w_4=>ld .ptr ⟨b,4,none⟩ w_4 fun d=>cW 91 ([.pointer d,.u n]) ([.one .b,.one .slice,.one .i]) w_4 fun (e:Int×Sl×Int) f=>cond (!e.snd.snd==0) (st ⟨c,0,none⟩ ([.bool false,.slice none 0 0,.slice none 0 0,.slice none 0 0]) f fun g=>ldA (qac) ⟨c,0,none⟩ g fun (h:Bool×Sl×Sl×Sl)=>K ((h,e.snd.snd)) g) (ld .i ⟨b,0,none⟩ f fun (i:Int)=>ld .i (⟨(Addr.add ⟨b,0,none⟩ 0).block,(Addr.add ⟨b,0,none⟩ 0).off+1,none⟩) f fun (j:Int)=>cW 112 ([.b e.fst,e.snd.fst.v,.i i,.i j]) ([.agg qac,.one .i]) f fun (k:(Bool×Sl×Sl×Sl)×Int) l=>st ⟨c,0,none⟩ (HL.mk qac k.fst) l fun m=>ldA (qac) ⟨c,0,none⟩ m fun (o:Bool×Sl×Sl×Sl)=>K ((o,k.snd)) m)
theorem qip {w_0 w_1 w_2 w_3 w_4 w_5 n w K} (hF:qeN w_0 w_1 w_2 w_3 w_4 w_5 n K w):cW 82 [.agg #[.i w_0,.i w_1,.i w_2,.i w_3,.pointer w_4,.i w_5],.u n] [.agg [.bool,.slice,.slice,.slice],.one .i] w K:=qad (an:=[.n,.n,.n,.n,.n,.n]) Tryz.func82 hF
def qdV (w_0:Int) (w_1:Int) (w_2:Int) (w_3:Int) (w_4:Option Addr) (w_5:Int) (n:Int) (x0:Bool) (x1:Sl) (x2:Sl) (x3:Sl) (K:(Int×Int)->WP) (w:World):Prop:=new (Obj.cells #[.i w_0,.i w_1,.i w_2,.i w_3,.pointer w_4,.i w_5] 114) w fun b w_2=>new (Obj.cells #[.bool x0,x1.v,x2.v,x3.v] 143) w_2 fun c w_4=>ldA (qac) ⟨c,0,none⟩ w_4 fun (d:Bool×Sl×Sl×Sl)=>ld .i ⟨b,0,none⟩ w_4 fun (e:Int)=>ld .i (⟨(Addr.add ⟨b,0,none⟩ 0).block,(Addr.add ⟨b,0,none⟩ 0).off+1,none⟩) w_4 fun (f:Int)=>cW 135 ([.agg (List.toArray (HL.mk qac d)),.i e,.i f]) ([.one .b,.one .slice,.one .i]) w_4 fun (g:Int×Sl×Int) h=>cond (!g.snd.snd==0) (K ((0,2)) h) (join (PUnit) (fun i=>cond (!n==0) (ld .ptr ⟨b,4,none⟩ h fun j=>cW 136 ([.pointer j,.u n,.b g.fst,g.snd.fst.v]) ([.one .i]) h fun (k:Int) l=>cond (!k==10) (K ((n,k)) l) (i () l)) (i () h)) fun (m:PUnit) o=>ld .ptr ⟨b,4,none⟩ o fun p=>cW 137 ([.pointer p,.b g.fst,g.snd.fst.v]) ([.one .u,.one .i]) o fun (q:Int×Int) r=>join (Int) (fun s=>join (Bool) (fun t=>cond (q.snd==0) (t (!n==0) r) (t false r)) fun (u:Bool) v=>cond u (ld .ptr ⟨b,4,none⟩ v fun x=>cW 110 ([.pointer x,.u n]) ([.one .i]) v fun (y:Int) z=>s y z) (s q.snd v)) fun (A:Int) B=>K ((q.fst,A)) B)
theorem qhh {w_0 w_1 w_2 w_3 w_4 w_5 n x0 x1 x2 x3 w K} (hF:qdV w_0 w_1 w_2 w_3 w_4 w_5 n x0 x1 x2 x3 K w):cW 106 [.agg #[.i w_0,.i w_1,.i w_2,.i w_3,.pointer w_4,.i w_5],.u n,.agg #[.bool x0,x1.v,x2.v,x3.v]] [.one .u,.one .i] w K:=qad (an:=[.n,.n,.n,.n,.n,.j [],.n,.n,.n,.n,.n,.j [(10,.one .i)],.j [(52,.one .bool)],.n]) Tryz.func106 hF
def qb5 (w_0:Int) (w_1:Int) (w_2:Int) (w_3:Int) (w_4:Option Addr) (w_5:Int) (do_:Value) (K:Int->WP) (w:World):Prop:=new (Obj.cells #[.i w_0,.i w_1,.i w_2,.i w_3,.pointer w_4,.i w_5] 114) w fun a w_2=>ld .ptr ⟨a,4,none⟩ w_2.drew fun b=>ld .ptr ⟨a,4,none⟩ w_2.drew fun c=>ld .i ⟨a,5,none⟩ w_2.drew fun (d:Int)=>cW 46 ([.pointer b]) ([.one .i]) w_2.drew fun (e:Int) f=>held [cEl ⟨a,5,none⟩ (.i d),cEl ⟨a,4,none⟩ (.pointer c)] f<|cW 19 ([.pointer c,.i d]) ([.agg qdt]) f fun (i:Int×Int×Int) j=>cond (decide (e>IntKind.wrap .i64 (2*IntKind.wrap .i64 i.snd.snd))) (callV Tryz.prog do_ [] ([.one .i]) j fun (k:Int) l=>K k l) (ld .ptr ⟨a,4,none⟩ j fun m=>cW 104 ([.pointer m]) ([.one .ptr]) j fun n o=>callV Tryz.prog do_ [] ([.one .i]) o fun (p:Int) q=>join (PUnit) (fun r=>join (Bool) (fun s=>cond (!p==0) (s (!Option.isNone n) q) (s false q)) fun (t:Bool) u=>cond t (ld .ptr ⟨a,4,none⟩ u fun v=>cW 105 ([.pointer v,.pointer n]) ([.one .i]) u fun (x:Int) y=>r () y) (r () u)) fun (z:PUnit) A=>K p A)
theorem qdp {w_0 w_1 w_2 w_3 w_4 w_5 do_ w K} (hF:qb5 w_0 w_1 w_2 w_3 w_4 w_5 do_ K w):cW 60 [.agg #[.i w_0,.i w_1,.i w_2,.i w_3,.pointer w_4,.i w_5],do_] [.one .i] w K:=qad (an:=[.n,.n,.n,.o [[0,1,3,4,5,6,2,7,8,9,10,11]],.n,.n,.n,.j [],.j [(31,.one .bool)],.n]) Tryz.func60 hF
def qlv (p:Option Addr) (t:Int) (key:Sl) (value:Sl) (K:Int->WP) (w:World):Prop:=new (Obj.cells #[key.v] 23) w fun b c=>new (Obj.cells #[value.v] 23) c fun d e=>ld .slice ⟨b,0,none⟩ e fun f=>cW 59 ([.pointer p,.i t,f.v]) ([.agg qai,.one .i]) e fun (g:(Int×Int×Int×Int×Option Addr×Int)×Int) h=>new (Obj.cells #[.i 0,.i 0,.i 0,.i 0,.pointer none,.i 0] 114) h fun i j=>st ⟨i,0,none⟩ (HL.mk qai g.fst) j fun k=>cond (!g.snd==0) (K g.snd k) (ld .slice ⟨d,0,none⟩ k fun l=>ld .i (⟨(Addr.add ⟨i,0,none⟩ 0).block,(Addr.add ⟨i,0,none⟩ 0).off+1,none⟩) k fun (m:Int)=>cond (!(↑l.len:Int)==m) (K 1 k) (ldA (qai) ⟨i,0,none⟩ k fun (n:Int×Int×Int×Int×Option Addr×Int)=>cW 60 ([.agg (List.toArray (HL.mk qai n)),Value.func (Fn.func 61) #[] #[.pointer (pW i),.pointer (pW b),.pointer (pW d)]]) ([.one .i]) k fun (o:Int) q=>K o q))
theorem qog {p t key value w K} (hF:qlv p t key value K w):cW 17 [.pointer p,.i t,key.v,value.v] [.one .i] w K:=qad (an:=[.n,.n,.n,.n,.n,.n,.n,.n,.n]) Tryz.func17 hF
def qhI (cap0:Addr) (cap1:Addr) (cap2:Addr) (K:Int->WP) (w:World):Prop:=ldA (qai) cap0 w fun (b:Int×Int×Int×Int×Option Addr×Int)=>ld .slice cap1 w fun c=>ld .slice cap2 w fun d=>cW 62 ([.agg (List.toArray (HL.mk qai b)),c.v,d.v]) ([.one .i]) w fun (e:Int) f=>K e f
theorem qlf {cap0 cap1 cap2 w K} (hF:qhI cap0 cap1 cap2 K w):cW 61 [.pointer (some cap0),.pointer (some cap1),.pointer (some cap2)] [.one .i] w K:=qad (an:=[.n,.n]) Tryz.func61 hF
def qlP (p:Option Addr) (t:Int) (key:Sl) (K:Int->WP) (w:World):Prop:=new (Obj.cells #[key.v] 23) w fun b c=>ld .slice ⟨b,0,none⟩ c fun d=>cW 59 ([.pointer p,.i t,d.v]) ([.agg qai,.one .i]) c fun (e:(Int×Int×Int×Int×Option Addr×Int)×Int) f=>new (Obj.cells #[.i 0,.i 0,.i 0,.i 0,.pointer none,.i 0] 114) f fun g h=>st ⟨g,0,none⟩ (HL.mk qai e.fst) h fun i=>cond (!e.snd==0) (K e.snd i) (ld .slice ⟨b,0,none⟩ i fun j=>cW 41 ([.pointer p,.i t,j.v]) ([.one .slice,.one .i]) i fun (k:Sl×Int) l=>cond (!k.snd==0) (K k.snd l) (ldA (qai) ⟨g,0,none⟩ l fun (m:Int×Int×Int×Int×Option Addr×Int)=>cW 60 ([.agg (List.toArray (HL.mk qai m)),Value.func (Fn.func 65) #[] #[.pointer (pW g),.pointer (pW b)]]) ([.one .i]) l fun (n:Int) o=>K n o))
theorem qom {p t key w K} (hF:qlP p t key K w):cW 21 [.pointer p,.i t,key.v] [.one .i] w K:=qad (an:=[.n,.n,.n,.n,.n,.n,.n,.n,.n,.n]) Tryz.func21 hF
def qh4 (cap0:Addr) (cap1:Addr) (K:Int->WP) (w:World):Prop:=ldA (qai) cap0 w fun (b:Int×Int×Int×Int×Option Addr×Int)=>ld .slice cap1 w fun c=>cW 66 ([.agg (List.toArray (HL.mk qai b)),c.v]) ([.one .i]) w fun (d:Int) e=>K d e
theorem qlg {cap0 cap1 w K} (hF:qh4 cap0 cap1 K w):cW 65 [.pointer (some cap0),.pointer (some cap1)] [.one .i] w K:=qad (an:=[.n,.n]) Tryz.func65 hF
def qdw (w_0:Int) (w_1:Int) (w_2:Int) (w_3:Int) (w_4:Option Addr) (w_5:Int) (key:Sl) (value:Sl) (K:Int->WP) (w:World):Prop:=new (Obj.cells #[.i w_0,.i w_1,.i w_2,.i w_3,.pointer w_4,.i w_5] 114) w fun b w_2=>ld .ptr ⟨b,4,none⟩ w_2 fun c=>ld .i ⟨b,5,none⟩ w_2 fun (d:Int)=>cW 19 ([.pointer c,.i d]) ([.agg qdt]) w_2 fun (e:Int×Int×Int) f=>new (Obj.cells #[.u 0,.u 0,.u 0] 39) f fun g h=>st ⟨g,0,none⟩ (HL.mk qdt e) h fun i=>ld .u ⟨g,0,none⟩ i fun (j:Int)=>cond (j==0) (ldA (qai) ⟨b,0,none⟩ i fun (k:Int×Int×Int×Int×Option Addr×Int)=>new (Obj.cells #[key.v] 23) i fun l m=>new (Obj.cells #[value.v] 23) m fun n o=>cW 106 ([.agg (List.toArray (HL.mk qai k)),.u 0,.agg #[.bool true,.slice (pW l) 1 1,.slice (pW n) 1 1,.slice none 0 0]]) ([.one .u,.one .i]) o fun (p:Int×Int) q=>cond (!p.snd==0) (K p.snd q) (ld .ptr ⟨b,4,none⟩ q fun r=>ld .i ⟨b,5,none⟩ q fun (s:Int)=>cW 107 ([.pointer r,.i s,.agg #[.u p.fst,.u 1,.u 1]]) ([.one .i]) q fun (t:Int) u=>K t u)) (ldA (qai) ⟨b,0,none⟩ i fun (v:Int×Int×Int×Int×Option Addr×Int)=>ld .u ⟨g,0,none⟩ i fun (x:Int)=>cW 108 ([.agg (List.toArray (HL.mk qai v)),.u x,key.v,value.v]) ([.agg qaV,.one .i]) i fun (y:(Int×Bool×Sl×Int)×Int) z=>new (Obj.cells #[.u 0,.bool false,.slice none 0 0,.u 0] 192) z fun A B=>st ⟨A,0,none⟩ (HL.mk qaV y.fst) B fun C=>cond (!y.snd==0) (K y.snd C) (ld .u ⟨A,0,none⟩ C fun (D:Int)=>st ⟨g,0,none⟩ ([.u D]) C fun E=>join (PUnit) (fun F=>ld .bool ⟨A,1,none⟩ E fun (G:Bool)=>cond G (ld .u ⟨g,1,none⟩ E fun (H:Int)=>st ⟨g,1,none⟩ ([.u (IntKind.wrap .u32 (H+1))]) E fun I=>F () I) (F () E)) fun (J:PUnit) L=>join (PUnit) (fun M=>ld .u ⟨A,3,none⟩ L fun (N:Int)=>cond (!N==0) (ldA (qai) ⟨b,0,none⟩ L fun (O:Int×Int×Int×Int×Option Addr×Int)=>ld .slice ⟨A,2,none⟩ L fun P=>new (Obj.cells #[P.v] 23) L fun Q R=>ld .u ⟨A,0,none⟩ R fun (S:Int)=>ld .u ⟨A,3,none⟩ R fun (T:Int)=>new (Obj.cells #[.u S,.u T] 37) R fun U V=>cW 106 ([.agg (List.toArray (HL.mk qai O)),.u 0,.agg #[.bool false,.slice (pW Q) 1 1,.slice none 0 0,.slice (pW U) 2 2]]) ([.one .u,.one .i]) V fun (W:Int×Int) X=>cond (!W.snd==0) (K W.snd X) (ld .u ⟨g,2,none⟩ X fun (Y:Int)=>st ⟨g,0,none⟩ ([.u W.fst]) X fun Z=>st ⟨g,2,none⟩ ([.u (IntKind.wrap .u32 (Y+1))]) Z fun aa=>M () aa)) (M () L)) fun (ab:PUnit) ac=>ld .ptr ⟨b,4,none⟩ ac fun ad=>ld .i ⟨b,5,none⟩ ac fun (ae:Int)=>ldA (qdt) ⟨g,0,none⟩ ac fun (af:Int×Int×Int)=>cW 107 ([.pointer ad,.i ae,.agg (List.toArray (HL.mk qdt af))]) ([.one .i]) ac fun (ag:Int) ah=>K ag ah))
theorem qgW {w_0 w_1 w_2 w_3 w_4 w_5 key value w K} (hF:qdw w_0 w_1 w_2 w_3 w_4 w_5 key value K w):cW 62 [.agg #[.i w_0,.i w_1,.i w_2,.i w_3,.pointer w_4,.i w_5],key.v,value.v] [.one .i] w K:=qad (an:=[.n,.n,.n,.n,.n,.n,.n,.n,.n,.n,.n,.n,.n,.n,.j [],.n,.j [],.n,.n,.n,.n,.n,.n]) Tryz.func62 hF
def qdB (w_0:Int) (w_1:Int) (w_2:Int) (w_3:Int) (w_4:Option Addr) (w_5:Int) (key:Sl) (K:Int->WP) (w:World):Prop:=new (Obj.cells #[.i w_0,.i w_1,.i w_2,.i w_3,.pointer w_4,.i w_5] 114) w fun b w_2=>ld .ptr ⟨b,4,none⟩ w_2 fun c=>ld .i ⟨b,5,none⟩ w_2 fun (d:Int)=>cW 19 ([.pointer c,.i d]) ([.agg qdt]) w_2 fun (e:Int×Int×Int) f=>new (Obj.cells #[.u 0,.u 0,.u 0] 39) f fun g h=>st ⟨g,0,none⟩ (HL.mk qdt e) h fun i=>ldA (qai) ⟨b,0,none⟩ i fun (j:Int×Int×Int×Int×Option Addr×Int)=>ld .u ⟨g,0,none⟩ i fun (k:Int)=>cW 109 ([.agg (List.toArray (HL.mk qai j)),.u k,key.v]) ([.agg qac,.one .i]) i fun (l:(Bool×Sl×Sl×Sl)×Int) m=>new (Obj.cells #[.bool false,.slice none 0 0,.slice none 0 0,.slice none 0 0] 143) m fun n o=>st ⟨n,0,none⟩ (HL.mk qac l.fst) o fun p=>cond (!l.snd==0) (K l.snd p) (ld .u ⟨g,1,none⟩ p fun (q:Int)=>st ⟨g,1,none⟩ ([.u (IntKind.wrap .u32 (q-1))]) p fun r=>join (Int) (fun s=>join (Bool) (fun t=>ld .bool ⟨n,0,none⟩ r fun (u:Bool)=>cond u (ld .slice ⟨n,1,none⟩ r fun v=>t ((↑v.len:Int)==0) r) (t false r)) fun (x:Bool) y=>cond x (ld .ptr ⟨b,4,none⟩ y fun z=>ld .u ⟨g,0,none⟩ y fun (A:Int)=>cW 110 ([.pointer z,.u A]) ([.one .i]) y fun (B:Int) C=>st ⟨g,0,none⟩ ([.u 0,.u 0,.u 0]) C fun D=>s B D) (join (Bool) (fun E=>ld .bool ⟨n,0,none⟩ y fun (F:Bool)=>cond (!F) (ld .slice ⟨n,3,none⟩ y fun G=>E ((↑G.len:Int)==1) y) (E false y)) fun (H:Bool) I=>cond H (ld .ptr ⟨b,4,none⟩ I fun J=>ld .u ⟨g,0,none⟩ I fun (L:Int)=>cW 110 ([.pointer J,.u L]) ([.one .i]) I fun (M:Int) N=>ld .slice ⟨n,3,none⟩ N.drew fun O=>idx O 0 1 fun P=>ld .u P N.drew fun (Q:Int)=>ld .u ⟨g,2,none⟩ N.drew fun (R:Int)=>st ⟨g,0,none⟩ ([.u Q]) N.drew fun S=>st ⟨g,2,none⟩ ([.u (IntKind.wrap .u32 (R-1))]) S fun T=>s M T) (ldA (qai) ⟨b,0,none⟩ I fun (U:Int×Int×Int×Int×Option Addr×Int)=>ld .u ⟨g,0,none⟩ I fun (V:Int)=>ldA (qac) ⟨n,0,none⟩ I fun (W:Bool×Sl×Sl×Sl)=>cW 106 ([.agg (List.toArray (HL.mk qai U)),.u V,.agg (List.toArray (HL.mk qac W))]) ([.one .u,.one .i]) I fun (X:Int×Int) Y=>st ⟨g,0,none⟩ ([.u X.fst]) Y fun Z=>s X.snd Z))) fun (aa:Int) ab=>cond (!aa==0) (K aa ab) (ld .ptr ⟨b,4,none⟩ ab fun ac=>ld .i ⟨b,5,none⟩ ab fun (ad:Int)=>ldA (qdt) ⟨g,0,none⟩ ab fun (ae:Int×Int×Int)=>cW 107 ([.pointer ac,.i ad,.agg (List.toArray (HL.mk qdt ae))]) ([.one .i]) ab fun (af:Int) ag=>K af ag))
theorem qgV {w_0 w_1 w_2 w_3 w_4 w_5 key w K} (hF:qdB w_0 w_1 w_2 w_3 w_4 w_5 key K w):cW 66 [.agg #[.i w_0,.i w_1,.i w_2,.i w_3,.pointer w_4,.i w_5],key.v] [.one .i] w K:=qad (an:=[.n,.n,.n,.n,.n,.n,.n,.j [(7,.one .i)],.j [(37,.one .bool)],.j [(52,.one .bool)],.n,.o [[0,1,2,3,4,5,6,7,8,9,10]],.n,.n,.n,.n]) Tryz.func66 hF
def qbL (s_116:Sl) (x_81:Int) (r_127:Nat) (w_128:World) (r_8:Nat) (s_123:Sl) (X_112:PUnit->WP):Prop:=cW 138 ([Value.slice s_116.a s_116.len s_116.cap,Value.int IntKind.i64 x_81,Value.slice (some { block:=r_127,off:=0 }) 1 1]) ([Ty1.one Cell.slice]) w_128 fun (s_132:Sl) (w_133:World)=>st ({ block:=r_8,off:=3 }) ([Value.slice s_123.a s_123.len s_123.cap]) w_133 fun (w_134:World)=>st ({ block:=r_8,off:=1 }) ([Value.slice s_132.a s_132.len s_132.cap]) w_134 fun (w_135:World)=>X_112 () w_135
def qcz (at_:Int) (K:((Int×Bool×Sl×Int)×Int)->WP) (r_89:Nat) (t_87:(Int×Bool×Sl×Int)×Int) (w_90:World) (r_3:Nat) (r_8:Nat) (x_81:Int) (r_1:Nat):Prop:=st ({ block:=r_89,off:=0 }) (HL.mk qaV t_87.fst) w_90 fun (w_94:World)=>cond (!t_87.snd==0) (st ({ block:=r_3,off:=0 }) ([Value.int IntKind.u32 0,Value.bool false,Value.slice none 0 0,Value.int IntKind.u32 0]) w_94 fun (w_95:World)=>ldA (qaV) ({ block:=r_3,off:=0 }) w_95 fun (t_96:Int×Bool×Sl×Int)=>K ((t_96,t_87.snd)) w_95) (join (Bool) (fun (X_97:Bool->WP)=>ld (Cell.int IntKind.u32) ({ block:=r_89,off:=0 }) w_94.drew fun (x_98:Int)=>ld Cell.slice ({ block:=r_8,off:=3 }) w_94.drew fun (s_99:Sl)=>idx s_99 x_81 1 fun (a_100:Addr)=>ld (Cell.int IntKind.u32) a_100 w_94.drew fun (x_101:Int)=>cond (x_98==x_101) (ld (Cell.int IntKind.u32) ({ block:=r_89,off:=3 }) w_94.drew fun (x_102:Int)=>X_97 (x_102==0) w_94.drew) (X_97 false w_94.drew)) fun (b_103:Bool) (w_104:World)=>cond b_103 (ld Cell.bool ({ block:=r_89,off:=1 }) w_104 fun (b_105:Bool)=>st ({ block:=r_3,off:=0 }) ([Value.int IntKind.u32 at_,Value.bool b_105,Value.slice none 0 0,Value.int IntKind.u32 0]) w_104 fun (w_106:World)=>ldA (qaV) ({ block:=r_3,off:=0 }) w_106 fun (t_107:Int×Bool×Sl×Int)=>K ((t_107,0)) w_106) (ld Cell.slice ({ block:=r_8,off:=3 }) w_104 fun (s_108:Sl)=>ld (Cell.int IntKind.u32) ({ block:=r_89,off:=0 }) w_104 fun (x_109:Int)=>idx s_108 x_81 1 fun (a_110:Addr)=>st a_110 ([Value.int IntKind.u32 x_109]) w_104 fun (w_111:World)=>join (PUnit) (fun (X_112:PUnit->WP)=>ld (Cell.int IntKind.u32) ({ block:=r_89,off:=3 }) w_111 fun (x_113:Int)=>cond (!x_113==0) ((ld Cell.slice ({ block:=r_8,off:=3 }) w_111.drew fun (s_114:Sl)=>ld (Cell.int IntKind.u32) ({ block:=r_89,off:=3 }) w_111.drew fun (x_115:Int)=>ld Cell.slice ({ block:=r_8,off:=1 }) w_111.drew fun (s_116:Sl)=>ld Cell.slice ({ block:=r_89,off:=2 }) w_111.drew fun (s_117:Sl)=>new (Obj.cells #[Value.int IntKind.u32 x_115] 37) w_111.drew fun (r_118:Nat) (w_119:World)=>held [fun (w_120:Go.World)=>World.cell? w_120 ({ block:=r_89,off:=2 })=some (Value.slice s_117.a s_117.len s_117.cap),fun (w_121:Go.World)=>World.cell? w_121 ({ block:=r_8,off:=1 })=some (Value.slice s_116.a s_116.len s_116.cap),fun (w_122:Go.World)=>World.cell? w_122 ({ block:=r_8,off:=3 })=some (Value.slice s_114.a s_114.len s_114.cap)] w_119<|cW 140 ([Value.slice s_114.a s_114.len s_114.cap,Value.int IntKind.i64 (IntKind.wrap IntKind.i64 (x_81+1)),Value.slice (some { block:=r_118,off:=0 }) 1 1]) ([Ty1.one Cell.slice]) w_119 fun (s_123:Sl) (w_124:World)=>held [fun (w_125:Go.World)=>World.cell? w_125 ({ block:=r_89,off:=2 })=some (Value.slice s_117.a s_117.len s_117.cap),fun (w_126:Go.World)=>World.cell? w_126 ({ block:=r_8,off:=1 })=some (Value.slice s_116.a s_116.len s_116.cap)] w_124<|new (Obj.cells #[Value.slice s_117.a s_117.len s_117.cap] 23) w_124 fun (r_127:Nat) (w_128:World)=>held [fun (w_129:Go.World)=>World.cell? w_129 ({ block:=r_8,off:=1 })=some (Value.slice s_116.a s_116.len s_116.cap),fun (w_130:Go.World)=>World.cell? w_130 ({ block:=r_89,off:=3 })=some (Value.int IntKind.u32 x_115),fun (w_131:Go.World)=>World.cell? w_131 ({ block:=r_8,off:=3 })=some (Value.slice s_114.a s_114.len s_114.cap)] w_128<|qbL s_116 x_81 r_127 w_128 r_8 s_123 X_112)/\((ld Cell.slice ({ block:=r_8,off:=3 }) w_111.drew fun (s_136:Sl)=>ld (Cell.int IntKind.u32) ({ block:=r_89,off:=3 }) w_111.drew fun (x_137:Int)=>ld Cell.slice ({ block:=r_8,off:=1 }) w_111.drew fun (s_138:Sl)=>ld Cell.slice ({ block:=r_89,off:=2 }) w_111.drew fun (s_139:Sl)=>new (Obj.cells #[Value.int IntKind.u32 x_137] 37) w_111.drew fun (r_140:Nat) (w_141:World)=>held [fun (w_142:Go.World)=>World.cell? w_142 ({ block:=r_89,off:=2 })=some (Value.slice s_139.a s_139.len s_139.cap),fun (w_143:Go.World)=>World.cell? w_143 ({ block:=r_8,off:=1 })=some (Value.slice s_138.a s_138.len s_138.cap),fun (w_144:Go.World)=>World.cell? w_144 ({ block:=r_8,off:=3 })=some (Value.slice s_136.a s_136.len s_136.cap)] w_141<|new (Obj.cells #[Value.slice s_139.a s_139.len s_139.cap] 23) w_141 fun (r_145:Nat) (w_146:World)=>held [fun (w_147:Go.World)=>World.cell? w_147 ({ block:=r_8,off:=1 })=some (Value.slice s_138.a s_138.len s_138.cap),fun (w_148:Go.World)=>World.cell? w_148 ({ block:=r_89,off:=3 })=some (Value.int IntKind.u32 x_137),fun (w_149:Go.World)=>World.cell? w_149 ({ block:=r_8,off:=3 })=some (Value.slice s_136.a s_136.len s_136.cap)] w_146<|cW 140 ([Value.slice s_136.a s_136.len s_136.cap,Value.int IntKind.i64 (IntKind.wrap IntKind.i64 (x_81+1)),Value.slice (some { block:=r_140,off:=0 }) 1 1]) ([Ty1.one Cell.slice]) w_146 fun (s_150:Sl) (w_151:World)=>held [fun (w_152:Go.World)=>World.cell? w_152 ({ block:=r_89,off:=2 })=some (Value.slice s_139.a s_139.len s_139.cap),fun (w_153:Go.World)=>World.cell? w_153 ({ block:=r_8,off:=1 })=some (Value.slice s_138.a s_138.len s_138.cap)] w_151<|qbL s_138 x_81 r_145 w_151 r_8 s_150 X_112)/\(ld Cell.slice ({ block:=r_8,off:=3 }) w_111.drew fun (s_158:Sl)=>ld (Cell.int IntKind.u32) ({ block:=r_89,off:=3 }) w_111.drew fun (x_159:Int)=>ld Cell.slice ({ block:=r_8,off:=1 }) w_111.drew fun (s_160:Sl)=>ld Cell.slice ({ block:=r_89,off:=2 }) w_111.drew fun (s_161:Sl)=>new (Obj.cells #[Value.slice s_161.a s_161.len s_161.cap] 23) w_111.drew fun (r_162:Nat) (w_163:World)=>held [fun (w_164:Go.World)=>World.cell? w_164 ({ block:=r_8,off:=1 })=some (Value.slice s_160.a s_160.len s_160.cap),fun (w_165:Go.World)=>World.cell? w_165 ({ block:=r_89,off:=3 })=some (Value.int IntKind.u32 x_159),fun (w_166:Go.World)=>World.cell? w_166 ({ block:=r_8,off:=3 })=some (Value.slice s_158.a s_158.len s_158.cap)] w_163<|new (Obj.cells #[Value.int IntKind.u32 x_159] 37) w_163 fun (r_167:Nat) (w_168:World)=>held [fun (w_169:Go.World)=>World.cell? w_169 ({ block:=r_89,off:=2 })=some (Value.slice s_161.a s_161.len s_161.cap),fun (w_170:Go.World)=>World.cell? w_170 ({ block:=r_8,off:=1 })=some (Value.slice s_160.a s_160.len s_160.cap),fun (w_171:Go.World)=>World.cell? w_171 ({ block:=r_8,off:=3 })=some (Value.slice s_158.a s_158.len s_158.cap)] w_168<|cW 140 ([Value.slice s_158.a s_158.len s_158.cap,Value.int IntKind.i64 (IntKind.wrap IntKind.i64 (x_81+1)),Value.slice (some { block:=r_167,off:=0 }) 1 1]) ([Ty1.one Cell.slice]) w_168 fun (s_172:Sl) (w_173:World)=>held [fun (w_174:Go.World)=>World.cell? w_174 ({ block:=r_89,off:=2 })=some (Value.slice s_161.a s_161.len s_161.cap),fun (w_175:Go.World)=>World.cell? w_175 ({ block:=r_8,off:=1 })=some (Value.slice s_160.a s_160.len s_160.cap)] w_173<|qbL s_160 x_81 r_162 w_173 r_8 s_172 X_112))) (X_112 () w_111)) fun (x_180:PUnit) (w_181:World)=>ldA (qai) ({ block:=r_1,off:=0 }) w_181 fun (t_182:Int×Int×Int×Int×Option Addr×Int)=>ldA (qac) ({ block:=r_8,off:=0 }) w_181 fun (t_183:Bool×Sl×Sl×Sl)=>ld Cell.bool ({ block:=r_89,off:=1 }) w_181 fun (b_184:Bool)=>cW 139 ([Value.agg (List.toArray (HL.mk qai t_182)),Value.int IntKind.u32 at_,Value.agg (List.toArray (HL.mk qac t_183)),Value.bool b_184]) ([Ty1.agg qaV,Ty1.one (Cell.int IntKind.i64)]) w_181 fun (t_185:(Int×Bool×Sl×Int)×Int) (w_186:World)=>st ({ block:=r_3,off:=0 }) (HL.mk qaV t_185.fst) w_186 fun (w_187:World)=>ldA (qaV) ({ block:=r_3,off:=0 }) w_187 fun (t_188:Int×Bool×Sl×Int)=>K ((t_188,t_185.snd)) w_187))
def qbM (s_22:Sl) (t_15:Int×Bool) (r_30:Nat) (w_31:World) (r_8:Nat) (s_27:Sl) (X_17:PUnit->WP):Prop:=cW 138 ([Value.slice s_22.a s_22.len s_22.cap,Value.int IntKind.i64 t_15.fst,Value.slice (some { block:=r_30,off:=0 }) 1 1]) ([Ty1.one Cell.slice]) w_31 fun (s_34:Sl) (w_35:World)=>st ({ block:=r_8,off:=1 }) ([Value.slice s_27.a s_27.len s_27.cap]) w_35 fun (w_36:World)=>st ({ block:=r_8,off:=2 }) ([Value.slice s_34.a s_34.len s_34.cap]) w_36 fun (w_37:World)=>X_17 () w_37
def qfr (w_0:Int) (w_1:Int) (w_2:Int) (w_3:Int) (w_4:Option Addr) (w_5:Int) (at_:Int) (key:Sl) (value:Sl) (K:((Int×Bool×Sl×Int)×Int)->WP) (w:World):Prop:=new (Obj.cells #[.i w_0,.i w_1,.i w_2,.i w_3,.pointer w_4,.i w_5] 114) w fun b w_2=>new (Obj.cells #[.u 0,.bool false,.slice none 0 0,.u 0] 192) w_2 fun c w_4=>ldA (qai) ⟨b,0,none⟩ w_4 fun (d:Int×Int×Int×Int×Option Addr×Int)=>cW 82 ([.agg (List.toArray (HL.mk qai d)),.u at_]) ([.agg qac,.one .i]) w_4 fun (e:(Bool×Sl×Sl×Sl)×Int) f=>new (Obj.cells #[.bool false,.slice none 0 0,.slice none 0 0,.slice none 0 0] 143) f fun g h=>st ⟨g,0,none⟩ (HL.mk qac e.fst) h fun i=>cond (!e.snd==0) (st ⟨c,0,none⟩ ([.u 0,.bool false,.slice none 0 0,.u 0]) i fun j=>ldA (qaV) ⟨c,0,none⟩ j fun (k:Int×Bool×Sl×Int)=>K ((k,e.snd)) j) (ld .bool ⟨g,0,none⟩ i fun (l:Bool)=>cond l (ldA (qac) ⟨g,0,none⟩ i fun (m:Bool×Sl×Sl×Sl)=>cW 84 ([.agg (List.toArray (HL.mk qac m)),key.v]) ([.one .i,.one .bool]) i fun (n:Int×Bool) o=>join (PUnit) (fun p=>cond n.snd (ld .slice ⟨g,2,none⟩ o fun q=>idx q n.fst 1 fun r=>st r ([value.v]) o fun s=>p () s) ((ld .slice ⟨g,1,none⟩ o.drew fun t=>ld .slice ⟨g,2,none⟩ o.drew fun u=>new (Obj.cells #[key.v] 23) o.drew fun v x=>held [cEl ⟨g,2,none⟩ u.v,cEl ⟨g,1,none⟩ t.v] x<|cW 138 ([t.v,.i n.fst,.slice (pW v) 1 1]) ([.one .slice]) x fun A B=>held [cEl ⟨g,2,none⟩ u.v] B<|new (Obj.cells #[value.v] 23) B fun D E=>held [cEl ⟨g,2,none⟩ u.v,cEl ⟨g,1,none⟩ t.v] E<|qbM u n D E g A p)/\((ld .slice ⟨g,1,none⟩ o.drew fun H=>ld .slice ⟨g,2,none⟩ o.drew fun I=>new (Obj.cells #[key.v] 23) o.drew fun J L=>held [cEl ⟨g,2,none⟩ I.v,cEl ⟨g,1,none⟩ H.v] L<|new (Obj.cells #[value.v] 23) L fun O P=>held [cEl ⟨g,2,none⟩ I.v,cEl ⟨g,1,none⟩ H.v] P<|cW 138 ([H.v,.i n.fst,.slice (pW J) 1 1]) ([.one .slice]) P fun S T=>held [cEl ⟨g,2,none⟩ I.v] T<|qbM I n O T g S p)/\(ld .slice ⟨g,1,none⟩ o.drew fun V=>ld .slice ⟨g,2,none⟩ o.drew fun W=>new (Obj.cells #[value.v] 23) o.drew fun X Y=>held [cEl ⟨g,2,none⟩ W.v,cEl ⟨g,1,none⟩ V.v] Y<|new (Obj.cells #[key.v] 23) Y fun ab ac=>held [cEl ⟨g,2,none⟩ W.v,cEl ⟨g,1,none⟩ V.v] ac<|cW 138 ([V.v,.i n.fst,.slice (pW ab) 1 1]) ([.one .slice]) ac fun af ag=>held [cEl ⟨g,2,none⟩ W.v] ag<|qbM W n X ag g af p)))) fun (ai:PUnit) aj=>ldA (qai) ⟨b,0,none⟩ aj fun (ak:Int×Int×Int×Int×Option Addr×Int)=>ldA (qac) ⟨g,0,none⟩ aj fun (al:Bool×Sl×Sl×Sl)=>cW 139 ([.agg (List.toArray (HL.mk qai ak)),.u at_,.agg (List.toArray (HL.mk qac al)),.bool !n.snd]) ([.agg qaV,.one .i]) aj fun (am:(Int×Bool×Sl×Int)×Int) an=>st ⟨c,0,none⟩ (HL.mk qaV am.fst) an fun ao=>ldA (qaV) ⟨c,0,none⟩ ao fun (ap:Int×Bool×Sl×Int)=>K ((ap,am.snd)) ao) (ldA (qac) ⟨g,0,none⟩ i fun (aq:Bool×Sl×Sl×Sl)=>cW 83 ([.agg (List.toArray (HL.mk qac aq)),key.v]) ([.one .i]) i fun (ar:Int) au=>(ldA (qai) ⟨b,0,none⟩ au.drew fun (av:Int×Int×Int×Int×Option Addr×Int)=>ld .slice ⟨g,3,none⟩ au.drew fun aw=>idx aw ar 1 fun ax=>ld .u ax au.drew fun (ay:Int)=>cW 108 ([.agg (List.toArray (HL.mk qai av)),.u ay,key.v,value.v]) ([.agg qaV,.one .i]) au.drew fun (az:(Int×Bool×Sl×Int)×Int) aA=>new (Obj.cells #[.u 0,.bool false,.slice none 0 0,.u 0] 192) aA fun aB aC=>held [cEl ax (.u ay),cEl ⟨g,3,none⟩ aw.v,aEl ⟨b,0,none⟩ 0 (HL.mk qai av)] aC<|qcz at_ K aB az aC c g ar b)/\(ldA (qai) ⟨b,0,none⟩ au.drew fun (aG:Int×Int×Int×Int×Option Addr×Int)=>ld .slice ⟨g,3,none⟩ au.drew fun aH=>idx aH ar 1 fun aI=>ld .u aI au.drew fun (aJ:Int)=>new (Obj.cells #[.u 0,.bool false,.slice none 0 0,.u 0] 192) au.drew fun aL aM=>held [cEl aI (.u aJ),cEl ⟨g,3,none⟩ aH.v,aEl ⟨b,0,none⟩ 0 (HL.mk qai aG)] aM<|cW 108 ([.agg (List.toArray (HL.mk qai aG)),.u aJ,key.v,value.v]) ([.agg qaV,.one .i]) aM fun (aQ:(Int×Bool×Sl×Int)×Int) aR=>qcz at_ K aL aQ aR c g ar b)))
theorem qjM {w_0 w_1 w_2 w_3 w_4 w_5 at_ key value w K} (hF:qfr w_0 w_1 w_2 w_3 w_4 w_5 at_ key value K w):cW 108 [.agg #[.i w_0,.i w_1,.i w_2,.i w_3,.pointer w_4,.i w_5],.u at_,key.v,value.v] [.agg [.u,.bool,.slice,.u],.one .i] w K:=qad (an:=[.n,.n,.n,.n,.n,.n,.n,.n,.j [],.n,.o [[0,1,2,3,6,7,8,9,4,5,12,10,11,13,14,15],[0,1,2,3,6,7,8,9,4,10,5,12,11,13,14,15],[0,1,2,3,6,7,8,9,10,4,5,12,11,13,14,15]],.n,.n,.n,.o [[0,1,2,3,4,5,6,7,8,9,10,11,12,13,14],[0,1,2,3,4,5,6,7,12,8,9,10,11,13,14]],.n,.n,.n,.n,.j [(93,.one .bool)],.o [[0,1,2,3,4,5,6,7,8,9,10,11,12]],.n,.n,.j [],.n,.o [[0,1,2,3,4,5,8,9,10,11,12,6,7,15,13,14,16,17,18],[0,1,2,3,4,5,8,9,10,11,12,6,13,7,15,14,16,17,18],[0,1,2,3,4,5,8,9,10,11,12,13,6,7,15,14,16,17,18]],.n]) Tryz.func108 hF
def qeE (K:((Bool×Sl×Sl×Sl)×Int)->WP) (r_40:Nat) (t_38:(Bool×Sl×Sl×Sl)×Int) (w_41:World) (r_3:Nat) (r_1:Nat) (r_8:Nat) (x_32:Int):Prop:=st ({ block:=r_40,off:=0 }) (HL.mk qac t_38.fst) w_41 fun (w_45:World)=>cond (!t_38.snd==0) (st ({ block:=r_3,off:=0 }) ([Value.bool false,Value.slice none 0 0,Value.slice none 0 0,Value.slice none 0 0]) w_45 fun (w_46:World)=>ldA (qac) ({ block:=r_3,off:=0 }) w_46 fun (t_47:Bool×Sl×Sl×Sl)=>K ((t_47,t_38.snd)) w_46) (ldA (qca) ({ block:=r_1,off:=0 }) w_45 fun (t_48:Int×Int×Int×Int)=>ldA (qac) ({ block:=r_40,off:=0 }) w_45 fun (t_49:Bool×Sl×Sl×Sl)=>cW 142 ([Value.agg (List.toArray (HL.mk qca t_48)),Value.agg (List.toArray (HL.mk qac t_49))]) ([Ty1.one Cell.bool]) w_45 fun (b_50:Bool) (w_51:World)=>cond (!b_50) (ld Cell.slice ({ block:=r_8,off:=3 }) w_51.drew fun (s_52:Sl)=>ldA (qai) ({ block:=r_1,off:=0 }) w_51.drew fun (t_53:Int×Int×Int×Int×Option Addr×Int)=>ld Cell.slice ({ block:=r_8,off:=3 }) w_51.drew fun (s_54:Sl)=>idx s_54 x_32 1 fun (a_55:Addr)=>ld (Cell.int IntKind.u32) a_55 w_51.drew fun (x_56:Int)=>ldA (qac) ({ block:=r_40,off:=0 }) w_51.drew fun (t_57:Bool×Sl×Sl×Sl)=>cW 106 ([Value.agg (List.toArray (HL.mk qai t_53)),Value.int IntKind.u32 x_56,Value.agg (List.toArray (HL.mk qac t_57))]) ([Ty1.one (Cell.int IntKind.u32),Ty1.one (Cell.int IntKind.i64)]) w_51.drew fun (t_58:Int×Int) (w_59:World)=>held [fun (w_60:Go.World)=>World.cell? w_60 ({ block:=r_8,off:=3 })=some (Value.slice s_52.a s_52.len s_52.cap)] w_59<|idx s_52 x_32 1 fun (a_61:Addr)=>st a_61 ([Value.int IntKind.u32 t_58.fst]) w_59 fun (w_62:World)=>ldA (qac) ({ block:=r_8,off:=0 }) w_62 fun (t_63:Bool×Sl×Sl×Sl)=>st ({ block:=r_3,off:=0 }) (HL.mk qac t_63) w_62 fun (w_64:World)=>ldA (qac) ({ block:=r_3,off:=0 }) w_64 fun (t_65:Bool×Sl×Sl×Sl)=>K ((t_65,t_58.snd)) w_64) (cond (decide (x_32>0)) (ldA (qai) ({ block:=r_1,off:=0 }) w_51 fun (t_66:Int×Int×Int×Int×Option Addr×Int)=>ldA (qac) ({ block:=r_8,off:=0 }) w_51 fun (t_67:Bool×Sl×Sl×Sl)=>ldA (qac) ({ block:=r_40,off:=0 }) w_51 fun (t_68:Bool×Sl×Sl×Sl)=>cW 143 ([Value.agg (List.toArray (HL.mk qai t_66)),Value.agg (List.toArray (HL.mk qac t_67)),Value.int IntKind.i64 (IntKind.wrap IntKind.i64 (x_32-1)),Value.int IntKind.i64 x_32,Value.agg (List.toArray (HL.mk qac t_68))]) ([Ty1.agg qac,Ty1.one (Cell.int IntKind.i64)]) w_51 fun (t_69:(Bool×Sl×Sl×Sl)×Int) (w_70:World)=>st ({ block:=r_3,off:=0 }) (HL.mk qac t_69.fst) w_70 fun (w_71:World)=>ldA (qac) ({ block:=r_3,off:=0 }) w_71 fun (t_72:Bool×Sl×Sl×Sl)=>K ((t_72,t_69.snd)) w_71) (ldA (qai) ({ block:=r_1,off:=0 }) w_51 fun (t_73:Int×Int×Int×Int×Option Addr×Int)=>ldA (qac) ({ block:=r_8,off:=0 }) w_51 fun (t_74:Bool×Sl×Sl×Sl)=>ldA (qac) ({ block:=r_40,off:=0 }) w_51 fun (t_75:Bool×Sl×Sl×Sl)=>cW 143 ([Value.agg (List.toArray (HL.mk qai t_73)),Value.agg (List.toArray (HL.mk qac t_74)),Value.int IntKind.i64 (IntKind.wrap IntKind.i64 (x_32+1)),Value.int IntKind.i64 x_32,Value.agg (List.toArray (HL.mk qac t_75))]) ([Ty1.agg qac,Ty1.one (Cell.int IntKind.i64)]) w_51 fun (t_76:(Bool×Sl×Sl×Sl)×Int) (w_77:World)=>st ({ block:=r_3,off:=0 }) (HL.mk qac t_76.fst) w_77 fun (w_78:World)=>ldA (qac) ({ block:=r_3,off:=0 }) w_78 fun (t_79:Bool×Sl×Sl×Sl)=>K ((t_79,t_76.snd)) w_78)))
def qfp (w_0:Int) (w_1:Int) (w_2:Int) (w_3:Int) (w_4:Option Addr) (w_5:Int) (at_:Int) (key:Sl) (K:((Bool×Sl×Sl×Sl)×Int)->WP) (w:World):Prop:=new (Obj.cells #[.i w_0,.i w_1,.i w_2,.i w_3,.pointer w_4,.i w_5] 114) w fun b w_2=>new (Obj.cells #[.bool false,.slice none 0 0,.slice none 0 0,.slice none 0 0] 143) w_2 fun c w_4=>ldA (qai) ⟨b,0,none⟩ w_4 fun (d:Int×Int×Int×Int×Option Addr×Int)=>cW 82 ([.agg (List.toArray (HL.mk qai d)),.u at_]) ([.agg qac,.one .i]) w_4 fun (e:(Bool×Sl×Sl×Sl)×Int) f=>new (Obj.cells #[.bool false,.slice none 0 0,.slice none 0 0,.slice none 0 0] 143) f fun g h=>st ⟨g,0,none⟩ (HL.mk qac e.fst) h fun i=>cond (!e.snd==0) (st ⟨c,0,none⟩ ([.bool false,.slice none 0 0,.slice none 0 0,.slice none 0 0]) i fun j=>ldA (qac) ⟨c,0,none⟩ j fun (k:Bool×Sl×Sl×Sl)=>K ((k,e.snd)) j) (ld .bool ⟨g,0,none⟩ i fun (l:Bool)=>cond l (ldA (qac) ⟨g,0,none⟩ i fun (m:Bool×Sl×Sl×Sl)=>cW 84 ([.agg (List.toArray (HL.mk qac m)),key.v]) ([.one .i,.one .bool]) i fun (n:Int×Bool) o=>cond (!n.snd) (st ⟨c,0,none⟩ ([.bool false,.slice none 0 0,.slice none 0 0,.slice none 0 0]) o fun p=>ldA (qac) ⟨c,0,none⟩ p fun (q:Bool×Sl×Sl×Sl)=>K ((q,5)) p) (ld .slice ⟨g,1,none⟩ o.drew fun r=>ld .slice ⟨g,2,none⟩ o.drew fun s=>cW 141 ([r.v,.i n.fst,.i (IntKind.wrap .i64 (n.fst+1))]) ([.one .slice]) o.drew fun t u=>held [cEl ⟨g,2,none⟩ s.v] u<|cW 141 ([s.v,.i n.fst,.i (IntKind.wrap .i64 (n.fst+1))]) ([.one .slice]) u fun x y=>st ⟨g,1,none⟩ ([t.v]) y fun z=>st ⟨g,2,none⟩ ([x.v]) z fun A=>ldA (qac) ⟨g,0,none⟩ A fun (B:Bool×Sl×Sl×Sl)=>st ⟨c,0,none⟩ (HL.mk qac B) A fun C=>ldA (qac) ⟨c,0,none⟩ C fun (D:Bool×Sl×Sl×Sl)=>K ((D,0)) C)) (ldA (qac) ⟨g,0,none⟩ i fun (E:Bool×Sl×Sl×Sl)=>cW 83 ([.agg (List.toArray (HL.mk qac E)),key.v]) ([.one .i]) i fun (F:Int) G=>(ldA (qai) ⟨b,0,none⟩ G.drew fun (H:Int×Int×Int×Int×Option Addr×Int)=>ld .slice ⟨g,3,none⟩ G.drew fun I=>idx I F 1 fun J=>ld .u J G.drew fun (L:Int)=>cW 109 ([.agg (List.toArray (HL.mk qai H)),.u L,key.v]) ([.agg qac,.one .i]) G.drew fun (M:(Bool×Sl×Sl×Sl)×Int) N=>new (Obj.cells #[.bool false,.slice none 0 0,.slice none 0 0,.slice none 0 0] 143) N fun O P=>held [cEl J (.u L),cEl ⟨g,3,none⟩ I.v,aEl ⟨b,0,none⟩ 0 (HL.mk qai H)] P<|qeE K O M P c b g F)/\(ldA (qai) ⟨b,0,none⟩ G.drew fun (T:Int×Int×Int×Int×Option Addr×Int)=>ld .slice ⟨g,3,none⟩ G.drew fun U=>idx U F 1 fun V=>ld .u V G.drew fun (W:Int)=>new (Obj.cells #[.bool false,.slice none 0 0,.slice none 0 0,.slice none 0 0] 143) G.drew fun X Y=>held [cEl V (.u W),cEl ⟨g,3,none⟩ U.v,aEl ⟨b,0,none⟩ 0 (HL.mk qai T)] Y<|cW 109 ([.agg (List.toArray (HL.mk qai T)),.u W,key.v]) ([.agg qac,.one .i]) Y fun (ac:(Bool×Sl×Sl×Sl)×Int) ad=>qeE K X ac ad c b g F)))
theorem qjP {w_0 w_1 w_2 w_3 w_4 w_5 at_ key w K} (hF:qfp w_0 w_1 w_2 w_3 w_4 w_5 at_ key K w):cW 109 [.agg #[.i w_0,.i w_1,.i w_2,.i w_3,.pointer w_4,.i w_5],.u at_,key.v] [.agg [.bool,.slice,.slice,.slice],.one .i] w K:=qad (an:=[.n,.n,.n,.n,.n,.n,.n,.n,.n,.n,.n,.n,.o [[0,1,2,3,4,6,7,8,9,10,5,12,11,13,14,15]],.n,.n,.n,.o [[0,1,2,3,4,5,6,7,8,9,10,11,12,13],[0,1,2,3,4,5,6,11,7,8,9,10,12,13]],.n,.n,.n,.n,.n,.n,.o [[0,1,2,3,4,5,6,7,8,9,10,11,12,13,14,15,16]],.n,.n,.n,.n,.n]) Tryz.func109 hF
def qd7 (w_0:Int) (w_1:Int) (w_2:Int) (w_3:Int) (w_4:Option Addr) (w_5:Int) (at_:Int) (n0:Bool) (n1:Sl) (n2:Sl) (n3:Sl) (fresh:Bool) (K:((Int×Bool×Sl×Int)×Int)->WP) (w:World):Prop:=new (Obj.cells #[.i w_0,.i w_1,.i w_2,.i w_3,.pointer w_4,.i w_5] 114) w fun b w_2=>new (Obj.cells #[.bool n0,n1.v,n2.v,n3.v] 143) w_2 fun c w_4=>new (Obj.cells #[.u 0,.bool false,.slice none 0 0,.u 0] 192) w_4 fun d e=>new (Obj.cells #[.u 0,.bool false,.slice none 0 0,.u 0] 192) e fun f g=>st ⟨f,0,none⟩ ([.u 0,.bool fresh,.slice none 0 0,.u 0]) g fun h=>ldA (qca) ⟨b,0,none⟩ h fun (i:Int×Int×Int×Int)=>ldA (qac) ⟨c,0,none⟩ h fun (j:Bool×Sl×Sl×Sl)=>cW 174 ([.agg (List.toArray (HL.mk qca i)),.agg (List.toArray (HL.mk qac j))]) ([.one .i,.one .i]) h fun (k:Int×Int) l=>join (PUnit) (fun m=>cond (decide (k.fst>k.snd)) (ldA (qac) ⟨c,0,none⟩ l fun (n:Bool×Sl×Sl×Sl)=>cW 175 ([.agg (List.toArray (HL.mk qac n)),.i (IntKind.wrap .i64 (Int.tdiv k.fst 2))]) ([.agg qac,.agg qac,.one .slice]) l fun (o:(Bool×Sl×Sl×Sl)×(Bool×Sl×Sl×Sl)×Sl) p=>new (Obj.cells #[.bool false,.slice none 0 0,.slice none 0 0,.slice none 0 0] 143) p fun q r=>new (Obj.cells #[.bool false,.slice none 0 0,.slice none 0 0,.slice none 0 0] 143) r fun s t=>st ⟨q,0,none⟩ (HL.mk qac o.fst) t fun u=>st ⟨s,0,none⟩ (HL.mk qac o.snd.fst) u fun v=>ldA (qai) ⟨b,0,none⟩ v fun (x:Int×Int×Int×Int×Option Addr×Int)=>ldA (qac) ⟨s,0,none⟩ v fun (y:Bool×Sl×Sl×Sl)=>cW 106 ([.agg (List.toArray (HL.mk qai x)),.u 0,.agg (List.toArray (HL.mk qac y))]) ([.one .u,.one .i]) v fun (z:Int×Int) A=>cond (!z.snd==0) (st ⟨d,0,none⟩ ([.u 0,.bool false,.slice none 0 0,.u 0]) A fun B=>ldA (qaV) ⟨d,0,none⟩ B fun (C:Int×Bool×Sl×Int)=>K ((C,z.snd)) B) (ldA (qac) ⟨q,0,none⟩ A fun (D:Bool×Sl×Sl×Sl)=>st ⟨c,0,none⟩ (HL.mk qac D) A fun E=>st ⟨f,3,none⟩ ([.u z.fst]) E fun F=>st ⟨f,2,none⟩ ([o.snd.snd.v]) F fun G=>m () G)) (m () l)) fun (H:PUnit) I=>ldA (qai) ⟨b,0,none⟩ I fun (J:Int×Int×Int×Int×Option Addr×Int)=>ldA (qac) ⟨c,0,none⟩ I fun (L:Bool×Sl×Sl×Sl)=>cW 106 ([.agg (List.toArray (HL.mk qai J)),.u at_,.agg (List.toArray (HL.mk qac L))]) ([.one .u,.one .i]) I fun (M:Int×Int) N=>st ⟨f,0,none⟩ ([.u M.fst]) N fun O=>ldA (qaV) ⟨f,0,none⟩ O fun (P:Int×Bool×Sl×Int)=>st ⟨d,0,none⟩ (HL.mk qaV P) O fun Q=>ldA (qaV) ⟨d,0,none⟩ Q fun (R:Int×Bool×Sl×Int)=>K ((R,M.snd)) Q
theorem qhL {w_0 w_1 w_2 w_3 w_4 w_5 at_ n0 n1 n2 n3 fresh w K} (hF:qd7 w_0 w_1 w_2 w_3 w_4 w_5 at_ n0 n1 n2 n3 fresh K w):cW 139 [.agg #[.i w_0,.i w_1,.i w_2,.i w_3,.pointer w_4,.i w_5],.u at_,.agg #[.bool n0,n1.v,n2.v,n3.v],.bool fresh] [.agg [.u,.bool,.slice,.u],.one .i] w K:=qad (an:=[.n,.n,.n,.j [],.n,.n,.n,.n,.n,.n,.n,.n,.n]) Tryz.func139 hF
def qgG (mid:Int) (K:((Bool×Sl×Sl×Sl)×(Bool×Sl×Sl×Sl)×Sl)->WP) (r_1:Nat) (t_8:Bool×Sl×Sl×Sl) (t_7:Bool×Sl×Sl×Sl) (w_14:World) (r_9:Nat) (r_13:Nat) (r_3:Nat) (r_5:Nat):Prop:=held [fun (w_15:Go.World)=>Go.Pt.cellsAt w_15 ({ block:=r_1,off:=0 }) 0 (HL.mk qac t_8),fun (w_16:Go.World)=>Go.Pt.cellsAt w_16 ({ block:=r_1,off:=0 }) 0 (HL.mk qac t_7)] w_14<|st ({ block:=r_9,off:=0 }) (HL.mk qac t_7) w_14 fun (w_17:World)=>held [fun (w_18:Go.World)=>Go.Pt.cellsAt w_18 ({ block:=r_1,off:=0 }) 0 (HL.mk qac t_8)] w_17<|st ({ block:=r_13,off:=0 }) (HL.mk qac t_8) w_17 fun (w_19:World)=>ld Cell.bool ({ block:=r_1,off:=0 }) w_19 fun (b_20:Bool)=>cond b_20 (ld Cell.slice ({ block:=r_1,off:=1 }) w_19.drew fun (s_21:Sl)=>slc s_21 none (some mid) (some mid) 1 fun (s_22:Sl)=>ld Cell.slice ({ block:=r_1,off:=2 }) w_19.drew fun (s_23:Sl)=>slc s_23 none (some mid) (some mid) 1 fun (s_24:Sl)=>st ({ block:=r_9,off:=1 }) ([Value.slice s_22.a s_22.len s_22.cap]) w_19.drew fun (w_25:World)=>held [fun (w_26:Go.World)=>World.cell? w_26 ({ block:=r_1,off:=2 })=some (Value.slice s_23.a s_23.len s_23.cap)] w_25<|st ({ block:=r_9,off:=2 }) ([Value.slice s_24.a s_24.len s_24.cap]) w_25 fun (w_27:World)=>ld Cell.slice ({ block:=r_1,off:=1 }) w_27.drew fun (s_28:Sl)=>slc s_28 (some mid) none none 1 fun (s_29:Sl)=>ld Cell.slice ({ block:=r_1,off:=2 }) w_27.drew fun (s_30:Sl)=>slc s_30 (some mid) none none 1 fun (s_31:Sl)=>st ({ block:=r_13,off:=1 }) ([Value.slice s_29.a s_29.len s_29.cap]) w_27.drew fun (w_32:World)=>held [fun (w_33:Go.World)=>World.cell? w_33 ({ block:=r_1,off:=2 })=some (Value.slice s_30.a s_30.len s_30.cap)] w_32<|st ({ block:=r_13,off:=2 }) ([Value.slice s_31.a s_31.len s_31.cap]) w_32 fun (w_34:World)=>ldA (qac) ({ block:=r_9,off:=0 }) w_34.drew fun (t_35:Bool×Sl×Sl×Sl)=>ldA (qac) ({ block:=r_13,off:=0 }) w_34.drew fun (t_36:Bool×Sl×Sl×Sl)=>ld Cell.slice ({ block:=r_1,off:=1 }) w_34.drew fun (s_37:Sl)=>idx s_37 mid 1 fun (a_38:Addr)=>ld Cell.slice a_38 w_34.drew fun (s_39:Sl)=>st ({ block:=r_3,off:=0 }) (HL.mk qac t_35) w_34.drew fun (w_40:World)=>held [fun (w_41:Go.World)=>World.cell? w_41 a_38=some (Value.slice s_39.a s_39.len s_39.cap),fun (w_42:Go.World)=>World.cell? w_42 ({ block:=r_1,off:=1 })=some (Value.slice s_37.a s_37.len s_37.cap),fun (w_43:Go.World)=>Go.Pt.cellsAt w_43 ({ block:=r_13,off:=0 }) 0 (HL.mk qac t_36)] w_40<|st ({ block:=r_5,off:=0 }) (HL.mk qac t_36) w_40 fun (w_44:World)=>held [fun (w_45:Go.World)=>World.cell? w_45 a_38=some (Value.slice s_39.a s_39.len s_39.cap),fun (w_46:Go.World)=>World.cell? w_46 ({ block:=r_1,off:=1 })=some (Value.slice s_37.a s_37.len s_37.cap)] w_44<|ldA (qac) ({ block:=r_3,off:=0 }) w_44 fun (t_47:Bool×Sl×Sl×Sl)=>ldA (qac) ({ block:=r_5,off:=0 }) w_44 fun (t_48:Bool×Sl×Sl×Sl)=>K ((t_47,t_48,s_39)) w_44) (ld Cell.slice ({ block:=r_1,off:=3 }) w_19.drew fun (s_49:Sl)=>slc s_49 none (some mid) (some mid) 1 fun (s_50:Sl)=>ld Cell.slice ({ block:=r_1,off:=1 }) w_19.drew fun (s_51:Sl)=>slc s_51 none (some (IntKind.wrap IntKind.i64 (mid-1))) (some (IntKind.wrap IntKind.i64 (mid-1))) 1 fun (s_52:Sl)=>st ({ block:=r_9,off:=3 }) ([Value.slice s_50.a s_50.len s_50.cap]) w_19.drew fun (w_53:World)=>held [fun (w_54:Go.World)=>World.cell? w_54 ({ block:=r_1,off:=1 })=some (Value.slice s_51.a s_51.len s_51.cap)] w_53<|st ({ block:=r_9,off:=1 }) ([Value.slice s_52.a s_52.len s_52.cap]) w_53 fun (w_55:World)=>ld Cell.slice ({ block:=r_1,off:=3 }) w_55.drew fun (s_56:Sl)=>slc s_56 (some mid) none none 1 fun (s_57:Sl)=>ld Cell.slice ({ block:=r_1,off:=1 }) w_55.drew fun (s_58:Sl)=>slc s_58 (some mid) none none 1 fun (s_59:Sl)=>st ({ block:=r_13,off:=3 }) ([Value.slice s_57.a s_57.len s_57.cap]) w_55.drew fun (w_60:World)=>held [fun (w_61:Go.World)=>World.cell? w_61 ({ block:=r_1,off:=1 })=some (Value.slice s_58.a s_58.len s_58.cap)] w_60<|st ({ block:=r_13,off:=1 }) ([Value.slice s_59.a s_59.len s_59.cap]) w_60 fun (w_62:World)=>ldA (qac) ({ block:=r_9,off:=0 }) w_62.drew fun (t_63:Bool×Sl×Sl×Sl)=>ldA (qac) ({ block:=r_13,off:=0 }) w_62.drew fun (t_64:Bool×Sl×Sl×Sl)=>ld Cell.slice ({ block:=r_1,off:=1 }) w_62.drew fun (s_65:Sl)=>idx s_65 (IntKind.wrap IntKind.i64 (mid-1)) 1 fun (a_66:Addr)=>ld Cell.slice a_66 w_62.drew fun (s_67:Sl)=>st ({ block:=r_3,off:=0 }) (HL.mk qac t_63) w_62.drew fun (w_68:World)=>held [fun (w_69:Go.World)=>World.cell? w_69 a_66=some (Value.slice s_67.a s_67.len s_67.cap),fun (w_70:Go.World)=>World.cell? w_70 ({ block:=r_1,off:=1 })=some (Value.slice s_65.a s_65.len s_65.cap),fun (w_71:Go.World)=>Go.Pt.cellsAt w_71 ({ block:=r_13,off:=0 }) 0 (HL.mk qac t_64)] w_68<|st ({ block:=r_5,off:=0 }) (HL.mk qac t_64) w_68 fun (w_72:World)=>held [fun (w_73:Go.World)=>World.cell? w_73 a_66=some (Value.slice s_67.a s_67.len s_67.cap),fun (w_74:Go.World)=>World.cell? w_74 ({ block:=r_1,off:=1 })=some (Value.slice s_65.a s_65.len s_65.cap)] w_72<|ldA (qac) ({ block:=r_3,off:=0 }) w_72 fun (t_75:Bool×Sl×Sl×Sl)=>ldA (qac) ({ block:=r_5,off:=0 }) w_72 fun (t_76:Bool×Sl×Sl×Sl)=>K ((t_75,t_76,s_67)) w_72)
def qhc (n0:Bool) (n1:Sl) (n2:Sl) (n3:Sl) (mid:Int) (K:((Bool×Sl×Sl×Sl)×(Bool×Sl×Sl×Sl)×Sl)->WP) (w:World):Prop:=new (Obj.cells #[.bool n0,n1.v,n2.v,n3.v] 143) w fun b c=>new (Obj.cells #[.bool false,.slice none 0 0,.slice none 0 0,.slice none 0 0] 143) c fun d e=>new (Obj.cells #[.bool false,.slice none 0 0,.slice none 0 0,.slice none 0 0] 143) e fun f g=>(ldA (qac) ⟨b,0,none⟩ g.drew fun (h:Bool×Sl×Sl×Sl)=>ldA (qac) ⟨b,0,none⟩ g.drew fun (i:Bool×Sl×Sl×Sl)=>new (Obj.cells #[.bool false,.slice none 0 0,.slice none 0 0,.slice none 0 0] 143) g.drew fun j k=>held [aEl ⟨b,0,none⟩ 0 (HL.mk qac i),aEl ⟨b,0,none⟩ 0 (HL.mk qac h)] k<|new (Obj.cells #[.bool false,.slice none 0 0,.slice none 0 0,.slice none 0 0] 143) k fun n o=>qgG mid K b i h o j n d f)/\(ldA (qac) ⟨b,0,none⟩ g.drew fun (p:Bool×Sl×Sl×Sl)=>ldA (qac) ⟨b,0,none⟩ g.drew fun (q:Bool×Sl×Sl×Sl)=>new (Obj.cells #[.bool false,.slice none 0 0,.slice none 0 0,.slice none 0 0] 143) g.drew fun r s=>held [aEl ⟨b,0,none⟩ 0 (HL.mk qac q),aEl ⟨b,0,none⟩ 0 (HL.mk qac p)] s<|new (Obj.cells #[.bool false,.slice none 0 0,.slice none 0 0,.slice none 0 0] 143) s fun v x=>qgG mid K b q p x v r d f)
theorem qls {n0 n1 n2 n3 mid w K} (hF:qhc n0 n1 n2 n3 mid K w):cW 175 [.agg #[.bool n0,n1.v,n2.v,n3.v],.i mid] [.agg [.bool,.slice,.slice,.slice],.agg [.bool,.slice,.slice,.slice],.one .slice] w K:=qad (an:=[.n,.n,.o [[0,1,2,3,4,5],[0,1,3,2,4,5]],.n,.n,.n,.o [[0,1,2,3,4,5,6,7,8,9,10,11,12,13]],.n,.o [[0,1,2,3,4,5,6,7,8,9,10,11]],.n,.o [[0,1,2,3,4,5,6,7,8,9]],.n,.o [[0,1,2,3,4,5,6,7,8,9,10,11,12,13,14,15]],.n,.o [[0,1,2,3,4,5,6,7,8,9,10,11]],.n,.o [[0,1,2,3,4,5,6,7,8,9,10]]]) Tryz.func175 hF
def qb6 (side:Int) (c:Int) (K:((Bool×Sl×Sl×Sl)×Int)->WP) (r_15:Nat) (t_24:Bool×Sl×Sl×Sl) (r_5:Nat) (t_23:Bool×Sl×Sl×Sl) (w_30:World) (r_25:Nat) (r_29:Nat) (r_1:Nat) (r_3:Nat) (r_7:Nat):Prop:=held [fun (w_31:Go.World)=>Go.Pt.cellsAt w_31 ({ block:=r_15,off:=0 }) 0 (HL.mk qac t_24),fun (w_32:Go.World)=>Go.Pt.cellsAt w_32 ({ block:=r_5,off:=0 }) 0 (HL.mk qac t_23)] w_30<|st ({ block:=r_25,off:=0 }) (HL.mk qac t_23) w_30 fun (w_33:World)=>held [fun (w_34:Go.World)=>Go.Pt.cellsAt w_34 ({ block:=r_15,off:=0 }) 0 (HL.mk qac t_24)] w_33<|st ({ block:=r_29,off:=0 }) (HL.mk qac t_24) w_33 fun (w_35:World)=>join (PUnit) (fun (X_36:PUnit->WP)=>cond (decide (side<c)) (ldA (qac) ({ block:=r_15,off:=0 }) w_35.drew fun (t_37:Bool×Sl×Sl×Sl)=>ldA (qac) ({ block:=r_5,off:=0 }) w_35.drew fun (t_38:Bool×Sl×Sl×Sl)=>st ({ block:=r_25,off:=0 }) (HL.mk qac t_37) w_35.drew fun (w_39:World)=>held [fun (w_40:Go.World)=>Go.Pt.cellsAt w_40 ({ block:=r_5,off:=0 }) 0 (HL.mk qac t_38)] w_39<|st ({ block:=r_29,off:=0 }) (HL.mk qac t_38) w_39 fun (w_41:World)=>X_36 () w_41) (X_36 () w_35)) fun (x_42:PUnit) (w_43:World)=>ldA (qca) ({ block:=r_1,off:=0 }) w_43 fun (t_44:Int×Int×Int×Int)=>ldA (qac) ({ block:=r_15,off:=0 }) w_43 fun (t_45:Bool×Sl×Sl×Sl)=>cW 178 ([Value.agg (List.toArray (HL.mk qca t_44)),Value.agg (List.toArray (HL.mk qac t_45))]) ([Ty1.one Cell.bool]) w_43 fun (b_46:Bool) (w_47:World)=>cond (!b_46) (ldA (qai) ({ block:=r_1,off:=0 }) w_47 fun (t_48:Int×Int×Int×Int×Option Addr×Int)=>ldA (qac) ({ block:=r_3,off:=0 }) w_47 fun (t_49:Bool×Sl×Sl×Sl)=>ldA (qac) ({ block:=r_25,off:=0 }) w_47 fun (t_50:Bool×Sl×Sl×Sl)=>ldA (qac) ({ block:=r_29,off:=0 }) w_47 fun (t_51:Bool×Sl×Sl×Sl)=>cW 179 ([Value.agg (List.toArray (HL.mk qai t_48)),Value.agg (List.toArray (HL.mk qac t_49)),Value.int IntKind.i64 (if c<side then c else side),Value.agg (List.toArray (HL.mk qac t_50)),Value.agg (List.toArray (HL.mk qac t_51))]) ([Ty1.agg qac,Ty1.one (Cell.int IntKind.i64)]) w_47 fun (t_52:(Bool×Sl×Sl×Sl)×Int) (w_53:World)=>st ({ block:=r_7,off:=0 }) (HL.mk qac t_52.fst) w_53 fun (w_54:World)=>ldA (qac) ({ block:=r_7,off:=0 }) w_54 fun (t_55:Bool×Sl×Sl×Sl)=>K ((t_55,t_52.snd)) w_54) (join (PUnit) (fun (X_56:PUnit->WP)=>cond (decide (side<c)) (ld Cell.slice ({ block:=r_3,off:=1 }) w_47.drew fun (s_57:Sl)=>ldA (qac) ({ block:=r_25,off:=0 }) w_47.drew fun (t_58:Bool×Sl×Sl×Sl)=>ldA (qac) ({ block:=r_29,off:=0 }) w_47.drew fun (t_59:Bool×Sl×Sl×Sl)=>ld Cell.slice ({ block:=r_3,off:=1 }) w_47.drew fun (s_60:Sl)=>idx s_60 (if c<side then c else side) 1 fun (a_61:Addr)=>ld Cell.slice a_61 w_47.drew fun (s_62:Sl)=>cW 180 ([Value.agg (List.toArray (HL.mk qac t_58)),Value.agg (List.toArray (HL.mk qac t_59)),Value.slice s_62.a s_62.len s_62.cap]) ([Ty1.agg qac,Ty1.agg qac,Ty1.one Cell.slice]) w_47.drew fun (t_63:(Bool×Sl×Sl×Sl)×(Bool×Sl×Sl×Sl)×Sl) (w_64:World)=>held [fun (w_65:Go.World)=>World.cell? w_65 ({ block:=r_3,off:=1 })=some (Value.slice s_57.a s_57.len s_57.cap)] w_64<|st ({ block:=r_25,off:=0 }) (HL.mk qac t_63.fst) w_64 fun (w_66:World)=>held [fun (w_67:Go.World)=>World.cell? w_67 ({ block:=r_3,off:=1 })=some (Value.slice s_57.a s_57.len s_57.cap)] w_66<|st ({ block:=r_29,off:=0 }) (HL.mk qac t_63.snd.fst) w_66 fun (w_68:World)=>held [fun (w_69:Go.World)=>World.cell? w_69 ({ block:=r_3,off:=1 })=some (Value.slice s_57.a s_57.len s_57.cap)] w_68<|idx s_57 (if c<side then c else side) 1 fun (a_70:Addr)=>st a_70 ([Value.slice t_63.snd.snd.a t_63.snd.snd.len t_63.snd.snd.cap]) w_68 fun (w_71:World)=>X_56 () w_71) (ld Cell.slice ({ block:=r_3,off:=1 }) w_47.drew fun (s_72:Sl)=>ldA (qac) ({ block:=r_25,off:=0 }) w_47.drew fun (t_73:Bool×Sl×Sl×Sl)=>ldA (qac) ({ block:=r_29,off:=0 }) w_47.drew fun (t_74:Bool×Sl×Sl×Sl)=>ld Cell.slice ({ block:=r_3,off:=1 }) w_47.drew fun (s_75:Sl)=>idx s_75 (if c<side then c else side) 1 fun (a_76:Addr)=>ld Cell.slice a_76 w_47.drew fun (s_77:Sl)=>cW 181 ([Value.agg (List.toArray (HL.mk qac t_73)),Value.agg (List.toArray (HL.mk qac t_74)),Value.slice s_77.a s_77.len s_77.cap]) ([Ty1.agg qac,Ty1.agg qac,Ty1.one Cell.slice]) w_47.drew fun (t_78:(Bool×Sl×Sl×Sl)×(Bool×Sl×Sl×Sl)×Sl) (w_79:World)=>held [fun (w_80:Go.World)=>World.cell? w_80 ({ block:=r_3,off:=1 })=some (Value.slice s_72.a s_72.len s_72.cap)] w_79<|st ({ block:=r_25,off:=0 }) (HL.mk qac t_78.fst) w_79 fun (w_81:World)=>held [fun (w_82:Go.World)=>World.cell? w_82 ({ block:=r_3,off:=1 })=some (Value.slice s_72.a s_72.len s_72.cap)] w_81<|st ({ block:=r_29,off:=0 }) (HL.mk qac t_78.snd.fst) w_81 fun (w_83:World)=>held [fun (w_84:Go.World)=>World.cell? w_84 ({ block:=r_3,off:=1 })=some (Value.slice s_72.a s_72.len s_72.cap)] w_83<|idx s_72 (if c<side then c else side) 1 fun (a_85:Addr)=>st a_85 ([Value.slice t_78.snd.snd.a t_78.snd.snd.len t_78.snd.snd.cap]) w_83 fun (w_86:World)=>X_56 () w_86)) fun (x_87:PUnit) (w_88:World)=>ld Cell.slice ({ block:=r_3,off:=3 }) w_88.drew fun (s_89:Sl)=>ldA (qai) ({ block:=r_1,off:=0 }) w_88.drew fun (t_90:Int×Int×Int×Int×Option Addr×Int)=>ld Cell.slice ({ block:=r_3,off:=3 }) w_88.drew fun (s_91:Sl)=>idx s_91 (if c<side then c else side) 1 fun (a_92:Addr)=>ld (Cell.int IntKind.u32) a_92 w_88.drew fun (x_93:Int)=>ldA (qac) ({ block:=r_25,off:=0 }) w_88.drew fun (t_94:Bool×Sl×Sl×Sl)=>cW 106 ([Value.agg (List.toArray (HL.mk qai t_90)),Value.int IntKind.u32 x_93,Value.agg (List.toArray (HL.mk qac t_94))]) ([Ty1.one (Cell.int IntKind.u32),Ty1.one (Cell.int IntKind.i64)]) w_88.drew fun (t_95:Int×Int) (w_96:World)=>held [fun (w_97:Go.World)=>World.cell? w_97 ({ block:=r_3,off:=3 })=some (Value.slice s_89.a s_89.len s_89.cap)] w_96<|idx s_89 (if c<side then c else side) 1 fun (a_98:Addr)=>st a_98 ([Value.int IntKind.u32 t_95.fst]) w_96 fun (w_99:World)=>cond (!t_95.snd==0) (st ({ block:=r_7,off:=0 }) ([Value.bool false,Value.slice none 0 0,Value.slice none 0 0,Value.slice none 0 0]) w_99 fun (w_100:World)=>ldA (qac) ({ block:=r_7,off:=0 }) w_100 fun (t_101:Bool×Sl×Sl×Sl)=>K ((t_101,t_95.snd)) w_100) (ld Cell.slice ({ block:=r_3,off:=3 }) w_99.drew fun (s_102:Sl)=>ldA (qai) ({ block:=r_1,off:=0 }) w_99.drew fun (t_103:Int×Int×Int×Int×Option Addr×Int)=>ld Cell.slice ({ block:=r_3,off:=3 }) w_99.drew fun (s_104:Sl)=>idx s_104 (IntKind.wrap IntKind.i64 ((if c<side then c else side)+1)) 1 fun (a_105:Addr)=>ld (Cell.int IntKind.u32) a_105 w_99.drew fun (x_106:Int)=>ldA (qac) ({ block:=r_29,off:=0 }) w_99.drew fun (t_107:Bool×Sl×Sl×Sl)=>cW 106 ([Value.agg (List.toArray (HL.mk qai t_103)),Value.int IntKind.u32 x_106,Value.agg (List.toArray (HL.mk qac t_107))]) ([Ty1.one (Cell.int IntKind.u32),Ty1.one (Cell.int IntKind.i64)]) w_99.drew fun (t_108:Int×Int) (w_109:World)=>held [fun (w_110:Go.World)=>World.cell? w_110 ({ block:=r_3,off:=3 })=some (Value.slice s_102.a s_102.len s_102.cap)] w_109<|idx s_102 (IntKind.wrap IntKind.i64 ((if c<side then c else side)+1)) 1 fun (a_111:Addr)=>st a_111 ([Value.int IntKind.u32 t_108.fst]) w_109 fun (w_112:World)=>ldA (qac) ({ block:=r_3,off:=0 }) w_112 fun (t_113:Bool×Sl×Sl×Sl)=>st ({ block:=r_7,off:=0 }) (HL.mk qac t_113) w_112 fun (w_114:World)=>ldA (qac) ({ block:=r_7,off:=0 }) w_114 fun (t_115:Bool×Sl×Sl×Sl)=>K ((t_115,t_108.snd)) w_114))
def qb8 (side:Int) (c:Int) (K:((Bool×Sl×Sl×Sl)×Int)->WP) (r_15:Nat) (t_13:(Bool×Sl×Sl×Sl)×Int) (w_16:World) (r_7:Nat) (r_5:Nat) (r_1:Nat) (r_3:Nat):Prop:=st ({ block:=r_15,off:=0 }) (HL.mk qac t_13.fst) w_16 fun (w_20:World)=>cond (!t_13.snd==0) (st ({ block:=r_7,off:=0 }) ([Value.bool false,Value.slice none 0 0,Value.slice none 0 0,Value.slice none 0 0]) w_20 fun (w_21:World)=>ldA (qac) ({ block:=r_7,off:=0 }) w_21 fun (t_22:Bool×Sl×Sl×Sl)=>K ((t_22,t_13.snd)) w_21) ((ldA (qac) ({ block:=r_5,off:=0 }) w_20.drew fun (t_23:Bool×Sl×Sl×Sl)=>ldA (qac) ({ block:=r_15,off:=0 }) w_20.drew fun (t_24:Bool×Sl×Sl×Sl)=>new (Obj.cells #[Value.bool false,Value.slice none 0 0,Value.slice none 0 0,Value.slice none 0 0] 143) w_20.drew fun (r_25:Nat) (w_26:World)=>held [fun (w_27:Go.World)=>Go.Pt.cellsAt w_27 ({ block:=r_15,off:=0 }) 0 (HL.mk qac t_24),fun (w_28:Go.World)=>Go.Pt.cellsAt w_28 ({ block:=r_5,off:=0 }) 0 (HL.mk qac t_23)] w_26<|new (Obj.cells #[Value.bool false,Value.slice none 0 0,Value.slice none 0 0,Value.slice none 0 0] 143) w_26 fun (r_29:Nat) (w_30:World)=>qb6 side c K r_15 t_24 r_5 t_23 w_30 r_25 r_29 r_1 r_3 r_7)/\(ldA (qac) ({ block:=r_5,off:=0 }) w_20.drew fun (t_116:Bool×Sl×Sl×Sl)=>ldA (qac) ({ block:=r_15,off:=0 }) w_20.drew fun (t_117:Bool×Sl×Sl×Sl)=>new (Obj.cells #[Value.bool false,Value.slice none 0 0,Value.slice none 0 0,Value.slice none 0 0] 143) w_20.drew fun (r_118:Nat) (w_119:World)=>held [fun (w_120:Go.World)=>Go.Pt.cellsAt w_120 ({ block:=r_15,off:=0 }) 0 (HL.mk qac t_117),fun (w_121:Go.World)=>Go.Pt.cellsAt w_121 ({ block:=r_5,off:=0 }) 0 (HL.mk qac t_116)] w_119<|new (Obj.cells #[Value.bool false,Value.slice none 0 0,Value.slice none 0 0,Value.slice none 0 0] 143) w_119 fun (r_122:Nat) (w_123:World)=>qb6 side c K r_15 t_117 r_5 t_116 w_123 r_122 r_118 r_1 r_3 r_7))
def qeO (w_0:Int) (w_1:Int) (w_2:Int) (w_3:Int) (w_4:Option Addr) (w_5:Int) (n0:Bool) (n1:Sl) (n2:Sl) (n3:Sl) (side:Int) (c:Int) (x0:Bool) (x1:Sl) (x2:Sl) (x3:Sl) (K:((Bool×Sl×Sl×Sl)×Int)->WP) (w:World):Prop:=new (Obj.cells #[.i w_0,.i w_1,.i w_2,.i w_3,.pointer w_4,.i w_5] 114) w fun b w_2=>new (Obj.cells #[.bool n0,n1.v,n2.v,n3.v] 143) w_2 fun d w_4=>new (Obj.cells #[.bool x0,x1.v,x2.v,x3.v] 143) w_4 fun e f=>new (Obj.cells #[.bool false,.slice none 0 0,.slice none 0 0,.slice none 0 0] 143) f fun g h=>(ldA (qai) ⟨b,0,none⟩ h.drew fun (i:Int×Int×Int×Int×Option Addr×Int)=>ld .slice ⟨d,3,none⟩ h.drew fun j=>idx j side 1 fun k=>ld .u k h.drew fun (l:Int)=>cW 82 ([.agg (List.toArray (HL.mk qai i)),.u l]) ([.agg qac,.one .i]) h.drew fun (m:(Bool×Sl×Sl×Sl)×Int) n=>new (Obj.cells #[.bool false,.slice none 0 0,.slice none 0 0,.slice none 0 0] 143) n fun o p=>held [cEl k (.u l),cEl ⟨d,3,none⟩ j.v,aEl ⟨b,0,none⟩ 0 (HL.mk qai i)] p<|qb8 side c K o m p g e b d)/\(ldA (qai) ⟨b,0,none⟩ h.drew fun (t:Int×Int×Int×Int×Option Addr×Int)=>ld .slice ⟨d,3,none⟩ h.drew fun u=>idx u side 1 fun v=>ld .u v h.drew fun (x:Int)=>new (Obj.cells #[.bool false,.slice none 0 0,.slice none 0 0,.slice none 0 0] 143) h.drew fun y z=>held [cEl v (.u x),cEl ⟨d,3,none⟩ u.v,aEl ⟨b,0,none⟩ 0 (HL.mk qai t)] z<|cW 82 ([.agg (List.toArray (HL.mk qai t)),.u x]) ([.agg qac,.one .i]) z fun (D:(Bool×Sl×Sl×Sl)×Int) E=>qb8 side c K y D E g e b d)
theorem qiw {w_0 w_1 w_2 w_3 w_4 w_5 n0 n1 n2 n3 side c x0 x1 x2 x3 w K} (hF:qeO w_0 w_1 w_2 w_3 w_4 w_5 n0 n1 n2 n3 side c x0 x1 x2 x3 K w):cW 143 [.agg #[.i w_0,.i w_1,.i w_2,.i w_3,.pointer w_4,.i w_5],.agg #[.bool n0,n1.v,n2.v,n3.v],.i side,.i c,.agg #[.bool x0,x1.v,x2.v,x3.v]] [.agg [.bool,.slice,.slice,.slice],.one .i] w K:=qad (an:=[.n,.n,.o [[0,1,2,3,4,5,6,7,8,9,10,11,12],[0,1,2,3,4,5,10,6,7,8,9,11,12]],.n,.n,.n,.n,.n,.o [[0,1,2,3,4,5],[0,1,3,2,4,5]],.j [],.n,.o [[0,1,2,3]],.n,.n,.n,.j [],.n,.o [[0,1,2,3,4,5,6,7,8,9,10,11,12,13,14,15,16,17,18]],.o [[0,1,2,3,4,5,6,7,8,9,10,11,12,13,14,15,16,17,18]],.n,.n,.o [[0,1,2,3,4,5,6,7,8,9,10,11,12,13,14,15,16]],.n,.n,.n,.o [[0,1,2,3,4,5,6,7,8,9,10,11,12,13,14,15,16,17,18]],.n]) Tryz.func143 hF
def qer (w_0:Int) (w_1:Int) (w_2:Int) (w_3:Int) (w_4:Option Addr) (w_5:Int) (n0:Bool) (n1:Sl) (n2:Sl) (n3:Sl) (i:Int) (left0:Bool) (left1:Sl) (left2:Sl) (left3:Sl) (right0:Bool) (right1:Sl) (right2:Sl) (right3:Sl) (K:((Bool×Sl×Sl×Sl)×Int)->WP) (w:World):Prop:=new (Obj.cells #[.i w_0,.i w_1,.i w_2,.i w_3,.pointer w_4,.i w_5] 114) w fun b w_2=>new (Obj.cells #[.bool n0,n1.v,n2.v,n3.v] 143) w_2 fun c w_4=>new (Obj.cells #[.bool left0,left1.v,left2.v,left3.v] 143) w_4 fun d e=>new (Obj.cells #[.bool right0,right1.v,right2.v,right3.v] 143) e fun f g=>new (Obj.cells #[.bool false,.slice none 0 0,.slice none 0 0,.slice none 0 0] 143) g fun h j=>join (PUnit) (fun k=>ld .bool ⟨d,0,none⟩ j fun (l:Bool)=>cond (!l) (ld .slice ⟨d,1,none⟩ j.drew fun m=>ld .slice ⟨c,1,none⟩ j.drew fun n=>idx n i 1 fun o=>ld .slice o j.drew fun p=>new (Obj.cells #[p.v] 23) j.drew fun q r=>held [cEl ⟨d,1,none⟩ m.v] r<|run [.one .slice] ((Builtin.append_ (#[22,22]) 22 (#[m.v,.slice (pW q) 1 1])).run Tryz.prog r) fun t u=>st ⟨d,1,none⟩ ([t.v]) u fun v=>k () v) (k () j)) fun (x:PUnit) y=>ld .slice ⟨d,1,none⟩ y fun z=>ld .slice ⟨f,1,none⟩ y fun A=>run [.one .slice] ((Builtin.append_ (#[22,22]) 22 (#[z.v,A.v])).run Tryz.prog y) fun B C=>st ⟨d,1,none⟩ ([B.v]) C fun D=>ld .slice ⟨d,2,none⟩ D fun E=>ld .slice ⟨f,2,none⟩ D fun F=>run [.one .slice] ((Builtin.append_ (#[22,22]) 22 (#[E.v,F.v])).run Tryz.prog D) fun G H=>st ⟨d,2,none⟩ ([G.v]) H fun I=>ld .slice ⟨d,3,none⟩ I fun J=>ld .slice ⟨f,3,none⟩ I fun L=>run [.one .slice] ((Builtin.append_ (#[92,92]) 92 (#[J.v,L.v])).run Tryz.prog I) fun M N=>st ⟨d,3,none⟩ ([M.v]) N fun O=>ldA (qai) ⟨b,0,none⟩ O.drew fun (P:Int×Int×Int×Int×Option Addr×Int)=>ld .slice ⟨c,3,none⟩ O.drew fun Q=>idx Q i 1 fun R=>ld .u R O.drew fun (S:Int)=>ldA (qac) ⟨d,0,none⟩ O.drew fun (T:Bool×Sl×Sl×Sl)=>cW 106 ([.agg (List.toArray (HL.mk qai P)),.u S,.agg (List.toArray (HL.mk qac T))]) ([.one .u,.one .i]) O.drew fun (U:Int×Int) V=>join (Int) (fun W=>cond (U.snd==0) (ld .ptr ⟨b,4,none⟩ V.drew fun X=>ld .slice ⟨c,3,none⟩ V.drew fun Y=>idx Y (IntKind.wrap .i64 (i+1)) 1 fun Z=>ld .u Z V.drew fun (aa:Int)=>cW 110 ([.pointer X,.u aa]) ([.one .i]) V.drew fun (ab:Int) ac=>W ab ac) (W U.snd V)) fun (ad:Int) ae=>cond (!ad==0) (st ⟨h,0,none⟩ ([.bool false,.slice none 0 0,.slice none 0 0,.slice none 0 0]) ae fun af=>ldA (qac) ⟨h,0,none⟩ af fun (ag:Bool×Sl×Sl×Sl)=>K ((ag,ad)) af) (ld .slice ⟨c,3,none⟩ ae fun ah=>idx ah i 1 fun ai=>st ai ([.u U.fst]) ae fun aj=>ld .slice ⟨c,3,none⟩ aj.drew fun ak=>ld .slice ⟨c,1,none⟩ aj.drew fun al=>cW 214 ([ak.v,.i (IntKind.wrap .i64 (i+1)),.i (IntKind.wrap .i64 (i+2))]) ([.one .slice]) aj.drew fun am an=>held [cEl ⟨c,1,none⟩ al.v] an<|cW 141 ([al.v,.i i,.i (IntKind.wrap .i64 (i+1))]) ([.one .slice]) an fun ap aq=>st ⟨c,3,none⟩ ([am.v]) aq fun ar=>st ⟨c,1,none⟩ ([ap.v]) ar fun au=>ldA (qac) ⟨c,0,none⟩ au fun (av:Bool×Sl×Sl×Sl)=>st ⟨h,0,none⟩ (HL.mk qac av) au fun aw=>ldA (qac) ⟨h,0,none⟩ aw fun (ax:Bool×Sl×Sl×Sl)=>K ((ax,0)) aw)
theorem qit {w_0 w_1 w_2 w_3 w_4 w_5 n0 n1 n2 n3 i left0 left1 left2 left3 right0 right1 right2 right3 w K} (hF:qer w_0 w_1 w_2 w_3 w_4 w_5 n0 n1 n2 n3 i left0 left1 left2 left3 right0 right1 right2 right3 K w):cW 179 [.agg #[.i w_0,.i w_1,.i w_2,.i w_3,.pointer w_4,.i w_5],.agg #[.bool n0,n1.v,n2.v,n3.v],.i i,.agg #[.bool left0,left1.v,left2.v,left3.v],.agg #[.bool right0,right1.v,right2.v,right3.v]] [.agg [.bool,.slice,.slice,.slice],.one .i] w K:=qad (an:=[.n,.j [],.n,.o [[0,1,2,3,4,5,6,7,8,9,10]],.n,.n,.n,.n,.o [[0,1,2,3,4,5,6,7,8,9,10,11,12]],.j [(13,.one .i)],.n,.o [[0,1,2,3,4,5,6,7,8,9]],.n,.n,.n,.n,.n,.o [[0,1,2,3,4,5,7,8,9,10,11,6,13,12,14,15,16]],.n]) Tryz.func179 hF
def qc3 (K:((Bool×Sl×Sl×Sl)×(Bool×Sl×Sl×Sl)×Sl)->WP) (s_162:Sl) (r_177:Nat) (w_178:World) (r_3:Nat) (s_172:Sl) (r_1:Nat) (s_9:Sl) (r_5:Nat) (r_7:Nat) (s_160:Sl):Prop:=cW 140 ([Value.slice s_162.a s_162.len s_162.cap,Value.int IntKind.i64 0,Value.slice (some { block:=r_177,off:=0 }) 1 1]) ([Ty1.one Cell.slice]) w_178 fun (s_181:Sl) (w_182:World)=>st ({ block:=r_3,off:=1 }) ([Value.slice s_172.a s_172.len s_172.cap]) w_182 fun (w_183:World)=>st ({ block:=r_3,off:=3 }) ([Value.slice s_181.a s_181.len s_181.cap]) w_183 fun (w_184:World)=>ld Cell.slice ({ block:=r_1,off:=1 }) w_184.drew fun (s_185:Sl)=>slc s_185 none (some (IntKind.wrap IntKind.i64 ((↑s_9.len:Int)-1))) none 1 fun (s_186:Sl)=>ld Cell.slice ({ block:=r_1,off:=3 }) w_184.drew fun (s_187:Sl)=>slc s_187 none (some (IntKind.wrap IntKind.i64 (IntKind.wrap IntKind.i64 ((↑s_9.len:Int)-1)+1))) none 1 fun (s_188:Sl)=>st ({ block:=r_1,off:=1 }) ([Value.slice s_186.a s_186.len s_186.cap]) w_184.drew fun (w_189:World)=>st ({ block:=r_1,off:=3 }) ([Value.slice s_188.a s_188.len s_188.cap]) w_189 fun (w_190:World)=>ldA (qac) ({ block:=r_1,off:=0 }) w_190.drew fun (t_191:Bool×Sl×Sl×Sl)=>ldA (qac) ({ block:=r_3,off:=0 }) w_190.drew fun (t_192:Bool×Sl×Sl×Sl)=>st ({ block:=r_5,off:=0 }) (HL.mk qac t_191) w_190.drew fun (w_193:World)=>held [fun (w_194:Go.World)=>Go.Pt.cellsAt w_194 ({ block:=r_3,off:=0 }) 0 (HL.mk qac t_192)] w_193<|st ({ block:=r_7,off:=0 }) (HL.mk qac t_192) w_193 fun (w_195:World)=>ldA (qac) ({ block:=r_5,off:=0 }) w_195 fun (t_196:Bool×Sl×Sl×Sl)=>ldA (qac) ({ block:=r_7,off:=0 }) w_195 fun (t_197:Bool×Sl×Sl×Sl)=>K ((t_196,t_197,s_160)) w_195
def qc6 (K:((Bool×Sl×Sl×Sl)×(Bool×Sl×Sl×Sl)×Sl)->WP) (s_15:Sl) (r_30:Nat) (w_31:World) (r_3:Nat) (s_25:Sl) (r_1:Nat) (s_9:Sl) (r_5:Nat) (r_7:Nat):Prop:=cW 138 ([Value.slice s_15.a s_15.len s_15.cap,Value.int IntKind.i64 0,Value.slice (some { block:=r_30,off:=0 }) 1 1]) ([Ty1.one Cell.slice]) w_31 fun (s_36:Sl) (w_37:World)=>st ({ block:=r_3,off:=1 }) ([Value.slice s_25.a s_25.len s_25.cap]) w_37 fun (w_38:World)=>st ({ block:=r_3,off:=2 }) ([Value.slice s_36.a s_36.len s_36.cap]) w_38 fun (w_39:World)=>ld Cell.slice ({ block:=r_1,off:=1 }) w_39.drew fun (s_40:Sl)=>slc s_40 none (some (IntKind.wrap IntKind.i64 ((↑s_9.len:Int)-1))) none 1 fun (s_41:Sl)=>ld Cell.slice ({ block:=r_1,off:=2 }) w_39.drew fun (s_42:Sl)=>slc s_42 none (some (IntKind.wrap IntKind.i64 ((↑s_9.len:Int)-1))) none 1 fun (s_43:Sl)=>st ({ block:=r_1,off:=1 }) ([Value.slice s_41.a s_41.len s_41.cap]) w_39.drew fun (w_44:World)=>st ({ block:=r_1,off:=2 }) ([Value.slice s_43.a s_43.len s_43.cap]) w_44 fun (w_45:World)=>ldA (qac) ({ block:=r_1,off:=0 }) w_45.drew fun (t_46:Bool×Sl×Sl×Sl)=>ldA (qac) ({ block:=r_3,off:=0 }) w_45.drew fun (t_47:Bool×Sl×Sl×Sl)=>ld Cell.slice ({ block:=r_3,off:=1 }) w_45.drew fun (s_48:Sl)=>idx s_48 0 1 fun (a_49:Addr)=>ld Cell.slice a_49 w_45.drew fun (s_50:Sl)=>st ({ block:=r_5,off:=0 }) (HL.mk qac t_46) w_45.drew fun (w_51:World)=>held [fun (w_52:Go.World)=>World.cell? w_52 a_49=some (Value.slice s_50.a s_50.len s_50.cap),fun (w_53:Go.World)=>World.cell? w_53 ({ block:=r_3,off:=1 })=some (Value.slice s_48.a s_48.len s_48.cap),fun (w_54:Go.World)=>Go.Pt.cellsAt w_54 ({ block:=r_3,off:=0 }) 0 (HL.mk qac t_47)] w_51<|st ({ block:=r_7,off:=0 }) (HL.mk qac t_47) w_51 fun (w_55:World)=>held [fun (w_56:Go.World)=>World.cell? w_56 a_49=some (Value.slice s_50.a s_50.len s_50.cap),fun (w_57:Go.World)=>World.cell? w_57 ({ block:=r_3,off:=1 })=some (Value.slice s_48.a s_48.len s_48.cap)] w_55<|ldA (qac) ({ block:=r_5,off:=0 }) w_55 fun (t_58:Bool×Sl×Sl×Sl)=>ldA (qac) ({ block:=r_7,off:=0 }) w_55 fun (t_59:Bool×Sl×Sl×Sl)=>K ((t_58,t_59,s_50)) w_55
def qkF (left0:Bool) (left1:Sl) (left2:Sl) (left3:Sl) (right0:Bool) (right1:Sl) (right2:Sl) (right3:Sl) (key:Sl) (K:((Bool×Sl×Sl×Sl)×(Bool×Sl×Sl×Sl)×Sl)->WP) (w:World):Prop:=new (Obj.cells #[.bool left0,left1.v,left2.v,left3.v] 143) w fun b c=>new (Obj.cells #[.bool right0,right1.v,right2.v,right3.v] 143) c fun d e=>new (Obj.cells #[.bool false,.slice none 0 0,.slice none 0 0,.slice none 0 0] 143) e fun f g=>new (Obj.cells #[.bool false,.slice none 0 0,.slice none 0 0,.slice none 0 0] 143) g fun h i=>ld .slice ⟨b,1,none⟩ i fun j=>ld .bool ⟨b,0,none⟩ i fun (k:Bool)=>cond k ((ld .slice ⟨d,1,none⟩ i.drew fun l=>ld .slice ⟨b,1,none⟩ i.drew fun m=>idx m (IntKind.wrap .i64 ((↑j.len:Int)-1)) 1 fun n=>ld .slice n i.drew fun o=>ld .slice ⟨d,2,none⟩ i.drew fun p=>ld .slice ⟨b,2,none⟩ i.drew fun q=>idx q (IntKind.wrap .i64 ((↑j.len:Int)-1)) 1 fun r=>ld .slice r i.drew fun s=>new (Obj.cells #[o.v] 23) i.drew fun t u=>held [cEl r s.v,cEl ⟨b,2,none⟩ q.v,cEl ⟨d,2,none⟩ p.v,cEl ⟨d,1,none⟩ l.v] u<|cW 138 ([l.v,.i 0,.slice (pW t) 1 1]) ([.one .slice]) u fun A B=>held [cEl r s.v,cEl ⟨b,2,none⟩ q.v,cEl ⟨d,2,none⟩ p.v] B<|new (Obj.cells #[s.v] 23) B fun F G=>held [cEl ⟨d,2,none⟩ p.v,cEl n o.v,cEl ⟨b,1,none⟩ m.v,cEl ⟨d,1,none⟩ l.v] G<|qc6 K p F G d A b j f h)/\((ld .slice ⟨d,1,none⟩ i.drew fun M=>ld .slice ⟨b,1,none⟩ i.drew fun N=>idx N (IntKind.wrap .i64 ((↑j.len:Int)-1)) 1 fun O=>ld .slice O i.drew fun P=>ld .slice ⟨d,2,none⟩ i.drew fun Q=>ld .slice ⟨b,2,none⟩ i.drew fun R=>idx R (IntKind.wrap .i64 ((↑j.len:Int)-1)) 1 fun S=>ld .slice S i.drew fun T=>new (Obj.cells #[P.v] 23) i.drew fun U V=>held [cEl S T.v,cEl ⟨b,2,none⟩ R.v,cEl ⟨d,2,none⟩ Q.v,cEl ⟨d,1,none⟩ M.v] V<|new (Obj.cells #[T.v] 23) V fun aa ab=>held [cEl ⟨d,2,none⟩ Q.v,cEl O P.v,cEl ⟨b,1,none⟩ N.v,cEl ⟨d,1,none⟩ M.v] ab<|cW 138 ([M.v,.i 0,.slice (pW U) 1 1]) ([.one .slice]) ab fun ag ah=>held [cEl S T.v,cEl ⟨b,2,none⟩ R.v,cEl ⟨d,2,none⟩ Q.v] ah<|qc6 K Q aa ah d ag b j f h)/\(ld .slice ⟨d,1,none⟩ i.drew fun al=>ld .slice ⟨b,1,none⟩ i.drew fun am=>idx am (IntKind.wrap .i64 ((↑j.len:Int)-1)) 1 fun an=>ld .slice an i.drew fun ao=>ld .slice ⟨d,2,none⟩ i.drew fun ap=>ld .slice ⟨b,2,none⟩ i.drew fun aq=>idx aq (IntKind.wrap .i64 ((↑j.len:Int)-1)) 1 fun ar=>ld .slice ar i.drew fun au=>new (Obj.cells #[au.v] 23) i.drew fun av aw=>held [cEl ⟨d,2,none⟩ ap.v,cEl an ao.v,cEl ⟨b,1,none⟩ am.v,cEl ⟨d,1,none⟩ al.v] aw<|new (Obj.cells #[ao.v] 23) aw fun aB aC=>held [cEl ar au.v,cEl ⟨b,2,none⟩ aq.v,cEl ⟨d,2,none⟩ ap.v,cEl ⟨d,1,none⟩ al.v] aC<|cW 138 ([al.v,.i 0,.slice (pW aB) 1 1]) ([.one .slice]) aC fun aH aI=>held [cEl ar au.v,cEl ⟨b,2,none⟩ aq.v,cEl ⟨d,2,none⟩ ap.v] aI<|qc6 K ap av aI d aH b j f h))) (ld .slice ⟨b,1,none⟩ i fun aN=>idx aN (IntKind.wrap .i64 ((↑j.len:Int)-1)) 1 fun aO=>ld .slice aO i fun aP=>(ld .slice ⟨d,1,none⟩ i.drew fun aQ=>ld .slice ⟨d,3,none⟩ i.drew fun aR=>ld .slice ⟨b,3,none⟩ i.drew fun aS=>idx aS (IntKind.wrap .i64 (IntKind.wrap .i64 ((↑j.len:Int)-1)+1)) 1 fun aT=>ld .u aT i.drew fun (aU:Int)=>new (Obj.cells #[key.v] 23) i.drew fun aV aW=>held [cEl aT (.u aU),cEl ⟨b,3,none⟩ aS.v,cEl ⟨d,3,none⟩ aR.v,cEl ⟨d,1,none⟩ aQ.v] aW<|cW 138 ([aQ.v,.i 0,.slice (pW aV) 1 1]) ([.one .slice]) aW fun bb bc=>held [cEl aT (.u aU),cEl ⟨b,3,none⟩ aS.v,cEl ⟨d,3,none⟩ aR.v] bc<|new (Obj.cells #[.u aU] 37) bc fun bg bh=>held [cEl ⟨d,3,none⟩ aR.v,cEl ⟨d,1,none⟩ aQ.v] bh<|qc3 K aR bg bh d bb b j f h aP)/\((ld .slice ⟨d,1,none⟩ i.drew fun bk=>ld .slice ⟨d,3,none⟩ i.drew fun bl=>ld .slice ⟨b,3,none⟩ i.drew fun bm=>idx bm (IntKind.wrap .i64 (IntKind.wrap .i64 ((↑j.len:Int)-1)+1)) 1 fun bn=>ld .u bn i.drew fun (bo:Int)=>new (Obj.cells #[key.v] 23) i.drew fun bp bq=>held [cEl bn (.u bo),cEl ⟨b,3,none⟩ bm.v,cEl ⟨d,3,none⟩ bl.v,cEl ⟨d,1,none⟩ bk.v] bq<|new (Obj.cells #[.u bo] 37) bq fun bv bw=>held [cEl ⟨d,3,none⟩ bl.v,cEl ⟨d,1,none⟩ bk.v] bw<|cW 138 ([bk.v,.i 0,.slice (pW bp) 1 1]) ([.one .slice]) bw fun bA bB=>held [cEl bn (.u bo),cEl ⟨b,3,none⟩ bm.v,cEl ⟨d,3,none⟩ bl.v] bB<|qc3 K bl bv bB d bA b j f h aP)/\(ld .slice ⟨d,1,none⟩ i.drew fun bF=>ld .slice ⟨d,3,none⟩ i.drew fun bG=>ld .slice ⟨b,3,none⟩ i.drew fun bH=>idx bH (IntKind.wrap .i64 (IntKind.wrap .i64 ((↑j.len:Int)-1)+1)) 1 fun bI=>ld .u bI i.drew fun (bJ:Int)=>new (Obj.cells #[.u bJ] 37) i.drew fun bL bM=>held [cEl ⟨d,3,none⟩ bG.v,cEl ⟨d,1,none⟩ bF.v] bM<|new (Obj.cells #[key.v] 23) bM fun bP bQ=>held [cEl bI (.u bJ),cEl ⟨b,3,none⟩ bH.v,cEl ⟨d,3,none⟩ bG.v,cEl ⟨d,1,none⟩ bF.v] bQ<|cW 138 ([bF.v,.i 0,.slice (pW bP) 1 1]) ([.one .slice]) bQ fun bV bW=>held [cEl bI (.u bJ),cEl ⟨b,3,none⟩ bH.v,cEl ⟨d,3,none⟩ bG.v] bW<|qc3 K bG bL bW d bV b j f h aP)))
theorem qn4 {left0 left1 left2 left3 right0 right1 right2 right3 key w K} (hF:qkF left0 left1 left2 left3 right0 right1 right2 right3 key K w):cW 180 [.agg #[.bool left0,left1.v,left2.v,left3.v],.agg #[.bool right0,right1.v,right2.v,right3.v],key.v] [.agg [.bool,.slice,.slice,.slice],.agg [.bool,.slice,.slice,.slice],.one .slice] w K:=qad (an:=[.n,.n,.n,.n,.n,.o [[0,1,2,3,4,5,6,9,10,11,12,13,14,15,7,8,18,16,17,19,20,21],[0,1,2,3,4,5,6,9,10,11,12,13,14,15,7,16,8,18,17,19,20,21],[0,1,2,3,4,5,6,9,10,11,12,13,14,15,16,7,8,18,17,19,20,21]],.n,.o [[0,1,2,3,4,5,6,7,8,9,10,11]],.n,.o [[0,1,2,3,4,5,6,7,8]],.n,.n,.o [[0,1,2,5,6,7,8,9,10,11,12,3,4,15,13,14,16,17,18],[0,1,2,5,6,7,8,9,10,11,12,3,13,4,15,14,16,17,18],[0,1,2,5,6,7,8,9,10,11,12,13,3,4,15,14,16,17,18]],.n,.o [[0,1,2,3,4,5,6,7,8,9,10,11,12]],.n,.o [[0,1,2,3,4,5]]]) Tryz.func180 hF
def qda (K:((Bool×Sl×Sl×Sl)×(Bool×Sl×Sl×Sl)×Sl)->WP) (s_161:Sl) (r_176:Nat) (w_177:World) (r_1:Nat) (s_171:Sl) (r_3:Nat) (r_5:Nat) (r_7:Nat) (s_159:Sl):Prop:=run [Ty1.one Cell.slice] ((Builtin.append_ (#[92,92]) 92 (#[Value.slice s_161.a s_161.len s_161.cap,Value.slice (some { block:=r_176,off:=0 }) 1 1])).run Tryz.prog w_177) fun (s_180:Sl) (w_181:World)=>st ({ block:=r_1,off:=1 }) ([Value.slice s_171.a s_171.len s_171.cap]) w_181 fun (w_182:World)=>st ({ block:=r_1,off:=3 }) ([Value.slice s_180.a s_180.len s_180.cap]) w_182 fun (w_183:World)=>ld Cell.slice ({ block:=r_3,off:=1 }) w_183.drew fun (s_184:Sl)=>slc s_184 (some 1) none none 1 fun (s_185:Sl)=>ld Cell.slice ({ block:=r_3,off:=3 }) w_183.drew fun (s_186:Sl)=>slc s_186 (some 1) none none 1 fun (s_187:Sl)=>st ({ block:=r_3,off:=1 }) ([Value.slice s_185.a s_185.len s_185.cap]) w_183.drew fun (w_188:World)=>st ({ block:=r_3,off:=3 }) ([Value.slice s_187.a s_187.len s_187.cap]) w_188 fun (w_189:World)=>ldA (qac) ({ block:=r_1,off:=0 }) w_189.drew fun (t_190:Bool×Sl×Sl×Sl)=>ldA (qac) ({ block:=r_3,off:=0 }) w_189.drew fun (t_191:Bool×Sl×Sl×Sl)=>st ({ block:=r_5,off:=0 }) (HL.mk qac t_190) w_189.drew fun (w_192:World)=>held [fun (w_193:Go.World)=>Go.Pt.cellsAt w_193 ({ block:=r_3,off:=0 }) 0 (HL.mk qac t_191)] w_192<|st ({ block:=r_7,off:=0 }) (HL.mk qac t_191) w_192 fun (w_194:World)=>ldA (qac) ({ block:=r_5,off:=0 }) w_194 fun (t_195:Bool×Sl×Sl×Sl)=>ldA (qac) ({ block:=r_7,off:=0 }) w_194 fun (t_196:Bool×Sl×Sl×Sl)=>K ((t_195,t_196,s_159)) w_194
def qc8 (K:((Bool×Sl×Sl×Sl)×(Bool×Sl×Sl×Sl)×Sl)->WP) (s_14:Sl) (r_29:Nat) (w_30:World) (r_1:Nat) (s_24:Sl) (r_3:Nat) (r_5:Nat) (r_7:Nat):Prop:=run [Ty1.one Cell.slice] ((Builtin.append_ (#[22,22]) 22 (#[Value.slice s_14.a s_14.len s_14.cap,Value.slice (some { block:=r_29,off:=0 }) 1 1])).run Tryz.prog w_30) fun (s_35:Sl) (w_36:World)=>st ({ block:=r_1,off:=1 }) ([Value.slice s_24.a s_24.len s_24.cap]) w_36 fun (w_37:World)=>st ({ block:=r_1,off:=2 }) ([Value.slice s_35.a s_35.len s_35.cap]) w_37 fun (w_38:World)=>ld Cell.slice ({ block:=r_3,off:=1 }) w_38.drew fun (s_39:Sl)=>slc s_39 (some 1) none none 1 fun (s_40:Sl)=>ld Cell.slice ({ block:=r_3,off:=2 }) w_38.drew fun (s_41:Sl)=>slc s_41 (some 1) none none 1 fun (s_42:Sl)=>st ({ block:=r_3,off:=1 }) ([Value.slice s_40.a s_40.len s_40.cap]) w_38.drew fun (w_43:World)=>st ({ block:=r_3,off:=2 }) ([Value.slice s_42.a s_42.len s_42.cap]) w_43 fun (w_44:World)=>ldA (qac) ({ block:=r_1,off:=0 }) w_44.drew fun (t_45:Bool×Sl×Sl×Sl)=>ldA (qac) ({ block:=r_3,off:=0 }) w_44.drew fun (t_46:Bool×Sl×Sl×Sl)=>ld Cell.slice ({ block:=r_3,off:=1 }) w_44.drew fun (s_47:Sl)=>idx s_47 0 1 fun (a_48:Addr)=>ld Cell.slice a_48 w_44.drew fun (s_49:Sl)=>st ({ block:=r_5,off:=0 }) (HL.mk qac t_45) w_44.drew fun (w_50:World)=>held [fun (w_51:Go.World)=>World.cell? w_51 a_48=some (Value.slice s_49.a s_49.len s_49.cap),fun (w_52:Go.World)=>World.cell? w_52 ({ block:=r_3,off:=1 })=some (Value.slice s_47.a s_47.len s_47.cap),fun (w_53:Go.World)=>Go.Pt.cellsAt w_53 ({ block:=r_3,off:=0 }) 0 (HL.mk qac t_46)] w_50<|st ({ block:=r_7,off:=0 }) (HL.mk qac t_46) w_50 fun (w_54:World)=>held [fun (w_55:Go.World)=>World.cell? w_55 a_48=some (Value.slice s_49.a s_49.len s_49.cap),fun (w_56:Go.World)=>World.cell? w_56 ({ block:=r_3,off:=1 })=some (Value.slice s_47.a s_47.len s_47.cap)] w_54<|ldA (qac) ({ block:=r_5,off:=0 }) w_54 fun (t_57:Bool×Sl×Sl×Sl)=>ldA (qac) ({ block:=r_7,off:=0 }) w_54 fun (t_58:Bool×Sl×Sl×Sl)=>K ((t_57,t_58,s_49)) w_54
def qkB (left0:Bool) (left1:Sl) (left2:Sl) (left3:Sl) (right0:Bool) (right1:Sl) (right2:Sl) (right3:Sl) (key:Sl) (K:((Bool×Sl×Sl×Sl)×(Bool×Sl×Sl×Sl)×Sl)->WP) (w:World):Prop:=new (Obj.cells #[.bool left0,left1.v,left2.v,left3.v] 143) w fun b c=>new (Obj.cells #[.bool right0,right1.v,right2.v,right3.v] 143) c fun d e=>new (Obj.cells #[.bool false,.slice none 0 0,.slice none 0 0,.slice none 0 0] 143) e fun f g=>new (Obj.cells #[.bool false,.slice none 0 0,.slice none 0 0,.slice none 0 0] 143) g fun h i=>ld .bool ⟨b,0,none⟩ i fun (j:Bool)=>cond j ((ld .slice ⟨b,1,none⟩ i.drew fun k=>ld .slice ⟨d,1,none⟩ i.drew fun l=>idx l 0 1 fun m=>ld .slice m i.drew fun n=>ld .slice ⟨b,2,none⟩ i.drew fun o=>ld .slice ⟨d,2,none⟩ i.drew fun p=>idx p 0 1 fun q=>ld .slice q i.drew fun r=>new (Obj.cells #[n.v] 23) i.drew fun s t=>held [cEl q r.v,cEl ⟨d,2,none⟩ p.v,cEl ⟨b,2,none⟩ o.v,cEl ⟨b,1,none⟩ k.v] t<|run [.one .slice] ((Builtin.append_ (#[22,22]) 22 (#[k.v,.slice (pW s) 1 1])).run Tryz.prog t) fun z A=>held [cEl q r.v,cEl ⟨d,2,none⟩ p.v,cEl ⟨b,2,none⟩ o.v] A<|new (Obj.cells #[r.v] 23) A fun E F=>held [cEl ⟨b,2,none⟩ o.v,cEl m n.v,cEl ⟨d,1,none⟩ l.v,cEl ⟨b,1,none⟩ k.v] F<|qc8 K o E F b z d f h)/\((ld .slice ⟨b,1,none⟩ i.drew fun L=>ld .slice ⟨d,1,none⟩ i.drew fun M=>idx M 0 1 fun N=>ld .slice N i.drew fun O=>ld .slice ⟨b,2,none⟩ i.drew fun P=>ld .slice ⟨d,2,none⟩ i.drew fun Q=>idx Q 0 1 fun R=>ld .slice R i.drew fun S=>new (Obj.cells #[O.v] 23) i.drew fun T U=>held [cEl R S.v,cEl ⟨d,2,none⟩ Q.v,cEl ⟨b,2,none⟩ P.v,cEl ⟨b,1,none⟩ L.v] U<|new (Obj.cells #[S.v] 23) U fun Z aa=>held [cEl ⟨b,2,none⟩ P.v,cEl N O.v,cEl ⟨d,1,none⟩ M.v,cEl ⟨b,1,none⟩ L.v] aa<|run [.one .slice] ((Builtin.append_ (#[22,22]) 22 (#[L.v,.slice (pW T) 1 1])).run Tryz.prog aa) fun af ag=>held [cEl R S.v,cEl ⟨d,2,none⟩ Q.v,cEl ⟨b,2,none⟩ P.v] ag<|qc8 K P Z ag b af d f h)/\(ld .slice ⟨b,1,none⟩ i.drew fun ak=>ld .slice ⟨d,1,none⟩ i.drew fun al=>idx al 0 1 fun am=>ld .slice am i.drew fun an=>ld .slice ⟨b,2,none⟩ i.drew fun ao=>ld .slice ⟨d,2,none⟩ i.drew fun ap=>idx ap 0 1 fun aq=>ld .slice aq i.drew fun ar=>new (Obj.cells #[ar.v] 23) i.drew fun au av=>held [cEl ⟨b,2,none⟩ ao.v,cEl am an.v,cEl ⟨d,1,none⟩ al.v,cEl ⟨b,1,none⟩ ak.v] av<|new (Obj.cells #[an.v] 23) av fun aA aB=>held [cEl aq ar.v,cEl ⟨d,2,none⟩ ap.v,cEl ⟨b,2,none⟩ ao.v,cEl ⟨b,1,none⟩ ak.v] aB<|run [.one .slice] ((Builtin.append_ (#[22,22]) 22 (#[ak.v,.slice (pW aA) 1 1])).run Tryz.prog aB) fun aG aH=>held [cEl aq ar.v,cEl ⟨d,2,none⟩ ap.v,cEl ⟨b,2,none⟩ ao.v] aH<|qc8 K ao au aH b aG d f h))) (ld .slice ⟨d,1,none⟩ i fun aM=>idx aM 0 1 fun aN=>ld .slice aN i fun aO=>(ld .slice ⟨b,1,none⟩ i.drew fun aP=>ld .slice ⟨b,3,none⟩ i.drew fun aQ=>ld .slice ⟨d,3,none⟩ i.drew fun aR=>idx aR 0 1 fun aS=>ld .u aS i.drew fun (aT:Int)=>new (Obj.cells #[key.v] 23) i.drew fun aU aV=>held [cEl aS (.u aT),cEl ⟨d,3,none⟩ aR.v,cEl ⟨b,3,none⟩ aQ.v,cEl ⟨b,1,none⟩ aP.v] aV<|run [.one .slice] ((Builtin.append_ (#[22,22]) 22 (#[aP.v,.slice (pW aU) 1 1])).run Tryz.prog aV) fun ba bb=>held [cEl aS (.u aT),cEl ⟨d,3,none⟩ aR.v,cEl ⟨b,3,none⟩ aQ.v] bb<|new (Obj.cells #[.u aT] 37) bb fun bf bg=>held [cEl ⟨b,3,none⟩ aQ.v,cEl ⟨b,1,none⟩ aP.v] bg<|qda K aQ bf bg b ba d f h aO)/\((ld .slice ⟨b,1,none⟩ i.drew fun bj=>ld .slice ⟨b,3,none⟩ i.drew fun bk=>ld .slice ⟨d,3,none⟩ i.drew fun bl=>idx bl 0 1 fun bm=>ld .u bm i.drew fun (bn:Int)=>new (Obj.cells #[key.v] 23) i.drew fun bo bp=>held [cEl bm (.u bn),cEl ⟨d,3,none⟩ bl.v,cEl ⟨b,3,none⟩ bk.v,cEl ⟨b,1,none⟩ bj.v] bp<|new (Obj.cells #[.u bn] 37) bp fun bu bv=>held [cEl ⟨b,3,none⟩ bk.v,cEl ⟨b,1,none⟩ bj.v] bv<|run [.one .slice] ((Builtin.append_ (#[22,22]) 22 (#[bj.v,.slice (pW bo) 1 1])).run Tryz.prog bv) fun bz bA=>held [cEl bm (.u bn),cEl ⟨d,3,none⟩ bl.v,cEl ⟨b,3,none⟩ bk.v] bA<|qda K bk bu bA b bz d f h aO)/\(ld .slice ⟨b,1,none⟩ i.drew fun bE=>ld .slice ⟨b,3,none⟩ i.drew fun bF=>ld .slice ⟨d,3,none⟩ i.drew fun bG=>idx bG 0 1 fun bH=>ld .u bH i.drew fun (bI:Int)=>new (Obj.cells #[.u bI] 37) i.drew fun bJ bL=>held [cEl ⟨b,3,none⟩ bF.v,cEl ⟨b,1,none⟩ bE.v] bL<|new (Obj.cells #[key.v] 23) bL fun bO bP=>held [cEl bH (.u bI),cEl ⟨d,3,none⟩ bG.v,cEl ⟨b,3,none⟩ bF.v,cEl ⟨b,1,none⟩ bE.v] bP<|run [.one .slice] ((Builtin.append_ (#[22,22]) 22 (#[bE.v,.slice (pW bO) 1 1])).run Tryz.prog bP) fun bU bV=>held [cEl bH (.u bI),cEl ⟨d,3,none⟩ bG.v,cEl ⟨b,3,none⟩ bF.v] bV<|qda K bF bJ bV b bU d f h aO)))
theorem qmV {left0 left1 left2 left3 right0 right1 right2 right3 key w K} (hF:qkB left0 left1 left2 left3 right0 right1 right2 right3 key K w):cW 181 [.agg #[.bool left0,left1.v,left2.v,left3.v],.agg #[.bool right0,right1.v,right2.v,right3.v],key.v] [.agg [.bool,.slice,.slice,.slice],.agg [.bool,.slice,.slice,.slice],.one .slice] w K:=qad (an:=[.n,.n,.n,.n,.o [[0,1,2,3,4,5,8,9,10,11,12,13,6,7,16,14,15,17,18,19],[0,1,2,3,4,5,8,9,10,11,12,13,6,14,7,16,15,17,18,19],[0,1,2,3,4,5,8,9,10,11,12,13,14,6,7,16,15,17,18,19]],.n,.o [[0,1,2,3,4,5,6,7,8,9]],.n,.o [[0,1,2,3,4,5,6,7,8]],.n,.n,.o [[0,1,2,5,6,7,8,9,10,3,4,13,11,12,14,15,16],[0,1,2,5,6,7,8,9,10,3,11,4,13,12,14,15,16],[0,1,2,5,6,7,8,9,10,11,3,4,13,12,14,15,16]],.n,.o [[0,1,2,3,4,5,6,7,8,9]],.n,.o [[0,1,2,3,4,5]]]) Tryz.func181 hF
def qmg (p:Option Addr) (t:Int) (key:Sl) (K:(Sl×Int)->WP) (w:World):Prop:=cW 59 ([.pointer p,.i t,key.v]) ([.agg qai,.one .i]) w fun (b:(Int×Int×Int×Int×Option Addr×Int)×Int) c=>new (Obj.cells #[.i 0,.i 0,.i 0,.i 0,.pointer none,.i 0] 114) c fun d e=>st ⟨d,0,none⟩ (HL.mk qai b.fst) e fun f=>cond (!b.snd==0) (K (({ a:=none,len:=0,cap:=0 },b.snd)) f) (cW 19 ([.pointer p,.i t]) ([.agg qdt]) f fun (g:Int×Int×Int) h=>join (PUnit) (fun i=>loop (Int) (fun j (k:Int) l=>cond (!k==0) (ldA (qai) ⟨d,0,none⟩ l fun (m:Int×Int×Int×Int×Option Addr×Int)=>cW 82 ([.agg (List.toArray (HL.mk qai m)),.u k]) ([.agg qac,.one .i]) l fun (n:(Bool×Sl×Sl×Sl)×Int) o=>new (Obj.cells #[.bool false,.slice none 0 0,.slice none 0 0,.slice none 0 0] 143) o fun q r=>st ⟨q,0,none⟩ (HL.mk qac n.fst) r fun s=>cond (!n.snd==0) (K (({ a:=none,len:=0,cap:=0 },n.snd)) s) (ld .bool ⟨q,0,none⟩ s fun (u:Bool)=>cond (!u) (ld .slice ⟨q,3,none⟩ s.drew fun v=>ldA (qac) ⟨q,0,none⟩ s.drew fun (x:Bool×Sl×Sl×Sl)=>cW 83 ([.agg (List.toArray (HL.mk qac x)),key.v]) ([.one .i]) s.drew fun (y:Int) z=>held [cEl ⟨q,3,none⟩ v.v] z<|idx v y 1 fun B=>ld .u B z fun (C:Int)=>j C z) (ldA (qac) ⟨q,0,none⟩ s fun (D:Bool×Sl×Sl×Sl)=>cW 84 ([.agg (List.toArray (HL.mk qac D)),key.v]) ([.one .i,.one .bool]) s fun (E:Int×Bool) F=>cond E.snd (ld .slice ⟨q,2,none⟩ F fun G=>idx G E.fst 1 fun H=>ld .slice H F fun I=>cW 68 ([I.v]) ([.one .slice]) F fun J L=>K ((J,0)) L) (i () F)))) (i () l)) g.fst h) fun (M:PUnit) N=>K (({ a:=none,len:=0,cap:=0 },5)) N)
theorem qoh {p t key w K} (hF:qmg p t key K w):cW 41 [.pointer p,.i t,key.v] [.one .slice,.one .i] w K:=qad (an:=[.n,.n,.n,.n,.n,.n,.j [],.l [(10,.one .u)],.n,.n,.n,.n,.n,.n,.n,.n,.n,.o [[0,1,2,3,4,5,6,7]],.n,.n,.n,.n,.n]) Tryz.func41 hF
def qcO (blocks:Int) (K:((Option Addr)×(Option Addr))->WP) (w:World):Prop:=cW 57 ([.i blocks]) ([.one .ptr,.one .i]) w fun (a:Option Addr×Int) b=>join (Bool) (fun c=>cond (!a.snd==0) (c true b) (cond (Option.isNone a.fst) (c true b) (cW 58 ([.pointer a.fst]) ([.one .i]) b fun (d:Int) e=>c (!d==0) e))) fun (f:Bool) g=>cond f (K ((none,none)) g) (cW 56 ([.pointer a.fst]) ([.one .ptr,.one .i]) g fun (h:Option Addr×Int) i=>cond (!h.snd==0) (K ((none,none)) i) (K ((a.fst,h.fst)) i))
theorem qfs {blocks w K} (hF:qcO blocks K w):cW 14 [.i blocks] [.one .ptr,.one .ptr] w K:=qad (an:=[.n,.n,.n,.j [(22,.one .bool)],.n,.n,.n,.n,.n,.n]) Tryz.func14 hF
def qcJ (t:Int) (K:(Int×Int)->WP) (w:World):Prop:=cond (t==0) (K ((16,88)) w) (cond (t==1) (K ((16,108)) w) (cond (t==2) (K ((16,1)) w) (cond (t==3) (K ((16,16)) w) (join (Bool) (fun a=>cond (t==4) (a true w) (a (t==5) w)) fun (b:Bool) c=>cond b (K ((24,16)) c) (cond (t==6) (K ((24,65)) c) (cond (t==7) (K ((1,8)) c) (K ((0,0)) c)))))))
theorem qeS {t w K} (hF:qcJ t K w):cW 15 [.i t] [.one .i,.one .i] w K:=qad (an:=[.n,.n,.n,.n,.n,.n,.n,.n,.n,.n,.n,.n,.n,.n,.j [(17,.one .bool)],.n,.n,.n,.n,.n,.n,.n,.n]) Tryz.func15 hF
def qdl (l:Sl) (t:Int) (key:ByteArray) (value:ByteArray) (K:(Sl×Int)->WP) (w:World):Prop:=cW 15 ([.i t]) ([.one .i,.one .i]) w fun (b:Int×Int) c=>cond (b.fst==0) (K ((l,4)) c) (join (Bool) (fun d=>cond (!(↑(ByteArray.size key):Int)==b.fst) (d true c) (d (!(↑(ByteArray.size value):Int)==b.snd) c)) fun (e:Bool) f=>cond e (K ((l,1)) f) (new (Obj.cells #[] 44) f fun g h=>loop (Sl×Bool×Int) (fun i (j:Sl×Bool×Int) k=>cond (decide (j.snd.snd<(↑l.len:Int))) (join (Sl×Bool) (fun m=>idx l j.snd.snd 2 fun n=>ld .str n k fun (o:ByteArray)=>cW 34 ([.string o,.string key]) ([.one .i]) k fun (p:Int) q=>join (Sl×Bool) (fun r=>join (Bool) (fun s=>cond (decide (p>=0)) (s (!j.snd.fst) q) (s false q)) fun (u:Bool) v=>cond u (new (Obj.cells #[.string key,.string value] 44) v fun x y=>run [.one .slice] ((Builtin.append_ (#[31,31]) 31 (#[j.fst.v,.slice (pW x) 1 1])).run Tryz.prog y) fun z A=>r ((z,true)) A) (r ((j.fst,j.snd.fst)) v)) fun (B:Sl×Bool) C=>cond (!p==0) (idx l j.snd.snd 2 fun D=>ldA ([.str,.str]) D C fun (E:ByteArray×ByteArray)=>new (Obj.cells #[.string E.fst,.string E.snd] 44) C fun F G=>run [.one .slice] ((Builtin.append_ (#[31,31]) 31 (#[B.fst.v,.slice (pW F) 1 1])).run Tryz.prog G) fun H I=>m ((H,B.snd)) I) (m B C)) fun (J:Sl×Bool) L=>i ((J.fst,J.snd,IntKind.wrap .i64 (j.snd.snd+1))) L) (join (Sl) (fun M=>cond (!j.snd.fst) (new (Obj.cells #[.string key,.string value] 44) k fun N O=>run [.one .slice] ((Builtin.append_ (#[31,31]) 31 (#[j.fst.v,.slice (pW N) 1 1])).run Tryz.prog O) fun P Q=>M P Q) (M j.fst k)) fun R S=>K ((R,0)) S)) (({ a:=pW g,len:=0,cap:=0 },false,0)) h))
theorem qgp {l t key value w K} (hF:qdl l t key value K w):cW 18 [l.v,.i t,.string key,.string value] [.one .slice,.one .i] w K:=qad (an:=[.n,.n,.n,.n,.n,.n,.j [(33,.one .bool)],.n,.n,.n,.n,.n,.l [(12,.one .slice),(13,.one .bool),(14,.one .i)],.n,.n,.j [(12,.one .slice),(13,.one .bool)],.n,.j [(12,.one .slice),(13,.one .bool)],.j [(54,.one .bool)],.n,.n,.j [(12,.one .slice)],.n,.n]) Tryz.func18 hF
def qdd (l:Sl) (t:Int) (key:ByteArray) (K:(Sl×Int)->WP) (w:World):Prop:=cW 67 ([l.v,.i t,.string key]) ([.one .str,.one .i]) w fun (b:ByteArray×Int) c=>cond (!b.snd==0) (K ((l,b.snd)) c) (new (Obj.cells #[] 44) c fun d e=>loop (Sl×Int) (fun f (g:Sl×Int) h=>cond (decide (g.snd<(↑l.len:Int))) (join (Sl) (fun i=>idx l g.snd 2 fun j=>ld .str j h fun (k:ByteArray)=>cond (!ByteArray.toList k==ByteArray.toList key) (idx l g.snd 2 fun m=>ldA ([.str,.str]) m h fun (n:ByteArray×ByteArray)=>new (Obj.cells #[.string n.fst,.string n.snd] 44) h fun o p=>run [.one .slice] ((Builtin.append_ (#[31,31]) 31 (#[g.fst.v,.slice (pW o) 1 1])).run Tryz.prog p) fun q r=>i q r) (i g.fst h)) fun s u=>f ((s,IntKind.wrap .i64 (g.snd+1))) u) (K ((g.fst,0)) h)) (({ a:=pW d,len:=0,cap:=0 },0)) e)
theorem qfL {l t key w K} (hF:qdd l t key K w):cW 22 [l.v,.i t,.string key] [.one .slice,.one .i] w K:=qad (an:=[.n,.n,.n,.n,.n,.n,.n,.n,.l [(10,.one .slice),(11,.one .i)],.n,.n,.j [(10,.one .slice)],.n,.n]) Tryz.func22 hF
def qdh (l:Sl) (t:Int) (key:ByteArray) (K:(ByteArray×Int)->WP) (w:World):Prop:=cW 15 ([.i t]) ([.one .i,.one .i]) w fun (a:Int×Int) b=>cond (a.fst==0) (K (({ data:=#[] },4)) b) (cond (!(↑(ByteArray.size key):Int)==a.fst) (K (({ data:=#[] },1)) b) (loop (Int) (fun c (d:Int) e=>cond (decide (d<(↑l.len:Int))) (idx l d 2 fun f=>ld .str f e fun (g:ByteArray)=>cond (ByteArray.toList g==ByteArray.toList key) (idx l d 2 fun h=>ld .str ⟨h.block,h.off+1,none⟩ e fun (i:ByteArray)=>K ((i,0)) e) (c (IntKind.wrap .i64 (d+1)) e)) (K (({ data:=#[] },5)) e)) 0 b))
theorem qf3 {l t key w K} (hF:qdh l t key K w):cW 67 [l.v,.i t,.string key] [.one .str,.one .i] w K:=qad (an:=[.n,.n,.n,.n,.n,.n,.n,.n,.n,.n,.l [(10,.one .i)],.n,.n,.n,.n,.n,.n]) Tryz.func67 hF
def qcs (s:ByteArray) (n:Int) (by_:Int) (K:ByteArray->WP) (w:World):Prop:=join (Int) (fun a=>cond (decide (n<0)) (a 0 w) (a n w)) fun (b:Int) c=>join (Int) (fun d=>cond (decide (b>24)) (d 24 c) (d b c)) fun (e:Int) f=>loop (ByteArray) (fun g (h:ByteArray) i=>cond (decide ((↑(ByteArray.size h):Int)<e)) (new (Obj.cells #[.b by_] 5) i fun j k=>runQ [.one .str] (fun l=>(convert 23 9 (.slice (pW j) 1 1)).run Tryz.prog l) k fun (m:ByteArray)=>chk ((↑(ByteArray.size h+ByteArray.size m):Int)<=IntKind.max IntKind.i64)<|g (h++m) k) (slcS h none (some e) fun (o:ByteArray)=>K o i)) s f
theorem qeg {s n by_ w K} (hF:qcs s n by_ K w):cW 16 [.string s,.i n,.b by_] [.one .str] w K:=qad (an:=[.n,.j [(1,.one .i)],.n,.j [(1,.one .i)],.n,.n,.n,.l [(7,.one .str)],.n,.n,.n]) Tryz.func16 hF
def qdc (a:ByteArray) (b:ByteArray) (K:Int->WP) (w:World):Prop:=loop (Int) (fun c (d:Int) e=>join (Bool) (fun f=>cond (decide (d<(↑(ByteArray.size a):Int))) (f (decide (d<(↑(ByteArray.size b):Int))) e) (f false e)) fun (g:Bool) h=>cond g (idxS a d fun (i:Int)=>idxS b d fun (j:Int)=>cond (decide (i<j)) (K (-1) h.drew) (idxS a d fun (k:Int)=>idxS b d fun (l:Int)=>cond (decide (k>l)) (K 1 (World.drew h.drew)) (c (IntKind.wrap .i64 (d+1)) (World.drew h.drew)))) (cond (decide ((↑(ByteArray.size a):Int)<(↑(ByteArray.size b):Int))) (K (-1) h) (cond (decide ((↑(ByteArray.size a):Int)>(↑(ByteArray.size b):Int))) (K 1 h) (K 0 h)))) 0 w
theorem qgb {a b w K} (hF:qdc a b K w):cW 34 [.string a,.string b] [.one .i] w K:=qad (an:=[.n,.n,.n,.l [(5,.one .i)],.n,.j [(15,.one .bool)],.n,.n,.n,.o [[0,1,2,3,4,5,6]],.n,.n,.o [[0,1,2,3,4,5,6]],.n,.n,.n,.n,.n,.n,.n,.n]) Tryz.func34 hF
end Go.Proofs.YtmmkegapckbomaaGreatDoor
end
section
namespace Go.Pt
open Go List
variable {S:List Nat} {w0 w:World} {L:List (Nat×Obj)} {P:Program}
theorem qor (z:Value) (c:Nat):mkCells [z] c=(List.replicate c z).toArray:=by
 apply Array.ext
 ·simp [mkCells]
 ·intro i h1 h2
  simp [mkCells,Nat.mod_one]
theorem Own.mk1 {el:TypeId} {z:Value} {bytes:Nat} {l c:Int} {K:Sl->WP} (h:Own S w0 w L) (h0:0<=l) (h1:l<=c) (h2:(bytes:Int)*c<=2^48) (h3:c<=2^48)
  (k:∀ b w',b=w.heap.size->Own S w0 w' ((b,.cells (List.replicate c.toNat z).toArray el (0,0))::L)->K ⟨some ⟨b,0,none⟩,l.toNat,c.toNat⟩ w'):mkS el [z] 1 bytes l c w K:=by
 refine ⟨⟨h0,h1,h2,h3⟩,?_⟩
 have e:mkCells (if c.toNat*1=0 then [] else [z]) (c.toNat*1)=(List.replicate c.toNat z).toArray:=by
  rw [xT]
  split
  ·rename_i hc; rw [hc]; apply Array.ext' ; simp [mkCells]
  ·exact qor z _
 rw [e]
 exact k _ _ rfl (h.alloc _)
theorem Own.copy1 {t t' ty el b:Nat} {cs:Array Value} {T:TypeId} {o dLen dCap:Nat} {src:Sl} {vs:List Value} {K:Int->WP} (h:Own S w0 w L) (i:Nat) (hi:L[i]?=some (b,.cells cs T (0,0)))
  (hu:P.underlying t=some (.slice el)) (hs:(P.info? el).map (·.size)=some 1) (hlen:vs.length=Nat.min src.len dLen) (hvs:vs≠[]->∃ a,src.a=some a/\∀ (j:Nat) v,vs[j]?=some v->w.cell? (a.add j)=some v) (h1:∀ v∈vs,v.oneCell'=true)
  (hfit:o+vs.length<=cs.size) (k:∀ w',Own S w0 w' (L.set i (b,.cells (splice cs o vs) T (0,0)))->K vs.length w') :
  Pt.run [Ty1.one (Cell.int .i64)] ((Builtin.copy_ #[t,t'] ty #[.slice (some ⟨b,o,none⟩) dLen dCap,.slice src.a src.len src.cap]).run P w) K:=by
 by_cases h0:vs=[]
 ·subst h0
  refine ⟨((0:Nat):Int),w,run_copy_none w t t' ty el _ _ _ _ _ _ hu hs (by simpa using hlen.symm),?_⟩
  have e:L.set i (b,.cells (splice cs o []) T (0,0))=L:=by
   apply ext_getElem?
   intro j
   rw [List.getElem?_set]
   by_cases hij:i=j
   ·subst hij
    have:=(zP.1 hi).1
    rw [if_pos rfl,hi]; simp [this,splice]
   ·rw [if_neg hij]
  have:=k w (by rw [e]; exact h)
  simpa using this
 ·obtain ⟨a,ha,hc⟩:=hvs h0
  have hb:=h.at hi
  have hrun:=run_copy_cells (P:=P) w t t' ty el b o dLen dCap a src.len src.cap vs hu hs hlen hc (fun j hj=>by
   rw [qaf hb]; simp [show o+j<cs.size by omega]) (fun j hj=>by simp [World.frozen?,hb]) h1
  rw [qbv hb] at hrun
  refine ⟨(vs.length:Int),_,?_,k _ (h.upd i hi)⟩
  rw [ha]
  exact hrun
theorem qkG {P:Program} {f:FuncId} {fn:Func} {e:Array Value->Sem Value} {args:List Value} {ts:List Ty1} {w:World} {K:ElR ts->WP} (hf:P.funcs[f]?=some fn) (hname:(fn.name== "runtime.NumGoroutine")=false) (hb:fn.body.isNone=true) (hn:Extern.findNext fn=none) (he:Extern.find fn=some e)
  (x:ElR ts) (w':World) (hrun:(e args.toArray).run P w=.ok (resVal ts x) w') (k:K x w'):Pt.ext P f args ts w K:=by
 refine ⟨x,w',?_,k⟩
 rw [run_callFunc_extern hf hname hb hn he]
 simp [hrun]
end Go.Pt
end
section
namespace Go.Proofs.YtmmkegapckbomaaGreatDoor
open Go Go.Pt List
attribute [local irreducible] ld ldA ldV fld fldA newZ st new idx idxS idxA slc slcS slcP mkS chk nn call callV inv run runQ runU join loop held ext rng undefer s2a nxt ent IntKind.wrap
theorem qd1 {α:Type} (A X Y Z:List α) (h:X.length=Y.length):(A++X++Z).take A.length++Y++(A++X++Z).drop (A.length+Y.length)=A++Y++Z:=by
 have u:(A++X++Z).take A.length=A:=by rw [zV,take_append_of_le_length (zM _),zS (zM _)]
 have C:(A++X++Z).drop (A.length+Y.length)=Z:=by
  rw [<- h,<- zF,drop_append_of_le_length (zM _),drop_of_length_le (zM _),xH]
 rw [u,C]
theorem qhj {A X Y Z:List Int} (h:X.length=Y.length):splice (bytesA (A++X++Z)) A.length (Y.map (Value.int .u8))=bytesA (A++Y++Z):=by
 apply Array.ext'
 rw [qas _ _ _ (by rw [qb1]; simp only [zF,zK]; omega)]
 have:=qd1 (A.map (Value.int .u8)) (X.map (Value.int .u8)) (Y.map (Value.int .u8)) (Z.map (Value.int .u8)) (by simpa using h)
 simpa only [bytesA,xM,toList_toArray,zK] using this
def zs (n:Nat):List Int:=List.replicate n 0
theorem qaP (n:Nat):(zs n).length=n:=length_replicate
theorem qfo (a b:Nat):zs (a+b)=zs a++zs b:=replicate_append_replicate.symm
theorem qup:zs 1=[0]:=rfl
theorem qnS (n:Nat):(List.replicate n (Value.int .u8 0)).toArray=bytesA (zs n):=by unfold bytesA zs; rw [map_replicate]
theorem Own.bytes {S:List Nat} {w0 w:World} {L:List (Nat×Obj)} {b:Nat} {T:TypeId} {l l':List Int} (h:Own S w0 w ((b,.cells (bytesA l) T (0,0))::L)) (e:l=l'):Own S w0 w ((b,.cells (bytesA l') T (0,0))::L):=by rw [<- e]; exact h
def restV (number kind:Int) (body:List Int):List Int:=be number 4++[kind]++be (IntKind.wrap .u32 body.length) 2++[0]++body++zs (500-body.length)
def sealV (number kind:Int) (body:List Int):List Int:=be (sumV (restV number kind body)) 4++restV number kind body
theorem qeI {number kind:Int} {body:List Int} (h:body.length<=500):(restV number kind body).length=508:=by
 simp only [restV,qaq,qaP,zF,yH,xJ]; omega
theorem qdb {number kind:Int} {body:List Int} (h:body.length<=500):(sealV number kind body).length=512:=by
 rw [sealV,zF,qaq,qeI h]
theorem qph {S:List Nat} {w:World} {s:Sl} {l:List Int} {number kind:Int} {K:Sl×Int->WP} (h:RdB S w s l) (O:Hv w) (hl:l.length<=100000)
  (I:500<l.length->K (⟨none,0,0⟩,3) w)
  (hk:l.length<=500->∀ b T w',w'.heap[b]?=some (.cells (bytesA (sealV number kind l)) T (0,0))->Fr [] w w'->w.heap.size<=b->K (⟨pW b,512,512⟩,0) w') :
  cW 114 [.u number,.b kind,s.v] [.one .slice,.one .i] w K:=by
 refine qmR ?_
 unfold qkN
 have G:=h.1
 refine qaa (fun Q=>I (by have:=zC Q; omega)) (fun Q=>?_)
 have E:l.length<=500:=by have:=zB Q; omega
 refine Own.mk1 (Own.start [] w) (by decide) (by decide) (by decide) (by decide) fun b w1 eb C=>?_
 rw [qnS] at C
 replace C:=Own.bytes (l':=zs 4++zs 4++zs 504) C (by rw [<- qfo,<- qfo]; rfl)
 refine qh9 (by decide) (by decide) (by decide) (by decide) ?_
 refine qnO (k:=4) C 0 rfl (qaP 4) (qaP 4) (by decide) fun w2 C=>?_
 replace C:=Own.bytes (l':=(zs 4++be number 4)++zs 1++zs 503) C (by rw [show (504:Nat)=1+503 from rfl,qfo,zV,zV,zV])
 refine qck (by omega) (by simp) ?_
 refine Own.st C 0 rfl _ (qhj (A:=zs 4++be number 4) (X:=zs 1) (Y:=[kind]) rfl) rfl (by rw [qb1]; simp only [zF,qaP,qaq]; rfl) fun w3 C _=>?_
 replace C:=Own.bytes (l':=(zs 4++be number 4++[kind])++zs 2++zs 501) C (by rw [show (503:Nat)=2+501 from rfl,qfo,zV,zV,zV,zV,zV])
 refine qh9 (by omega) (by omega) (by simp) (by simp) ?_
 refine qnO (k:=2) C 0 rfl (by simp only [zF,qaP,qaq]; rfl) (qaP 2) (by decide) fun w4 C=>?_
 replace C:=Own.bytes (l':=(zs 4++be number 4++[kind]++be (IntKind.wrap .u32 s.len) 2++[0])++zs l.length++zs (500-l.length)) C (by
  rw [show (501:Nat)=1+(l.length+(500-l.length)) by omega,qfo,qfo,qup]
  simp only [zV])
 refine qjB (by omega) (by simp) (by simp) (by simp) ?_
 have V:RdB S w4 s l:=h.frame0 C.fr
 have e6:(zs 4++be number 4++[kind]++be (IntKind.wrap .u32 s.len) 2++[0]).length=12:=by simp only [zF,qaP,qaq]; rfl
 refine Own.copy1 (el:=5) (vs:=l.map (Value.int .u8)) C 0 rfl (by kernel_rfl) (by kernel_rfl) (by rw [zK,G]; exact (xQ (by show l.length<=500; omega)).symm) (fun J=>?_) (fun v O=>by obtain ⟨x,_,rfl⟩:=mem_map.1 O; rfl) (by rw [qb1,zF,zF,e6,qaP,qaP,zK]; omega) fun w5 C=>?_
 ·rcases V.2.2 with h3 | ⟨bb,o,cs,T,fr,ha,_⟩
  ·rw [h3] at J; exact absurd rfl J
  ·refine ⟨_,ha,?_⟩
   have:=V.cells qat ha
   rw [qaA] at this
   exact this
 have e5:=qhj (A:=zs 4++be number 4++[kind]++be (IntKind.wrap .u32 s.len) 2++[0]) (X:=zs l.length) (Y:=l) (Z:=zs (500-l.length)) (qaP _)
 rw [e6] at e5
 have e7:(0:Nat)+Int.toNat 12*1=12:=rfl
 rw [e7,e5] at C
 replace C:=Own.bytes (l':=[]++zs 4++restV number kind l) C (by simp only [restV,G,zV,xH])
 refine qe3 ⟨by omega,by simp⟩ ?_
 refine qjB (by omega) (by simp) (by simp) (by simp) ?_
 have R:=C.drew
 have hr:RdB [] w5.drew ⟨some ⟨b,0+Int.toNat 4*1,none⟩,(512:Int).toNat-Int.toNat 4,(512:Int).toNat-Int.toNat 4⟩ (restV number kind l):=by
  have:=qce (S:=[]) (o:=4) (n:=508) (cap:=508) (R.at (i:=0) rfl) (by rw [zF,zF,qaP,qeI E]; simp) (zM _) (by simp)
  ·rw [xH,drop_append_of_le_length (by rw [qaP]; exact zM _),drop_of_length_le (by rw [qaP]; exact zM _),xH,zS (by rw [qeI E]; exact zM _)] at this
   exact this
 have U:Hv w5.drew:=O.frame0 R.fr
 refine qqJ hr U (by rw [qeI E]; decide) ?_
 refine qnO (k:=4) R 0 rfl rfl (qaP 4) (by decide) fun w6 C=>?_
 refine hk E b _ w6 (C.at (i:=0) rfl) C.fr (by omega)
def IsB (l:List Int):Prop:=∀ x∈l,0<=x/\x<256
theorem IsB.take {l:List Int} (h:IsB l) (n:Nat):IsB (l.take n):=fun x u=>h x (yU u)
theorem IsB.drop {l:List Int} (h:IsB l) (n:Nat):IsB (l.drop n):=fun x u=>h x (yT u)
theorem qrJ {l:List Int} (h:IsB l):((Lib.countByte (Lib.bytesOf l) (0:Int).toNat.toUInt8:Nat):Int)=l.length↔∀ x∈l,x=0:=by
 have key:∀ l:List Int,IsB l->((Lib.bytesOf l).count (0:UInt8)<=l.length/\((Lib.bytesOf l).count (0:UInt8)=l.length↔∀ x∈l,x=0)):=by
  intro l
  induction l with
  | nil=>intro _; simp [Lib.bytesOf]
  | cons a l ih=>
   intro u
   obtain ⟨I,A⟩:=ih (fun x C=>u x (zN _ C))
   have J:=u a (by simp)
   have e:Lib.bytesOf (a::l)=UInt8.ofNat a.toNat::Lib.bytesOf l:=rfl
   rw [e,count_cons]
   have E:(UInt8.ofNat a.toNat==0)=decide (a=0):=by
    by_cases h0:a=0
    ·subst h0; rfl
    ·rw [zU h0,zR]
     intro G
     have:=congrArg UInt8.toNat G
     simp at this
     omega
   rw [E]
   by_cases h0:a=0
   ·subst h0
    simp only [decide_true,if_true,yH,zG,forall_eq_or_imp,true_and]
    exact ⟨by omega,by rw [<- A]; omega⟩
   ·simp only [h0,decide_false,Bool.false_eq_true,if_false,yH,zG,forall_eq_or_imp,false_and,iff_false]
    omega
 have:=(key l h).2
 show (((Lib.bytesOf l).count _:Nat):Int)=_↔_
 rw [<- this]
 exact Int.ofNat_inj
theorem qkZ {S:List Nat} {w:World} {s:Sl} {l:List Int} {b2 cap2:Nat} {K:Int->World->Prop} (h:RdB S w s l) (hB:IsB l) (hc2:w.cell? ⟨b2,0,none⟩=some (.int .u8 0))
  (hk:∀ c:Int,(c=l.length↔∀ x∈l,x=0)->K c w) :
  call Tryz.prog 158 [.slice s.a s.len s.cap,.slice (some ⟨b2,0,none⟩) 1 cap2] [.one (.int .i64)] w K:=by
 refine qk6 (s:=s) (sep:=⟨some ⟨b2,0,none⟩,1,cap2⟩) ?_
 unfold qhm
 have hlen:=h.1
 refine cond_false (by rfl) ?_
 refine cond_true (by rfl) ?_
 refine qck (by omega) (by simp) ?_
 refine qaE (c:=.int .u8) 0 hc2 ?_
 have hcount:(Extern.BytealgCount.count #[.slice s.a s.len s.cap,.int .u8 0]).run Tryz.prog w=.ok (.int .i64 (Lib.countByte (Lib.bytesOf l) (0:Int).toNat.toUInt8)) w:=by
  cases ha:s.a with
  | none=>
   have hl0:l=[]:=by
    rcases h.2.2 with h3 | ⟨b,o,cs,T,fr,ha',_⟩
    ·exact h3
    ·rw [ha] at ha'; cases ha'
   subst hl0
   exact Lib.run_countNil w _ _ _
  | some a=>
   refine Lib.run_countAt w a s.len s.cap l hlen.symm (fun i hi=>?_) 0
   have:=h.cells qat ha i (.int .u8 (l.getD i 0)) ?_
   ·exact this
   ·rw [qaA,zQ,yQ,zA (by omega)]; rfl
 refine qkG (e:=Extern.BytealgCount.count) Tryz.func204 (by kernel_rfl) (by kernel_rfl) (by kernel_rfl) (by kernel_rfl) (((Lib.countByte (Lib.bytesOf l) (0:Int).toNat.toUInt8:Nat):Int)) w hcount ?_
 exact hk _ (qrJ hB)
def openV (number:Int) (b:List Int):Int×List Int×Int:=
 if b.length≠512 then (0,[],1)
 else if getV (b.take 4)≠sumV (b.drop 4) then (0,[],8)
 else if getV ((b.take 8).drop 4)≠number then (0,[],4)
 else if getV ((b.take 11).drop 9)>500\/b.getD 11 0≠0 then (0,[],2)
 else if ∃ x∈b.drop (12+(getV ((b.take 11).drop 9)).toNat),x≠0 then (0,[],2)
 else (b.getD 8 0,(b.take (12+(getV ((b.take 11).drop 9)).toNat)).drop 12,0)
theorem qa3 (x:Int) (h:0<=x/\x<4294967296):IntKind.wrap .u32 x=x:=by
 unfold IntKind.wrap
 have:(IntKind.u32.signed)=false:=rfl
 simp only [this,Bool.false_and,Bool.false_eq_true,if_false]
 exact Int.emod_eq_of_lt h.1 h.2
theorem qaW (x:Int):0<=IntKind.wrap .u32 x/\IntKind.wrap .u32 x<4294967296:=by
 unfold IntKind.wrap
 have:(IntKind.u32.signed)=false:=rfl
 simp only [this,Bool.false_and,Bool.false_eq_true,if_false]
 exact ⟨Int.emod_nonneg _ (by decide),Int.emod_lt_of_pos _ (by decide)⟩
theorem qbZ (h:BinOp) (x y:Int):0<=bits h .u32 x y/\bits h .u32 x y<4294967296:=qaW _
theorem qpP (l:List Int):0<=getV l/\getV l<4294967296:=by
 unfold getV
 have:∀ (l:List Int) (a:Int),0<=a/\a<4294967296->0<=l.foldl (fun r x=>bits .or .u32 (IntKind.wrap .u32 (r*2^8)) (IntKind.wrap .u32 x)) a/\l.foldl (fun r x=>bits .or .u32 (IntKind.wrap .u32 (r*2^8)) (IntKind.wrap .u32 x)) a<4294967296:=by
  intro l
  induction l with
  | nil=>intro a h; exact h
  | cons x l ih=>intro a _; exact ih _ (qbZ _ _ _)
 exact this l 0 (by decide)
theorem qle {S:List Nat} {w:World} {s:Sl} {l:List Int} {number:Int} {K:Int×Sl×Int->WP} (h:RdB S w s l) (hv:Hv w) (hB:IsB l) (hl:l.length<=100000)
  (hk:∀ s' B w',BufB w' s' (openV number l).2.1 B->Fr [] w w'->(∀ b∈B,w.heap.size<=b)->K ((openV number l).1,s',(openV number l).2.2) w') :
  cW 126 [.u number,s.v] [.one .b,.one .slice,.one .i] w K:=by
 refine qnB ?_
 unfold qjY
 have I:=h.1
 have C:∀ {e:Int} {w':World},openV number l=(0,[],e)->Fr [] w w'->K (0,⟨none,0,0⟩,e) w':=by
  intro e w' he hf
  have:=hk ⟨none,0,0⟩ [] w' (by rw [he]; exact .nil _ _ _) hf (by simp)
  rw [he] at this
  exact this
 refine qaa (fun A=>?_) (fun A=>?_)
 ·refine C ?_ (.refl _ _)
  have:l.length≠512:=by simp at A; omega
  simp [openV,this]
 have J:l.length=512:=by simp at A; omega
 refine Rds.part h 0 4 rfl rfl (by omega) (by omega) fun s1 l1 r1 _=>?_
 refine Rds.part h 4 512 rfl (by rw [I,J]; rfl) (by omega) (by omega) fun s2 l2 r2 _=>?_
 rw [zS (by omega)] at r2
 rw [xE] at r1
 have fd:Fr [] w w.drew:=(Fr.refl _ _).drew
 have aj:Hv w.drew:=hv.frame0 fd
 refine qnQ (w:=w.drew) r1 (by rw [yK]; omega) ?_
 refine qqJ (w:=w.drew) r2 aj (by rw [yB]; omega) ?_
 have U:¬ l.length≠512:=by omega
 refine qaa (fun A=>?_) (fun A=>?_)
 ·refine C ?_ fd
  have:getV (l.take 4)≠sumV (l.drop 4):=by simpa using A
  rw [openV,if_neg U,if_pos this]
 have h1:¬ getV (l.take 4)≠sumV (l.drop 4):=by simpa using A
 have hd:RdB S w.drew s l:=h
 refine Rds.part hd 4 8 rfl rfl (by omega) (by omega) fun s3 l3 r3 _=>?_
 refine qnQ r3 (by rw [yB,yK]; omega) ?_
 refine qaa (fun A=>?_) (fun A=>?_)
 ·refine C ?_ fd
  have:getV ((l.take 8).drop 4)≠number:=by simpa using A
  rw [openV,if_neg U,if_neg h1,if_pos this]
 have h2:¬ getV ((l.take 8).drop 4)≠number:=by simpa using A
 refine Rds.part hd 9 11 rfl rfl (by omega) (by omega) fun s4 l4 r4 _=>?_
 refine qnQ r4 (by rw [yB,yK]; omega) ?_
 have hn:=qpP ((l.take 11).drop 9)
 have al:l[11]?=some (l.getD 11 0):=by rw [yQ,zA (by omega)]; rfl
 have g8:l[8]?=some (l.getD 8 0):=by rw [yQ,zA (by omega)]; rfl
 refine qag (fun b w'=>b=decide (getV ((l.take 11).drop 9)>500\/l.getD 11 0≠0)/\w'=w.drew) ?_ ?_
 ·refine qaa (fun A=>?_) (fun A=>?_)
  ·exact ⟨by rw [zZ (Or.inl (zC A))],rfl⟩
  ·refine RdB.at hd 11 rfl al ⟨?_,rfl⟩
   have:=zB A
   generalize l.getD 11 0=z
   by_cases hz:z=0 <;> simp [this,hz]
 rintro b w1 ⟨rfl,rfl⟩
 refine qaa (fun A=>?_) (fun A=>?_)
 ·refine C ?_ fd
  rw [openV,if_neg U,if_neg h1,if_neg h2,if_pos (zC A)]
 have h3:=zB A
 have O:getV ((l.take 11).drop 9)<=500:=by
  rcases Int.lt_or_le 500 (getV ((l.take 11).drop 9)) with h | h
  ·exact absurd (Or.inl h) h3
  ·exact h
 have V:openV number l=if ∃ x∈l.drop (12+(getV ((l.take 11).drop 9)).toNat),x≠0 then (0,[],2) else (l.getD 8 0,(l.take (12+(getV ((l.take 11).drop 9)).toNat)).drop 12,0):=by
  rw [openV,if_neg U,if_neg h1,if_neg h2,if_neg h3]
 generalize getV ((l.take 11).drop 9)=n at hn O V
 obtain ⟨m,rfl⟩:∃ m:Nat,n=m:=⟨n.toNat,by omega⟩
 rw [qa3 _ (by omega)]
 rw [zJ] at V
 refine Rds.part hd (12+m) 512 (by simp) (by rw [I,J]; rfl) (by omega) (by omega) fun s5 l5 r5 _=>?_
 rw [zS (by omega)] at r5
 have ho:=Own.start [] w.drew
 refine Own.new ho fun zb w2 ez sz ho=>?_
 have an:RdB S w2 s5 (l.drop (12+m)):=r5.frame0 ho.fr
 refine qkZ an (hB.drop _) (ho.cell (off:=0) 0 rfl rfl) fun c ad=>?_
 have G:Fr [] w w2:=fd.trans ho.fr
 have ae:=r5.1
 refine qaa (fun A=>?_) (fun A=>?_)
 ·refine C ?_ G
  have ao:¬ ∀ x∈l.drop (12+m),x=0:=by
   rw [<- ad]
   intro e
   rw [e,ae] at A
   simp at A
  rw [V,if_pos]
  exact Classical.byContradiction fun ap=>ao fun x hx=>Classical.byContradiction fun ar=>ap ⟨x,hx,ar⟩
 ·have af:∀ x∈l.drop (12+m),x=0:=by
   rw [<- ad]
   rw [ae] at A
   simpa using A
  rw [if_neg (by rintro ⟨x,hx,U⟩; exact U (af x hx))] at V
  have ag:RdB S w2.drew s l:=(h.frame0 G).drew
  obtain ⟨_,b8,o8,av,_,ah,T8,aw,Q,ax⟩:=Rds.at ag 8 g8
  have R:ah[o8+8]?=some (.b (l.getD 8 0)):=by
   have:=congrArg (·[0]?) ax
   simpa using this
  refine qa0 av ⟨by omega,by omega⟩ ?_
  have E:∀ {w':World},w'.heap[b8]?=some (.cells ah T8 aw)->w'.cell? ⟨b8,o8+Int.toNat 8*1,none⟩=some (.b (l.getD 8 0)):=fun hb=>by
   rw [qaf hb]; exact R
  refine qaE (l.getD 8 0) (E Q) ?_
  refine Rds.part ag 12 (12+m) rfl (by simp) (by omega) (by omega) fun s6 l6 r6 _=>?_
  have lm:((l.take (12+m)).drop 12).length=m:=by rw [yB,yK]; omega
  refine qaO r6 (by rw [lm]; omega) fun s7 B w3 az f7 n7 _ _=>?_
  refine qah (E (by show _=_; rw [f7.block b8 (qab Q) (by simp)]; exact Q)) ?_
  have e1:(w2.drew).heap.size=w2.heap.size:=rfl
  have:=hk s7 B w3 (by rw [V]; exact az) (G.drew.trans f7) (fun b hb=>by have:=n7 b hb; have:=G.size; omega)
  rw [V] at this
  exact this
end Go.Proofs.YtmmkegapckbomaaGreatDoor
end
section
namespace Go.Proofs.YtmmkegapckbomaaGreatDoor
open Go Go.Pt List
theorem wu8 (x:Int):IntKind.wrap .u8 x=x%256:=by
 unfold IntKind.wrap
 have:(IntKind.u8.signed)=false:=rfl
 simp only [this,Bool.false_and,Bool.false_eq_true,if_false]
 rfl
theorem quv {r x:Int} (h:0<=r/\r<16777216) (u:0<=x/\x<256):bits .or .u32 (IntKind.wrap .u32 (r*2^8)) (IntKind.wrap .u32 x)=r*256+x:=by
 rw [qa3 x (by omega),qa3 (r*2^8) (by omega)]
 obtain ⟨a,rfl⟩:∃ a:Nat,r=a:=⟨r.toNat,by omega⟩
 obtain ⟨b,rfl⟩:∃ b:Nat,x=b:=⟨x.toNat,by omega⟩
 have e1:((a:Int)*2^8)=((2^8*a:Nat):Int):=by omega
 rw [e1]
 show IntKind.wrap .u32 ((BitVec.ofInt 32 ((2^8*a:Nat):Int)||| BitVec.ofInt 32 (b:Int)).toNat:Nat)=_
 rw [BitVec.toNat_or,BitVec.ofInt_natCast,BitVec.ofInt_natCast,BitVec.toNat_ofNat,BitVec.toNat_ofNat,Nat.mod_eq_of_lt (show 2^8*a<2^32 by omega),Nat.mod_eq_of_lt (show b<2^32 by omega),<- Nat.two_pow_add_eq_or_of_lt (show b<2^8 by omega)]
 rw [qa3 _ (by omega)]
 omega
def beV (l:List Int):Int:=l.foldl (fun r x=>r*256+x) 0
theorem qga:∀ {l:List Int},IsB l->l.length<=4->getV l=beV l:=by
 have key:∀ (l:List Int) (r:Int) (k:Nat),IsB l->l.length<=k->k<=4->0<=r->r<256^(4-k)->
   l.foldl (fun r x=>bits .or .u32 (IntKind.wrap .u32 (r*2^8)) (IntKind.wrap .u32 x)) r=l.foldl (fun r x=>r*256+x) r:=by
  intro l
  induction l with
  | nil=>intros; rfl
  | cons x l ih=>
   intro r k u h A E C
   have G:=u x (by simp)
   simp only [yH] at h
   have I:r<16777216:=by
    have:(256:Int)^(4-k)<=256^3:=by
     have:(4-k)<=3:=by omega
     match k,A,h with
     | 1,_,_=>decide
     | 2,_,_=>decide
     | 3,_,_=>decide
     | 4,_,_=>decide
    have e:(256:Int)^3=16777216:=by decide
    omega
   rw [foldl_cons,foldl_cons,quv ⟨E,I⟩ G]
   match k,A,h,C with
   | k+1,A,h,C=>
    refine ih _ k (fun y J=>u y (zN _ J)) (by omega) (by omega) (by omega) ?_
    have e:4-k=(4-(k+1))+1:=by omega
    rw [e,Int.pow_succ]
    omega
 intro l u h
 exact key l 0 4 u h (by decide) (by decide) (by decide)
theorem qcm {n:Int} (h:0<=n) (j:Nat) (u:j<=3):byteAt n j=n / 256^j%256:=by
 unfold byteAt
 rw [wu8,Int.fdiv_eq_ediv_of_nonneg _ (by exact Int.pow_nonneg (by decide))]
 match j,u with
 | 0,_=>rfl
 | 1,_=>rfl
 | 2,_=>rfl
 | 3,_=>rfl
theorem be4 {n:Int} (h:0<=n):be n 4=[n / 16777216%256,n / 65536%256,n / 256%256,n%256]:=by
 have e:be n 4=[byteAt n 3,byteAt n 2,byteAt n 1,byteAt n 0]:=rfl
 rw [e,qcm h 3 (by decide),qcm h 2 (by decide),qcm h 1 (by decide),qcm h 0 (by decide)]
 simp
theorem be2 {n:Int} (h:0<=n):be n 2=[n / 256%256,n%256]:=by
 have e:be n 2=[byteAt n 1,byteAt n 0]:=rfl
 rw [e,qcm h 1 (by decide),qcm h 0 (by decide)]
 simp
theorem qbt (n:Int) (k:Nat):IsB (be n k):=by
 intro x h
 obtain ⟨i,_,rfl⟩:=mem_map.1 h
 unfold byteAt
 rw [wu8]
 omega
theorem qjn {n:Int} (h:0<=n/\n<4294967296):getV (be n 4)=n:=by
 rw [qga (qbt _ _) (by rw [qaq]; exact zM _),be4 h.1]
 show (((0*256+_)*256+_)*256+_)*256+_=n
 omega
theorem qnv {n:Int} (h:0<=n/\n<65536):getV (be n 2)=n:=by
 rw [qga (qbt _ _) (by rw [qaq]; decide),be2 h.1]
 show (0*256+_)*256+_=n
 omega
theorem qpY (l:List Int):0<=sumV l/\sumV l<4294967296:=by
 unfold sumV moreV
 exact qbZ _ _ _
theorem IsB.append {a b:List Int} (h:IsB a) (k:IsB b):IsB (a++b):=fun x A=>by
 rcases zD.1 A with u | u
 ·exact h x u
 ·exact k x u
theorem IsB.zs (n:Nat):IsB (zs n):=fun x h=>by
 have:=eq_of_mem_replicate h
 omega
theorem IsB.one {x:Int} (h:0<=x/\x<256):IsB [x]:=fun y u=>by simp at u; subst u; exact h
theorem qqy {number kind:Int} {body:List Int} (h:0<=kind/\kind<256) (u:IsB body):IsB (restV number kind body):=
 (((((qbt _ _).append (.one h)).append (qbt _ _)).append (.one (by decide))).append u).append (.zs _)
theorem qhr {number kind:Int} {body:List Int} (h:0<=kind/\kind<256) (u:IsB body):IsB (sealV number kind body):=(qbt _ _).append (qqy h u)
theorem qjf {number kind:Int} {body:List Int} (G:0<=number/\number<4294967296) (I:body.length<=500):openV number (sealV number kind body)=(kind,body,0):=by
 have u:IntKind.wrap .u32 (body.length:Int)=(body.length:Int):=qa3 _ (by omega)
 have e0:sealV number kind body=be (sumV (restV number kind body)) 4++(be number 4++([kind]++(be body.length 2++([0]++(body++zs (500-body.length)))))):=by
  rw [sealV]
  conv=>lhs; rhs; rw [restV]
  rw [u]
  simp only [zV]
 have l4:=qaq (sumV (restV number kind body)) 4
 have e1:(sealV number kind body).take 4=be (sumV (restV number kind body)) 4:=by rw [sealV,take_append_of_le_length (by rw [qaq]; exact zM _),zS (by rw [qaq]; exact zM _)]
 have J:(sealV number kind body).drop 4=restV number kind body:=by rw [sealV,drop_append_of_le_length (by rw [qaq]; exact zM _),drop_of_length_le (by rw [qaq]; exact zM _),xH]
 have E:∀ n,∃ a b c d,be n 4=[a,b,c,d]:=fun n=>⟨_,_,_,_,rfl⟩
 have K:∀ n,∃ a b,be n 2=[a,b]:=fun n=>⟨_,_,rfl⟩
 obtain ⟨O,Q,R,U,V⟩:=E (sumV (restV number kind body))
 obtain ⟨n0,n1,n2,n3,A⟩:=E number
 obtain ⟨l0,l1,C⟩:=K body.length
 have h:sealV number kind body=O::Q::R::U::n0::n1::n2::n3::kind::l0::l1::0::(body++zs (500-body.length)):=by
  rw [e0,V,A,C]; rfl
 have g1:getV ((sealV number kind body).take 4)=sumV ((sealV number kind body).drop 4):=by rw [e1,J,qjn (qpY _)]
 have g2:getV (((sealV number kind body).take 8).drop 4)=number:=by
  have:((sealV number kind body).take 8).drop 4=be number 4:=by rw [h,A]; rfl
  rw [this,qjn G]
 have g3:getV (((sealV number kind body).take 11).drop 9)=body.length:=by
  have:((sealV number kind body).take 11).drop 9=be body.length 2:=by rw [h,C]; rfl
  rw [this,qnv (by omega)]
 have g4:(sealV number kind body).getD 11 0=0:=by rw [h]; rfl
 have g5:(sealV number kind body).getD 8 0=kind:=by rw [h]; rfl
 have g6:(sealV number kind body).drop (12+body.length)=zs (500-body.length):=by
  rw [h,Nat.add_comm]
  show (body++zs (500-body.length)).drop body.length=_
  rw [drop_append_of_le_length (zM _),drop_length,xH]
 have g7:((sealV number kind body).take (12+body.length)).drop 12=body:=by
  rw [h,Nat.add_comm]
  show (body++zs (500-body.length)).take body.length=_
  rw [take_append_of_le_length (zM _),xZ]
 rw [openV,if_neg (by rw [qdb I]; simp),if_neg (by rw [g1]; simp),if_neg (by rw [g2]; simp),g3,g4,if_neg (by simp; omega),zJ,g6,if_neg,g5,g7]
 rintro ⟨x,hx,h0⟩
 exact h0 (eq_of_mem_replicate hx)
def cmpL:List Int->List Int->Int
 | [],[]=>0
 | [],_::_=>-1
 | _::_,[]=>1
 | a::r,b::s=>if a<b then -1 else if b<a then 1 else cmpL r s
abbrev KLt (a b:List Int):Prop:=cmpL a b<0
theorem qdH:∀ a b:List Int,cmpL a b=-1\/cmpL a b=0\/cmpL a b=1
 | [],[]=>.inr (.inl rfl)
 | [],_::_=>.inl rfl
 | _::_,[]=>.inr (.inr rfl)
 | a::r,b::s=>by
  rw [cmpL]
  split
  ·exact .inl rfl
  split
  ·exact .inr (.inr rfl)
  ·exact qdH r s
theorem qeJ:∀ a:List Int,cmpL a a=0
 | []=>rfl
 | a::r=>by rw [cmpL,if_neg (by omega),if_neg (by omega)]; exact qeJ r
theorem qeB:∀ {a b:List Int},cmpL a b=0->a=b
 | [],[],_=>rfl
 | [],_::_,h=>by simp [cmpL] at h
 | _::_,[],h=>by simp [cmpL] at h
 | a::r,b::s,h=>by
  rw [cmpL] at h
  split at h
  ·cases h
  split at h
  ·cases h
  ·rw [qeB h,show a=b by omega]
theorem qbo:∀ a b:List Int,cmpL b a =-cmpL a b
 | [],[]=>rfl
 | [],_::_=>rfl
 | _::_,[]=>rfl
 | a::r,b::s=>by
  rw [cmpL,cmpL]
  by_cases h1:a<b
  ·rw [if_neg (show ¬ b<a by omega),if_pos h1,if_pos h1]; rfl
  ·by_cases h2:b<a
   ·rw [if_pos h2,if_neg h1,if_pos h2]
   ·rw [if_neg h2,if_neg h1,if_neg h1,if_neg h2]; exact qbo r s
theorem qax {a:List Int}:¬ KLt a a:=by unfold KLt; rw [qeJ]; decide
theorem qau:∀ {a b c:List Int},KLt a b->KLt b c->KLt a c
 | [],[],_,h,_=>by simp [KLt,cmpL] at h
 | [],_::_,[],_,h=>by simp [KLt,cmpL] at h
 | [],_::_,_::_,_,_=>by simp [KLt,cmpL]
 | _::_,[],_,h,_=>by simp [KLt,cmpL] at h
 | _::_,_::_,[],_,h=>by simp [KLt,cmpL] at h
 | a::r,b::s,c::t,h,g=>by
  unfold KLt at h g ⊢
  rw [cmpL] at h g ⊢
  by_cases h1:a<b
  ·by_cases g1:b<c
   ·rw [if_pos (by omega)]; decide
   ·rw [if_neg g1] at g
    by_cases g2:c<b
    ·rw [if_pos g2] at g; omega
    ·rw [if_pos (by omega)]; decide
  ·rw [if_neg h1] at h
   by_cases h2:b<a
   ·rw [if_pos h2] at h; omega
   ·rw [if_neg h2] at h
    by_cases g1:b<c
    ·rw [if_pos (by omega)]; decide
    ·rw [if_neg g1] at g
     by_cases g2:c<b
     ·rw [if_pos g2] at g; omega
     ·rw [if_neg g2] at g
      rw [if_neg (by omega),if_neg (by omega)]
      exact qau (a:=r) (b:=s) (c:=t) h g
theorem qaS {a b:List Int} (h:KLt a b):¬ KLt b a:=fun g=>qax (qau h g)
theorem qe2 {a b:List Int} (h:KLt a b):a≠b:=fun e=>by rw [e] at h; exact qax h
theorem ql5 (a b:List Int):KLt a b\/a=b\/KLt b a:=by
 rcases qdH a b with h | h | h
 ·exact .inl (by unfold KLt; omega)
 ·exact .inr (.inl (qeB h))
 ·refine .inr (.inr ?_); unfold KLt; rw [qbo]; omega
theorem qfw {a b:List Int}:¬ KLt a b↔a=b\/KLt b a:=by
 constructor
 ·intro h
  rcases ql5 a b with u | u | u
  ·exact absurd u h
  ·exact .inl u
  ·exact .inr u
 ·rintro (rfl | h)
  ·exact qax
  ·exact qaS h
abbrev KLe (a b:List Int):Prop:=¬ KLt b a
theorem qh2 {a b c:List Int} (h:KLe a b) (g:KLt b c):KLt a c:=by
 rcases qfw.1 h with u | u
 ·rw [<- u]; exact g
 ·exact qau u g
theorem qa5 {a b c:List Int} (h:KLt a b) (g:KLe b c):KLt a c:=by
 rcases qfw.1 g with u | u
 ·rw [u]; exact h
 ·exact qau h u
theorem qcb {a b c:List Int} (h:KLe a b) (g:KLe b c):KLe a c:=fun k=>by
 rcases qfw.1 h with u | u
 ·subst u; exact g k
 ·exact g (qau k u)
abbrev Key:=List Int
abbrev Prs:=List (List Int×List Int)
def placeV (l:List Key) (k:Key):Nat:=(l.takeWhile fun a=>decide (KLt a k)).length
def kidV (l:List Key) (k:Key):Nat:=(l.takeWhile fun a=>decide (KLe a k)).length
def Rising (l:List Key):Prop:=l.Pairwise KLt
theorem qd0 {α:Type} (p:α->Bool) (l:List α):(l.takeWhile p).length<=l.length:=(takeWhile_sublist p).length_le
theorem qhF (l:List Key) (k:Key):placeV l k<=l.length:=qd0 _ l
theorem qdL (l:List Key) (k:Key):kidV l k<=l.length:=qd0 _ l
theorem qcU {α:Type} (p:α->Bool):∀ l:List α,l.take (l.takeWhile p).length=l.takeWhile p
 | []=>rfl
 | a::r=>by
  rw [takeWhile_cons]
  cases h:p a with
  | true=>simp [qcU p r]
  | false=>simp
theorem qdu {α:Type} {p:α->Bool}:∀ {l:List α} {x:α},x∈l.takeWhile p->p x=true
 | a::r,x,h=>by
  rw [takeWhile_cons] at h
  cases u:p a with
  | true=>
   rw [u] at h
   rcases zG.1 h with rfl | h
   ·exact u
   ·exact qdu h
  | false=>rw [u] at h; cases h
theorem qbK {α:Type} {p:α->Bool}:∀ {l:List α} {x:α} {r:List α},l.drop (l.takeWhile p).length=x::r->p x=false
 | a::s,x,r,h=>by
  rw [takeWhile_cons] at h
  cases u:p a with
  | true=>
   rw [u] at h
   exact qbK (l:=s) (by simpa using h)
  | false=>
   rw [u] at h
   simp at h
   rw [<- h.1]; exact u
theorem qnp {l:List Key} {k a:Key} (h:a∈l.take (placeV l k)):KLt a k:=by
 unfold placeV at h
 rw [qcU] at h
 exact zC (p:=KLt a k) (qdu (p:=fun a=>decide (KLt a k)) h)
theorem qko {l:List Key} {k a:Key} (h:a∈l.take (kidV l k)):KLe a k:=by
 unfold kidV at h
 rw [qcU] at h
 exact zC (p:=KLe a k) (qdu (p:=fun a=>decide (KLe a k)) h)
theorem qbn {x:Key} {r:List Key} (h:Rising (x::r)):∀ a∈r,KLt x a:=(yI.1 h).1
theorem Rising.drop {l:List Key} (h:Rising l) (n:Nat):Rising (l.drop n):=List.Pairwise.sublist (drop_sublist n l) h
theorem Rising.take {l:List Key} (h:Rising l) (n:Nat):Rising (l.take n):=List.Pairwise.sublist (take_sublist n l) h
theorem qmG {l:List Key} {k a:Key} (C:Rising l) (h:a∈l.drop (placeV l k)):KLe k a:=by
 have u:=C.drop (placeV l k)
 cases e:l.drop (placeV l k) with
 | nil=>rw [e] at h; cases h
 | cons x r=>
  have A:KLe k x:=zB (qbK (p:=fun a=>decide (KLt a k)) e)
  rw [e] at h u
  rcases zG.1 h with rfl | h
  ·exact A
  ·exact qcb A (qaS (qbn u a h))
theorem qiS {l:List Key} {k a:Key} (C:Rising l) (h:a∈l.drop (kidV l k)):KLt k a:=by
 have u:=C.drop (kidV l k)
 cases e:l.drop (kidV l k) with
 | nil=>rw [e] at h; cases h
 | cons x r=>
  have A:KLt k x:=Classical.not_not.1 (zB (qbK (p:=fun a=>decide (KLe a k)) e))
  rw [e] at h u
  rcases zG.1 h with rfl | h
  ·exact A
  ·exact qau A (qbn u a h)
def insP (k v:Key):Prs->Prs
 | []=>[(k,v)]
 | x::r=>if KLt k x.1 then (k,v)::x::r else if k=x.1 then (k,v)::r else x::insP k v r
def cutP (k:Key) (l:Prs):Prs:=l.filter fun x=>decide (x.1≠k)
abbrev keysP (l:Prs):List Key:=l.map (·.1)
def SortP (l:Prs):Prop:=Rising (keysP l)
theorem qcH {k v:Key}:∀ {a:Prs} {l:Prs},(∀ x∈a,KLt x.1 k)->insP k v (a++l)=a++insP k v l
 | [],l,_=>rfl
 | x::a,l,h=>by
  have u:=h x (by simp)
  rw [xI,insP,if_neg (qaS u),if_neg (fun e=>qe2 u e.symm),qcH fun y A=>h y (zN _ A),xI]
theorem qiG {k v:Key} {b:Prs} (h:∀ x∈b,KLt k x.1):∀ l:Prs,insP k v (l++b)=insP k v l++b
 | []=>by
  cases b with
  | nil=>rfl
  | cons x r=>
   show insP k v (x::r)=(k,v)::x::r
   rw [insP,if_pos (h x (by simp))]
 | x::l=>by
  rw [xI,insP,insP]
  split
  ·rfl
  split
  ·rfl
  ·rw [qiG h l,xI]
theorem qsJ {k v w:Key} {a r:Prs} (h:∀ x∈a,KLt x.1 k):insP k v (a++(k,w)::r)=a++(k,v)::r:=by
 rw [qcH h,insP,if_neg qax,if_pos rfl]
theorem qrR {k v:Key} {a b:Prs} (h:∀ x∈a,KLt x.1 k) (u:∀ x∈b,KLt k x.1):insP k v (a++b)=a++(k,v)::b:=by
 rw [qcH h]
 cases b with
 | nil=>rfl
 | cons x r=>rw [insP,if_pos (u x (by simp))]
theorem qdX {k v:Key} {x:Key×Key}:∀ {l:Prs},x∈insP k v l->x=(k,v)\/x∈l
 | [],h=>.inl (by simpa [insP] using h)
 | y::l,h=>by
  rw [insP] at h
  split at h
  ·rcases zG.1 h with h | h
   ·exact .inl h
   ·exact .inr h
  split at h
  ·rcases zG.1 h with h | h
   ·exact .inl h
   ·exact .inr (zN _ h)
  ·rcases zG.1 h with h | h
   ·exact .inr (by rw [h]; simp)
   ·rcases qdX h with h | h
    ·exact .inl h
    ·exact .inr (zN _ h)
theorem ql2 {k v:Key}:∀ {l:Prs},SortP l->SortP (insP k v l)
 | [],_=>pairwise_singleton _ _
 | x::l,h=>by
  have A:=yI.1 (show (x.1::keysP l).Pairwise KLt from h)
  rw [insP]
  split
  ·rename_i C
   refine yI.2 ⟨fun a u=>?_,h⟩
   rcases zG.1 u with rfl | u
   ·exact C
   ·exact qau C (A.1 a u)
  split
  ·rename_i C
   refine yI.2 ⟨fun a u=>?_,A.2⟩
   show KLt k a
   rw [C]; exact A.1 a u
  ·rename_i E G
   refine yI.2 ⟨fun a u=>?_,ql2 A.2⟩
   obtain ⟨y,I,rfl⟩:=mem_map.1 u
   rcases qdX I with rfl | I
   ·rcases qfw.1 E with e | e
    ·exact absurd e G
    ·exact e
   ·exact A.1 _ (zY I)
theorem qbR {k v:Key}:∀ {l:Prs},k∉keysP l->(insP k v l).length=l.length+1
 | [],_=>rfl
 | x::l,h=>by
  rw [insP]
  split
  ·rfl
  split
  ·rename_i e; exact absurd (by rw [e]; simp) h
  ·rw [yH,qbR fun u=>h (zN _ u),yH]
theorem qbT {k v:Key}:∀ {l:Prs},SortP l->k∈keysP l->(insP k v l).length=l.length
 | x::l,C,h=>by
  have A:=yI.1 (show (x.1::keysP l).Pairwise KLt from C)
  rw [insP]
  split
  ·rename_i u
   rcases zG.1 h with e | e
   ·rw [e] at u; exact absurd u qax
   ·exact absurd u (qaS (A.1 k e))
  split
  ·rfl
  ·rename_i u
   rcases zG.1 h with e | e
   ·exact absurd e u
   ·rw [yH,qbT A.2 e,yH]
theorem qkP {k:Key} {a l:Prs} (h:∀ x∈a,KLt x.1 k):cutP k (a++l)=a++cutP k l:=by
 unfold cutP
 rw [xB,filter_eq_self.2]
 intro x u
 exact zZ (qe2 (h x u))
theorem qjb {k:Key} {l b:Prs} (h:∀ x∈b,KLt k x.1):cutP k (l++b)=cutP k l++b:=by
 unfold cutP
 rw [xB]
 congr 1
 rw [filter_eq_self]
 intro x u
 exact zZ fun e=>qe2 (h x u) e.symm
theorem qsD {k w:Key} {a b:Prs} (h:∀ x∈a,KLt x.1 k) (u:∀ x∈b,KLt k x.1):cutP k (a++(k,w)::b)=a++b:=by
 rw [qkP h,show (k,w)::b=[(k,w)]++b from rfl,qjb u]
 unfold cutP
 simp
theorem qrD {k:Key} {l:Prs} (h:SortP l):SortP (cutP k l):=List.Pairwise.sublist (List.Sublist.map _ filter_sublist) h
theorem qjw {k:Key} {l:Prs} {x:Key×Key}:x∈cutP k l↔x∈l/\x.1≠k:=by unfold cutP; rw [mem_filter]; simp
theorem SortP.app {a b:Prs}:SortP (a++b)↔SortP a/\SortP b/\∀ x∈a,∀ y∈b,KLt x.1 y.1:=by
 unfold SortP Rising keysP
 rw [xM,pairwise_append]
 constructor
 ·rintro ⟨h,u,A⟩
  exact ⟨h,u,fun x C y E=>A _ (zY C) _ (zY E)⟩
 ·rintro ⟨h,u,A⟩
  refine ⟨h,u,fun a G b I=>?_⟩
  obtain ⟨x,C,rfl⟩:=mem_map.1 G
  obtain ⟨y,E,rfl⟩:=mem_map.1 I
  exact A x C y E
theorem qbI {l:Prs} {k:Key} (u:SortP l):(∀ x∈l.take (placeV (keysP l) k),KLt x.1 k)/\∀ x∈l.drop (placeV (keysP l) k),KLe k x.1:=by
 refine ⟨fun x h=>qnp (l:=keysP l) ?_,fun x h=>qmG (l:=keysP l) u ?_⟩
 ·rw [<- xO]; exact zY h
 ·rw [<- xP]; exact zY h
theorem qpQ {l:Prs} {k v:Key} (K:SortP l):insP k v l=if (keysP l)[placeV (keysP l) k]?=some k then l.set (placeV (keysP l) k) (k,v) else l.take (placeV (keysP l) k)++[(k,v)]++l.drop (placeV (keysP l) k):=by
 obtain ⟨C,O⟩:=qbI (k:=k) K
 have E:SortP (l.drop (placeV (keysP l) k)):=by unfold SortP keysP; rw [xP]; exact Rising.drop K _
 generalize hi:placeV (keysP l) k=i at C O E
 have G:l=l.take i++l.drop i:=(xD i l).symm
 cases e:l.drop i with
 | nil=>
  have Q:l.length<=i:=drop_eq_nil_iff.1 e
  rw [if_neg (by rw [yR (by rw [zK]; exact Q)]; simp)]
  conv=>lhs; rw [G,e]
  rw [qcH C]
  simp [insP]
 | cons x r=>
  have R:=O x (by rw [e]; simp)
  have u:i<l.length:=by
   rcases Nat.lt_or_ge i l.length with h | h
   ·exact h
   ·rw [vE h] at e; cases e
  have U:l[i]=x:=by
   have:=zX u
   rw [e] at this
   exact (vC this).1.symm
  have V:l.drop (i+1)=r:=by
   have:=zX u
   rw [e] at this
   exact (vC this).2.symm
  have I:(keysP l)[i]?=some x.1:=by rw [zQ,zA u,U]; rfl
  rw [I]
  by_cases hk:x.1=k
  ·rw [if_pos (by rw [hk])]
   conv=>lhs; rw [G,e]
   obtain ⟨a,w⟩:=x
   dsimp only at hk
   subst hk
   rw [qsJ C,set_eq_take_append_cons_drop,if_pos u,V]
  ·rw [if_neg (fun h=>hk (yN h))]
   have A:KLt k x.1:=by
    rcases qfw.1 R with h | h
    ·exact absurd h hk
    ·exact h
   conv=>lhs; rw [G,e]
   rw [qrR C]
   ·simp
   ·intro y J
    rcases zG.1 J with rfl | J
    ·exact A
    ·rw [e] at E
     exact qau A (qbn (x:=x.1) (r:=keysP r) E y.1 (zY J))
theorem qbN {l:Prs} {k:Key} (C:SortP l):(keysP l)[placeV (keysP l) k]?=some k↔k∈keysP l:=by
 constructor
 ·exact fun h=>yE h
 ·intro I
  obtain ⟨J,K⟩:=qbI (k:=k) C
  obtain ⟨x,A,rfl⟩:=mem_map.1 I
  have u:x∈l.drop (placeV (keysP l) x.1):=by
   rw [<- xD (placeV (keysP l) x.1) l,zD] at A
   rcases A with A | A
   ·exact absurd (J x A) qax
   ·exact A
  have E:SortP (l.drop (placeV (keysP l) x.1)):=by unfold SortP keysP; rw [xP]; exact Rising.drop C _
  cases e:l.drop (placeV (keysP l) x.1) with
  | nil=>rw [e] at u; cases u
  | cons y r=>
   have O:=K y (by rw [e]; simp)
   rw [e] at u E
   have Q:y.1=x.1:=by
    rcases zG.1 u with rfl | u
    ·rfl
    ·exact absurd (qbn (x:=y.1) (r:=keysP r) E x.1 (zY u)) O
   have G:(l.drop (placeV (keysP l) x.1))[0]?=some y:=by rw [e]; rfl
   rw [yZ] at G
   rw [zQ,show l[placeV (keysP l) x.1]?=some y by simpa using G,<- Q]
   rfl
theorem qj6 {l:Prs} {k:Key} (A:SortP l) (I:k∈keysP l):cutP k l=l.take (placeV (keysP l) k)++l.drop (placeV (keysP l) k+1):=by
 have u:=(qbN A).2 I
 obtain ⟨G,J⟩:=qbI (k:=k) A
 generalize placeV (keysP l) k=i at G J u
 have h:i<l.length:=by
  have:=(zP.1 u).1
  simpa using this
 have K:l=l.take i++l[i]::l.drop (i+1):=by rw [<- zX h,xD]
 have C:l[i].1=k:=by
  rw [zQ,zA h] at u
  exact yN u
 have E:SortP (l.drop i):=by unfold SortP keysP; rw [xP]; exact Rising.drop A _
 rw [zX h] at E
 conv=>lhs; rw [K]
 obtain ⟨a,w,e⟩:∃ a w,l[i]=(a,w):=⟨_,_,rfl⟩
 rw [e] at C E ⊢
 dsimp only at C
 subst C
 exact qsD G fun y O=>qbn (x:=a) (r:=keysP (l.drop (i+1))) E y.1 (zY O)
theorem qr6 {a b:Int} (h:IsB [a,b]):be (getV [a,b]) 2=[a,b]/\getV [a,b]=a*256+b:=by
 have u:=h a (by simp)
 have A:=h b (by simp)
 have e:getV [a,b]=a*256+b:=by
  rw [qga h (zO rfl)]
  show ((0*256+a)*256+b)=_
  omega
 refine ⟨?_,e⟩
 rw [e,be2 (by omega)]
 congr 1
 ·omega
 congr 1
 ·omega
end Go.Proofs.YtmmkegapckbomaaGreatDoor
end
section
namespace Go.Proofs.YtmmkegapckbomaaGreatDoor
open Go Go.Pt List
open Classical
structure NodeM where
 leaf:Bool
 keys:List Key
 vals:List Key
 kids:List Int
def zeroN:NodeM:=⟨false,[],[],[]⟩
def capsV (k v:Nat):Nat×Nat:=if k<1\/k>24\/v>108 then (0,0) else (498 / (k+v),(498+k) / (4+k))
def rightV (n:NodeM) (k v:Nat):Prop:=
 (∀ a∈n.keys,a.length=k)/\(∀ a∈n.vals,a.length=v)/\Rising n.keys/\
 if n.leaf then n.kids=[]/\1<=n.keys.length/\n.keys.length<=(capsV k v).1/\n.vals.length=n.keys.length
 else (∀ x∈n.kids,2<=x)/\n.vals=[]/\2<=n.kids.length/\n.kids.length<=(capsV k v).2/\n.keys.length+1=n.kids.length
def leafB (keys vals:List Key):List Int:=(keys.zip vals).flatMap fun x=>x.1++x.2
def bodyN (n:NodeM):List Int:=if n.leaf then be n.keys.length 2++leafB n.keys n.vals else be n.kids.length 2++n.kids.flatMap (fun x=>be x 4)++n.keys.flatten
def kindN (n:NodeM):Int:=if n.leaf then 3 else 4
noncomputable def writeNV (n:NodeM) (k v:Nat):Int×List Int×Int:=if rightV n k v then (kindN n,bodyN n,0) else (0,[],1)
def leafR (k v:Nat):Nat->List Int->List Key×List Key
 | 0,_=>([],[])
 | c+1,b=>(b.take k::(leafR k v c (b.drop (k+v))).1,(b.drop k).take v::(leafR k v c (b.drop (k+v))).2)
def kidsR:Nat->List Int->List Int
 | 0,_=>[]
 | c+1,b=>getV (b.take 4)::kidsR c (b.drop 4)
def keysR (k:Nat):Nat->List Int->List Key
 | 0,_=>[]
 | c+1,b=>b.take k::keysR k c (b.drop k)
def countV (b:List Int):Nat:=(b.getD 0 0*256+b.getD 1 0).toNat
def leafN (k v:Nat) (b:List Int):NodeM:=⟨true,(leafR k v (countV b) (b.drop 2)).1,(leafR k v (countV b) (b.drop 2)).2,[]⟩
def innerN (k:Nat) (b:List Int):NodeM:=⟨false,keysR k (countV b-1) ((b.drop 2).drop (countV b*4)),[],kidsR (countV b) (b.drop 2)⟩
noncomputable def readNV (kind:Int) (b:List Int) (k v:Nat):NodeM×Int:=
 if (capsV k v).1=0\/b.length<2\/b.length>500 then (zeroN,2)
 else if kind=3/\(b.drop 2).length=countV b*(k+v)/\rightV (leafN k v b) k v then (leafN k v b,0)
 else if kind=4/\1<=countV b/\(b.drop 2).length=countV b*4+(countV b-1)*k/\rightV (innerN k b) k v then (innerN k b,0)
 else (zeroN,2)
theorem qnW {kind:Int} {b:List Int} {k v:Nat} (h:(readNV kind b k v).2=0):rightV (readNV kind b k v).1 k v:=by
 unfold readNV at h ⊢
 split at h
 ·cases h
 rename_i C
 rw [if_neg C]
 split at h
 ·rename_i u; rw [if_pos u]; exact u.2.2
 rename_i u
 rw [if_neg u]
 split at h
 ·rename_i A; rw [if_pos A]; exact A.2.2.2
 ·cases h
theorem qht {k v:Nat}:∀ {keys vals:List Key},(∀ a∈keys,a.length=k)->(∀ a∈vals,a.length=v)->keys.length=vals.length->(leafB keys vals).length=keys.length*(k+v)
 | [],[],_,_,_=>by simp [leafB]
 | a::r,b::s,A,C,E=>by
  have:=qht (keys:=r) (vals:=s) (fun x u=>A x (zN _ u)) (fun x u=>C x (zN _ u)) (by simpa using E)
  unfold leafB at this ⊢
  rw [zip_cons_cons,yG,zF,zF,A a (by simp),C b (by simp),this,yH,xU]
  omega
 | [],_::_,_,_,h=>by simp at h
 | _::_,[],_,_,h=>by simp at h
theorem qoV {k v:Nat}:∀ {keys vals:List Key},(∀ a∈keys,a.length=k)->(∀ a∈vals,a.length=v)->keys.length=vals.length->leafR k v keys.length (leafB keys vals)=(keys,vals)
 | [],[],_,_,_=>rfl
 | a::r,b::s,A,C,J=>by
  have ih:=qoV (k:=k) (v:=v) (keys:=r) (vals:=s) (fun x u=>A x (zN _ u)) (fun x u=>C x (zN _ u)) (by simpa using J)
  have E:=A a (by simp)
  have G:=C b (by simp)
  have e:leafB (a::r) (b::s)=a++(b++leafB r s):=by unfold leafB; rw [zip_cons_cons,yG,zV]
  rw [yH,leafR,e]
  have e1:(a++(b++leafB r s)).take k=a:=by rw [<- E,take_left']; rfl
  have I:(a++(b++leafB r s)).drop k=b++leafB r s:=by rw [<- E,drop_left']; rfl
  have K:(a++(b++leafB r s)).drop (k+v)=leafB r s:=by rw [<- xC,I,<- G,drop_left']; rfl
  have O:(b++leafB r s).take v=b:=by rw [<- G,take_left']; rfl
  rw [K,ih,e1,I,O]
 | [],_::_,_,_,h=>by simp at h
 | _::_,[],_,_,h=>by simp at h
theorem qpi {r:List Int}:∀ {l:List Int},(∀ x∈l,0<=x/\x<4294967296)->kidsR l.length (l.flatMap (fun x=>be x 4)++r)=l
 | [],_=>rfl
 | a::l,h=>by
  have ih:=qpi (r:=r) (l:=l) fun x A=>h x (zN _ A)
  have u:=qaq a 4
  rw [yH,kidsR,yG,zV]
  generalize l.flatMap (fun x=>be x 4)++r=R at ih ⊢
  have e1:(be a 4++R).take 4=be a 4:=take_left' u
  have C:(be a 4++R).drop 4=R:=drop_left' u
  rw [e1,C,ih,qjn (h a (by simp))]
theorem qpc {k:Nat}:∀ {l:List Key},(∀ a∈l,a.length=k)->keysR k l.length l.flatten=l
 | [],_=>rfl
 | a::l,h=>by
  have ih:=qpc (k:=k) (l:=l) fun x A=>h x (zN _ A)
  have u:=h a (by simp)
  rw [yH,keysR,flatten_cons]
  have e1:(a++l.flatten).take k=a:=by rw [<- u]; exact take_left
  have C:(a++l.flatten).drop k=l.flatten:=by rw [<- u]; exact drop_left
  rw [e1,C,ih]
theorem qhZ (l:List Int):(l.flatMap fun x=>be x 4).length=l.length*4:=by
 induction l with
 | nil=>rfl
 | cons a l ih=>rw [yG,zF,ih,qaq,yH]; omega
theorem qg5 {k:Nat}:∀ {l:List Key},(∀ a∈l,a.length=k)->l.flatten.length=l.length*k
 | [],_=>by simp
 | a::l,h=>by rw [flatten_cons,zF,qg5 fun x u=>h x (zN _ u),h a (by simp),yH,xU]; omega
theorem ql0 {n:Nat} (h:n<65536) (r:List Int):countV (be (n:Int) 2++r)=n:=by
 have C:=qaq (n:Int) 2
 obtain ⟨a,b,e⟩:∃ a b,be (n:Int) 2=[a,b]:=by
  match be (n:Int) 2,C with
  | [a,b],_=>exact ⟨a,b,rfl⟩
 have u:=qbt (n:Int) 2
 have A:=qnv (n:=(n:Int)) ⟨by omega,by omega⟩
 rw [e] at u A
 have:=(qr6 u).2
 rw [A] at this
 unfold countV
 rw [e]
 show (a*256+b).toNat=n
 omega
theorem qoN {n:Int} {r:List Int}:(be n 2++r).drop 2=r:=by
 have:=drop_left (l₁:=be n 2) (l₂:=r)
 rw [qaq] at this
 exact this
theorem qiD (a b:Nat):a / b*b<=a:=Nat.div_mul_le_self a b
theorem qrK {k v c:Nat} (h:c<=(capsV k v).1):c*(k+v)<=498:=by
 unfold capsV at h
 split at h
 ·rw [show c=0 from Nat.le_zero.1 h]; omega
 ·exact zL (Nat.mul_le_mul_right _ h) (qiD _ _)
theorem qqb {k v c:Nat} (h:c<=(capsV k v).2):c*4+(c-1)*k<=498:=by
 unfold capsV at h
 split at h
 ·rw [show c=0 from Nat.le_zero.1 h]; omega
 ·have u:c*(4+k)<=498+k:=zL (Nat.mul_le_mul_right _ h) (qiD _ _)
  cases c with
  | zero=>omega
  | succ c=>
   rw [Nat.add_sub_cancel]
   rw [xU,Nat.mul_add] at u
   rw [xU]
   omega
theorem qfc {k v:Nat}:(capsV k v).1<=498/\(capsV k v).2<=498:=by
 unfold capsV
 split
 ·exact ⟨by decide,by decide⟩
 ·exact ⟨Nat.div_le_self _ _,Nat.div_le_of_le_mul (by
   have:(498+k)<=(4+k)*498:=by rw [xU]; omega
   exact this)⟩
theorem qem {n:NodeM} {k v:Nat} (h:rightV n k v):2<=(bodyN n).length/\(bodyN n).length<=500:=by
 obtain ⟨A,E,G,u⟩:=h
 unfold bodyN
 cases C:n.leaf with
 | true=>
  rw [C,if_pos rfl] at u
  rw [if_pos rfl,zF,qaq,qht A E u.2.2.2.symm]
  have:=qrK u.2.2.1
  omega
 | false=>
  rw [C,if_neg (by decide)] at u
  rw [if_neg (by decide),zF,zF,qaq,qhZ,qg5 A]
  have:=qqb u.2.2.2.1
  have e:n.keys.length=n.kids.length-1:=by omega
  rw [e]
  omega
theorem qnq {n:NodeM}:(⟨n.leaf,n.keys,n.vals,n.kids⟩:NodeM)=n:=rfl
theorem qpw {n:NodeM} {k v:Nat} (h:rightV n k v) (hk:∀ x∈n.kids,x<4294967296):readNV (kindN n) (bodyN n) k v=(n,0):=by
 have O:=qem h
 have Q:=h
 obtain ⟨J,R,h3,E⟩:=h
 have ab:=(qfc (k:=k) (v:=v))
 unfold readNV
 cases C:n.leaf with
 | true=>
  rw [C,if_pos rfl] at E
  have u:countV (bodyN n)=n.keys.length:=by unfold bodyN; rw [C,if_pos rfl]; exact ql0 (by omega) _
  have A:(bodyN n).drop 2=leafB n.keys n.vals:=by unfold bodyN; rw [C,if_pos rfl]; exact qoN
  have G:leafN k v (bodyN n)=n:=by
   unfold leafN
   rw [u,A,qoV J R E.2.2.2.symm]
   rw [<- qnq (n:=n),C,E.1]
  rw [if_neg (by omega),if_pos ⟨by unfold kindN; rw [C]; rfl,by rw [u,A,qht J R E.2.2.2.symm],by rw [G]; exact Q⟩,G]
 | false=>
  rw [C,if_neg (by decide)] at E
  have U:bodyN n=be n.kids.length 2++(n.kids.flatMap (fun x=>be x 4)++n.keys.flatten):=by unfold bodyN; rw [C,if_neg (by decide),zV]
  have u:countV (bodyN n)=n.kids.length:=by rw [U]; exact ql0 (by omega) _
  have A:(bodyN n).drop 2=n.kids.flatMap (fun x=>be x 4)++n.keys.flatten:=by rw [U]; exact qoN
  have I:n.keys.length=n.kids.length-1:=by omega
  have G:innerN k (bodyN n)=n:=by
   unfold innerN
   have e:(n.kids.flatMap (fun x=>be x 4)++n.keys.flatten).drop (n.kids.length*4)=n.keys.flatten:=by rw [<- qhZ]; exact drop_left
   rw [u,A,qpi fun x V=>⟨by have:=E.1 x V; omega,hk x V⟩,e,<- I,qpc J]
   rw [<- qnq (n:=n),C,E.2.1]
  have ac:1<=(capsV k v).1:=by
   have K:=E.2.2.2.1
   have h6:=E.2.2.1
   unfold capsV at K ⊢
   by_cases hc:k<1\/k>24\/v>108
   ·rw [if_pos hc] at K
    have h8:n.kids.length<=0:=K
    omega
   ·rw [if_neg hc]
    have h7:k+v<=498:=by omega
    exact (Nat.le_div_iff_mul_le (show 0<k+v by omega)).2 (by rw [Nat.one_mul]; exact h7)
  rw [if_neg (by omega),if_neg (fun h=>by unfold kindN at h; rw [C] at h; exact absurd h.1 (by decide)),if_pos ⟨by unfold kindN; rw [C]; rfl,by rw [u]; omega,by rw [u,A,zF,qhZ,qg5 J,I],by rw [G]; exact Q⟩,G]
theorem IsB.flat {l:List Key} (h:∀ a∈l,IsB a):IsB l.flatten:=fun x u=>by
 obtain ⟨a,A,u⟩:=mem_flatten.1 u
 exact h a A x u
theorem qlJ {n:NodeM} (u:∀ a∈n.keys,IsB a) (C:∀ a∈n.vals,IsB a):IsB (bodyN n):=by
 unfold bodyN
 split
 ·refine (qbt _ _).append fun x h=>?_
  obtain ⟨y,E,h⟩:=yJ.1 h
  have A:=of_mem_zip (a:=y.1) (b:=y.2) E
  rcases zD.1 h with h | h
  ·exact u _ A.1 x h
  ·exact C _ A.2 x h
 ·refine ((qbt _ _).append fun x h=>?_).append (IsB.flat u)
  obtain ⟨y,_,h⟩:=yJ.1 h
  exact qbt _ _ x h
end Go.Proofs.YtmmkegapckbomaaGreatDoor
end
section
namespace Go.Pt
open Go List
variable {S:List Nat} {w0 w:World} {L:List (Nat×Obj)} {P:Program}
theorem Own.rng {v:Value} {pts:List Ty1} {body:ElR pts->(World->(WP)->Prop)->(WP)->(Nat->WP)->WP} {done:Nat->WP} {jumps:List (Nat->WP)} {f:FuncId} {lb:List Value} (h:Own S w0 w L) (hv:v=.func (.func f) #[] lb.toArray) (hb:bodyless P f=false)
  (k:∀ (D l:Nat) (R B:Obj) (J E:Nat->Obj) (E0:Obj) (w1:World),l=w.heap.size+1->D=w.heap.size->Fr [] w w1->Own S w0 w1 ((l,R)::(D,.deferred (some []))::L)->yieldsBy P pts body l R B J->
   call P f (.func (.yield l) #[] #[]::lb) [] w1 (fun _ W=>(W.heap[l]?=some R/\done D (Pt.upd W l E0))\/∃ i k,jumps[i]?=some k/\W.heap[l]?=some (J i)/\k D (Pt.upd W l (E i)))):Pt.rng P v pts body done jumps w:=by
 refine ⟨f,lb,hv,hb,fun R B J E E0 hy=>?_⟩
 have h1:=h.alloc (.deferred (some []))
 have h2:=h1.alloc R
 rw [World.size_alloc] at h2
 exact k _ _ R B J E E0 _ rfl rfl (((Fr.refl [] w).alloc _).alloc _) h2 hy
theorem Own.undefer {D:Nat} {K:WP} (h:Own S w0 w L) (i:Nat) (hi:L[i]?=some (D,.deferred (some []))) (k:∀ w',Own S w0 w' (L.set i (D,.deferred none))->K w'):Pt.undefer D w K:=
 ⟨h.at hi,k _ (Own.upd h i hi)⟩
theorem qbm {v:Value} {f:FuncId} {lb args:List Value} {ts:List Ty1} {K:ElR ts->WP} (hv:v=.func (.func f) #[] lb.toArray) (hb:bodyless P f=false) (k:call P f (args++lb) ts w K):callV P v args ts w K:=by
 subst hv
 refine .inl ⟨f,args++lb,?_,k⟩
 simp [Deferred.ofValue,invoke,qbe hb]
theorem qcf {n b off:Nat} {cs:Array Value} {T:TypeId} {fr:Nat×Nat} {K:List Value->Prop} (hb:w.heap[b]?=some (.cells cs T fr)) (x:List Value) (h1:x.length=n) (hx:(cs.toList.drop off).take n=x) (k:K x):Pt.ldV n ⟨b,off,none⟩ w K:=
 ⟨x,⟨h1,qbp hb _ off 0 (by rw [h1]; exact hx)⟩,k⟩
theorem qtX {cs:List Cell} {vs:List Value} {off:Nat} {K:HL cs->Prop} (x:HL cs) (h:vs.extract off (off+cs.length)=HL.mk cs x) (k:K x):Pt.fldA cs vs off K:=⟨x,h,k⟩
theorem qui {a:Addr} {len cap n:Nat} {K:Addr->Prop} (h:n<=len) (k:K a):s2a ⟨some a,len,cap⟩ n K:=⟨a,rfl,h,k⟩
theorem Own.newFill {t:TypeId} {vs:List Value} {n:Nat} {K:Nat->WP} (h:Own S w0 w L) (hz:((P.info? t).bind (·.zero)).map (fun z=>z.cells.size)=some n) (hn:vs.length=n) (h1:(vs.all Value.oneCell')=true)
  (k:∀ b w',b=w.heap.size->Own S w0 w' ((b,.cells vs.toArray t (0,0))::L)->K b w'):Pt.newZ P t w fun r w1=>chk (vs.length=n) (Pt.st ⟨r,0,none⟩ vs w1 fun w2=>K r w2):=by
 obtain ⟨z,hz,hzs⟩:=yS.1 hz
 refine ⟨z,hz,hn,?_⟩
 have h2:=h.alloc (.cells z.cells t)
 refine Own.st h2 0 rfl vs.toArray (qdJ (by omega)) h1 (Nat.ble_eq_true_of_le (by omega)) fun w' h3 _=>?_
 exact k _ w' rfl h3
theorem Own.newZ {t:TypeId} {zs:List Value} {K:Nat->WP} (h:Own S w0 w L) (hz:((P.info? t).bind (·.zero)).map (fun z=>z.cells.toList)=some zs)
  (k:∀ b w',b=w.heap.size->Own S w0 w' ((b,.cells zs.toArray t (0,0))::L)->K b w'):Pt.newZ P t w K:=by
 obtain ⟨z,hz,hzs⟩:=yS.1 hz
 refine ⟨z,hz,?_⟩
 have h2:=h.alloc (.cells z.cells t)
 have e:zs.toArray=z.cells:=by rw [<- hzs]
 rw [<- e] at h2 ⊢
 exact k _ _ rfl h2
theorem qn6 {zero:List Value} {k:Nat} (hk:zero.length=k) (n:Nat):(mkCells (if n*k=0 then [] else zero) (n*k)).toList=(List.replicate n zero).flatten:=by
 by_cases h0:n*k=0
 ·rw [if_pos h0,h0]
  rcases Nat.mul_eq_zero.1 h0 with h | h
  ·subst h; simp [mkCells]
  ·have:zero=[]:=eq_nil_of_length_eq_zero (by omega)
   subst this
   simp [mkCells]
 ·rw [if_neg h0]
  have hpos:0<k:=Nat.pos_of_ne_zero fun e=>h0 (by rw [e]; simp)
  apply ext_getElem?
  intro i
  have hlen:∀ n,((List.replicate n zero).flatten).length=n*k:=by intro n; simp [hk]
  have key:∀ n i,i<n*k->((List.replicate n zero).flatten)[i]?=zero[i%k]?:=by
   intro n
   induction n with
   | zero=>intro i hi; simp at hi
   | succ n ih=>
    intro i hi
    rw [Nat.succ_mul] at hi
    rw [replicate_succ,flatten_cons]
    by_cases hik:i<k
    ·rw [yY (by omega),Nat.mod_eq_of_lt hik]
    ·rw [yX (by omega),hk,ih (i-k) (by omega)]
     congr 1
     exact (Nat.mod_eq_sub_mod (by omega)).symm
  have hl2:=hlen n
  have hsz:(mkCells zero (n*k)).toList.length=n*k:=by simp [mkCells]
  by_cases hi:i<n*k
  ·rw [key n i hi]
   have hlt:i%k<zero.length:=by rw [hk]; exact Nat.mod_lt _ hpos
   have h1:(mkCells zero (n*k)).toList[i]?=some (zero.toArray[i%zero.toArray.size]!):=by
    simp [mkCells,hi]
   rw [h1,zA hlt]
   simp [hk,zA hlt]
  ·rw [yR (by rw [hsz]; omega),yR (by rw [hl2]; omega)]
theorem Own.mkN {el:TypeId} {zero:List Value} {size bytes:Nat} {l c:Int} {K:Sl->WP} (h:Own S w0 w L) (hk:zero.length=size) (h0:0<=l) (h1:l<=c) (h2:(bytes:Int)*c<=2^48) (h3:c<=2^48)
  (k:∀ b w',b=w.heap.size->Own S w0 w' ((b,.cells ((List.replicate c.toNat zero).flatten).toArray el (0,0))::L)->K ⟨some ⟨b,0,none⟩,l.toNat,c.toNat⟩ w'):mkS el zero size bytes l c w K:=by
 refine ⟨⟨h0,h1,h2,h3⟩,?_⟩
 have e:=qn6 hk c.toNat
 have e':mkCells (if c.toNat*size=0 then [] else zero) (c.toNat*size)=((List.replicate c.toNat zero).flatten).toArray:=by
  apply Array.ext'
  rw [e]
 rw [e']
 exact k _ _ rfl (h.alloc _)
theorem Own.new' {o:Obj} {K:Nat->WP} (h:Own S w0 w L) (k:∀ b w',b=w.heap.size->Fr [] w w'->Own S w0 w' ((b,o)::L)->K b w'):Pt.new o w K:=
 k _ _ rfl ((Fr.refl [] w).alloc o) (h.alloc o)
theorem Own.st' {b off:Nat} {cs:Array Value} {T:TypeId} {vs:List Value} {K:WP} (h:Own S w0 w L) (i:Nat) (hi:L[i]?=some (b,.cells cs T (0,0))) (cs':Array Value) (hcs:splice cs off vs=cs') (h1:(vs.all Value.oneCell')=true) (hl:off+vs.length<=cs.size)
  (k:∀ w',Own S w0 w' (L.set i (b,.cells cs' T (0,0)))->Fr [b] w w'->K w'):Pt.st ⟨b,off,none⟩ vs w K:=
 qhe (w:=w) vs off 0 cs w K (h.at hi) h1 hl (k _ (by rw [xS,hcs]; exact Own.upd h i hi) (qba (qab (h.at hi)) _))
theorem Own.sz {b off:Nat} {cs:Array Value} {T:TypeId} {vs:List Value} {K:WP} (h:Own S w0 w L) (i:Nat) (hi:L[i]?=some (b,.cells cs T (0,0))) (cs':Array Value)
  (k:∀ w',Own S w0 w' (L.set i (b,.cells cs' T (0,0)))->Fr [b] w w'->K w') (hcs:splice cs off vs=cs':=by rfl) (h1:(vs.all Value.oneCell')=true:=by rfl) (hl:off+vs.length<=cs.size:=by exact zO rfl):Pt.st ⟨b,off,none⟩ vs w K:=h.st' i hi cs' hcs h1 hl k
theorem qbY {b off:Nat} {cs:Array Value} {T:TypeId} {vs:List Value} {K:WP} (hb:w.heap[b]?=some (.cells cs T (0,0))) (cs':Array Value) (hcs:splice cs off vs=cs') (h1:(vs.all Value.oneCell')=true) (hl:off+vs.length<=cs.size)
  (k:∀ w',w'.heap[b]?=some (.cells cs' T (0,0))->Fr [b] w w'->K w'):Pt.st ⟨b,off,none⟩ vs w K:=
 qhe (w:=w) vs off 0 cs w K hb h1 hl (k _ (by rw [xS,hcs,qay _ _ _ _ (qab hb),if_pos rfl]) (qba (qab hb) _))
theorem Own.rebase (h:Own S w0 w L):Own (L.map (·.1)) w w L:=⟨h.blk,h.nodup,.refl _ _,fun p hp=>.inl (zY hp)⟩
theorem Own.rebaseS (h:Own S w0 w L) (T:List Nat):Own (L.map (·.1)++T) w w L:=⟨h.blk,h.nodup,.refl _ _,fun p hp=>.inl (zH _ (zY hp))⟩
theorem Own.backS {w':World} {T:List Nat} (h:Own S w0 w L) (hT:∀ b∈T,b∈S\/w0.heap.size<=b) (f:Fr (L.map (·.1)++T) w w'):Fr S w0 w':=
 h.fr.trans' f fun b hb=>by
  rcases zD.1 hb with hb | hb
  ·obtain ⟨p,hp,rfl⟩:=mem_map.1 hb
   exact h.own p hp
  ·exact hT b hb
theorem Own.rejoin {w':World} {T:List Nat} {L':List (Nat×Obj)} (h:Own S w0 w L) (hT:∀ b∈T,b∈S\/w0.heap.size<=b) (k:Own (L.map (·.1)++T) w w' L'):Own S w0 w' L':=
 ⟨k.blk,k.nodup,h.backS hT k.fr,fun p hp=>by
  rcases k.own p hp with hb | hb
  ·rcases zD.1 hb with hb | hb
   ·obtain ⟨q,hq,hqe⟩:=mem_map.1 hb
    rw [<- hqe]; exact h.own q hq
   ·exact hT _ hb
  ·exact .inr (zL h.fr.size hb)⟩
theorem Own.back {w':World} {L':List (Nat×Obj)} (h:Own S w0 w L) (f:Fr (L.map (·.1)) w w'):Fr S w0 w':=
 h.fr.trans' f fun b hb=>by
  obtain ⟨p,hp,rfl⟩:=mem_map.1 hb
  exact h.own p hp
def fieldsOf (P:Program) (t:TypeId):Array Field:=match P.underlying t with | some (.struct fs)=>fs | _=>#[]
theorem qpF {t:TypeId} {z a b:Value} {o1 s0 s1:Nat} (hz:(P.info? t).bind (·.zero)=some z) (hu:P.underlying t=some (.struct (fieldsOf P t))) (hpl:∀ w,((fieldsOf P t).mapM fun f=>do pure (f.offset,<- sizeOf f.type):Sem (Array (Nat×Nat))).run P w=.ok #[(0,s0),(o1,s1)] w)
  (ha:a.cells.size=s0) (hb:b.cells.size=s1) (ho:o1=s0) (hs:z.cells.size=s0+s1) (w:World):(Instr.build t #[(0,a),(1,b)]).run P w=.ok (.agg (a.cells.toList++b.cells.toList).toArray) w:=by
 have h1:=qfN 0 a.cells z.cells
 have h2:=qfN o1 b.cells (splice z.cells 0 a.cells.toList)
 have key:Instr.fill ((#[(0,s0),(o1,s1)]:Array (Nat×Nat))[·]?) z.cells [(0,a),(1,b)]=some (a.cells.toList++b.cells.toList).toArray:=by
  have e0:(#[(0,s0),(o1,s1)]:Array (Nat×Nat))[0]?=some (0,s0):=rfl
  have e1:(#[(0,s0),(o1,s1)]:Array (Nat×Nat))[1]?=some (o1,s1):=rfl
  simp only [Instr.fill,e0,e1]
  have c1:¬ (decide (a.cells.size≠s0)||decide (0+a.cells.size>z.cells.size))=true:=by simp [ha]; omega
  have c2:¬ (decide (b.cells.size≠s1)||decide (o1+b.cells.size>(splice z.cells 0 a.cells.toList).size))=true:=by simp [hb,qao]; omega
  rw [if_neg c1,h1,if_neg c2,h2]
  congr 1
  apply Array.ext'
  rw [qas _ _ _ (by rw [qao,Array.length_toList]; omega),qas _ _ _ (by rw [Array.length_toList]; omega)]
  have hal:a.cells.toList.length=o1:=by rw [Array.length_toList]; omega
  simp only [take_zero,xH,xR]
  rw [take_append_of_le_length (by omega),zS (by omega),drop_of_length_le (by simp; omega),xG]
 simp only [Instr.build,Sem.run_bind,qaH hz,Result.andThen_ok,run_underlying hu,hpl,key,Sem.run_pure]
theorem Rds.getV {α:Type} {enc:α->List Value} {k:Nat} {S:List Nat} {w:World} {s:Sl} {l:List α} (h:Rds enc k S w s l) (henc:∀ x,(enc x).length=k) (n:Nat) {i:Int} {x:α} {K:List Value->Prop} (hi:i=n) (hx:l[n]?=some x) (kk:K (enc x)):idx s i k fun a=>Pt.ldV k a w K:=by
 subst hi
 obtain ⟨hn,b,o,ha,_,cs,T,fr,hb,hc⟩:=h.at n hx
 refine qa0 ha ⟨by omega,by omega⟩ ?_
 rw [zJ]
 exact qcf hb _ (henc x) hc kk
theorem qoo {α:Type} {enc:α->List Value} {k:Nat} (henc:∀ x,(enc x).length=k):∀ (l:List α) (i:Nat) (x:α),i<l.length->splice (l.flatMap enc).toArray (i*k) (enc x)=((l.set i x).flatMap enc).toArray:=by
 intro l i x hi
 have hsplit:l=l.take i++l[i]::l.drop (i+1):=by rw [<- zX hi,xD]
 have hset:l.set i x=l.take i++x::l.drop (i+1):=by rw [set_eq_take_append_cons_drop,if_pos hi]
 have hlen:((l.take i).flatMap enc).length=i*k:=by rw [qaC henc,yK,xQ (by omega)]
 have e1:l.flatMap enc=(l.take i).flatMap enc++enc l[i]++(l.drop (i+1)).flatMap enc:=by
  conv=>lhs; rw [hsplit]
  rw [yP,yG,zV]
 have e2:(l.set i x).flatMap enc=(l.take i).flatMap enc++enc x++(l.drop (i+1)).flatMap enc:=by
  rw [hset,yP,yG,zV]
 rw [e1,e2]
 generalize (l.take i).flatMap enc=A at hlen
 generalize hX:enc l[i]=X
 have hXl:X.length=(enc x).length:=by rw [<- hX,henc,henc]
 generalize (l.drop (i+1)).flatMap enc=Z
 apply Array.ext'
 rw [qas _ _ _ (by simp; omega)]
 rw [<- hlen]
 have h1:(A++X++Z).take A.length=A:=by rw [zV,take_append_of_le_length (zM _),zS (zM _)]
 have h2:(A++X++Z).drop (A.length+(enc x).length)=Z:=by
  rw [<- hXl,<- zF,drop_append_of_le_length (zM _),drop_of_length_le (zM _),xH]
 rw [h1,h2]
end Go.Pt
end
section
set_option maxRecDepth 100000
namespace Go.Proofs.YtmmkegapckbomaaGreatDoor
open Go Go.Pt
def qfH (free:Int) (K:Int->WP) (w:World):Prop:=cond (decide (free<1)) (K 0 w) (K (IntKind.wrap .i64 (IntKind.wrap .i64 (Int.tdiv (IntKind.wrap .i64 (free-1)) 124)+1)) w)
theorem qjy {free w K} (hF:qfH free K w):cW 101 [.i free] [.one .i] w K:=qad (an:=[.n,.n,.n,.n,.n]) Tryz.func101 hF
def qey (l:Sl) (K:Bool->WP) (w:World):Prop:=loop (Int×Int) (fun a (b:Int×Int) c=>cond (decide (b.snd<(↑l.len:Int))) (idx l b.snd 1 fun d=>ld .u d c fun (e:Int)=>cond (decide (e<=b.fst)) (K false c) (a ((e,IntKind.wrap .i64 (b.snd+1))) c)) (K true c)) ((1,0)) w
theorem qin {l w K} (hF:qey l K w):cW 164 [l.v] [.one .bool] w K:=qad (an:=[.n,.n,.n,.n,.l [(3,.one .u),(8,.one .i)],.n,.n,.n,.n,.n,.n,.n,.n]) Tryz.func164 hF
def qgB (b:Sl) (n:Int) (K:Sl->WP) (w:World):Prop:=new (Obj.cells #[.b (IntKind.wrap .u8 (Int.fdiv n (2^24))),.b (IntKind.wrap .u8 (Int.fdiv n (2^16))),.b (IntKind.wrap .u8 (Int.fdiv n (2^8))),.b (IntKind.wrap .u8 n)] 5) w fun c d=>run [.one .slice] ((Builtin.append_ (#[23,23]) 23 (#[b.v,.slice (pW c) 4 4])).run Tryz.prog d) fun e f=>K e f
theorem qkC {b n w K} (hF:qgB b n K w):cW 166 [b.v,.u n] [.one .slice] w K:=qad (an:=[.n,.n]) Tryz.func166 hF
def qeG (l:Sl) (pages:Int) (K:Value->WP) (w:World):Prop:=new (Obj.cells #[l.v] 92) w fun b c=>new (Obj.cells #[.i pages] 3) c fun d e=>K (Value.func (Fn.func 208) #[] #[.pointer (pW d),.pointer (pW b)]) e
theorem qiy {l pages w K} (hF:qeG l pages K w):cW 165 [l.v,.i pages] [.one .any] w K:=qad (an:=[.n,.n]) Tryz.func165 hF
def qdk (yield:Value) (cap0:Addr) (cap1:Addr) (K:Unit->WP) (w:World):Prop:=ld .i cap0 w fun (b:Int)=>loop (Int) (fun c (d:Int) e=>cond (decide (d<b)) (ld .slice cap1 e fun f=>ld .slice cap1 e fun g=>slc g none (some (if 123<(↑f.len:Int) then 123 else (↑f.len:Int))) none 1 fun h=>callV Tryz.prog yield ([.i d,h.v]) ([.one .bool]) e fun (i:Bool) j=>cond (!i) (K () j) (ld .slice cap1 j fun k=>slc k (some (if 123<(↑f.len:Int) then 123 else (↑f.len:Int))) none none 1 fun l=>st cap1 ([l.v]) j fun m=>c (IntKind.wrap .i64 (d+1)) m)) (K () e)) 0 w
theorem qgs {yield cap0 cap1 w K} (hF:qdk yield cap0 cap1 K w):cW 208 [yield,.pointer (some cap0),.pointer (some cap1)] [] w K:=qad (an:=[.n,.l [(7,.one .i)],.n,.n,.n,.n,.n,.n,.n]) Tryz.func208 hF
def qd5 (numbers:Sl) (pages:Sl) (K:(Sl×Int)->WP) (w:World):Prop:=new (Obj.cells #[pages.v] 92) w fun b c=>join (Bool) (fun d=>cW 164 ([numbers.v]) ([.one .bool]) c fun (e:Bool) f=>cond (!e) (d true f) (ld .slice ⟨b,0,none⟩ f fun g=>d (decide ((↑numbers.len:Int)>IntKind.wrap .i64 (123*(↑g.len:Int)))) f)) fun (h:Bool) i=>cond h (K (({ a:=none,len:=0,cap:=0 },1)) i) (ld .slice ⟨b,0,none⟩ i fun j=>loop (Sl×Int×Int) (fun k (l:Sl×Int×Int) m=>cond (decide (l.snd.snd<(↑j.len:Int))) (idx j l.snd.snd 1 fun n=>ld .u n m fun (o:Int)=>cond (decide (o<2)) (K (({ a:=none,len:=0,cap:=0 },1)) m) (k ((l.fst,l.snd.fst,IntKind.wrap .i64 (l.snd.snd+1))) m)) (new (Obj.cells #[.slice none 0 0] 22) m fun p q=>ld .slice ⟨b,0,none⟩ q fun r=>cW 165 ([numbers.v,.i (↑r.len:Int)]) ([.one .any]) q fun (s:Value) t=>rng Tryz.prog s [.one .i,.one .slice] (fun (u:Int×Sl) (v:World->(WP)->Prop) (x:WP) y z=>v z fun A=>join (Int) (fun B=>ld .slice ⟨b,0,none⟩ A fun C=>cond (decide (IntKind.wrap .i64 (u.fst+1)<(↑C.len:Int))) (ld .slice ⟨b,0,none⟩ A fun D=>idx D (IntKind.wrap .i64 (u.fst+1)) 1 fun E=>ld .u E A fun (F:Int)=>B F A) (B 0 A)) fun (G:Int) H=>cW 166 ([.slice none 0 0,.u G]) ([.one .slice]) H fun I J=>new (Obj.cells #[.b (IntKind.wrap .u8 (Int.fdiv ((↑u.snd.len:Int)) (2^8))),.b (IntKind.wrap .u8 (↑u.snd.len:Int))] 5) J fun L M=>run [.one .slice] ((Builtin.append_ (#[23,23]) 23 (#[I.v,.slice (pW L) 2 2])).run Tryz.prog M) fun N O=>loop (Sl×Int) (fun P (Q:Sl×Int) R=>cond (decide (Q.snd<(↑u.snd.len:Int))) (idx u.snd Q.snd 1 fun S=>ld .u S R fun (T:Int)=>cW 166 ([Q.fst.v,.u T]) ([.one .slice]) R fun U V=>P ((U,IntKind.wrap .i64 (Q.snd+1))) V) (ld .slice ⟨p,0,none⟩ R fun W=>new (Obj.cells #[Q.fst.v] 23) R fun X Y=>run [.one .slice] ((Builtin.append_ (#[22,22]) 22 (#[W.v,.slice (pW X) 1 1])).run Tryz.prog Y) fun Z aa=>st ⟨p,0,none⟩ ([Z.v]) aa fun ab=>x ab)) ((N,0)) O) (fun ac ad=>ld .slice ⟨p,0,none⟩ ad fun ae=>undefer ac ad fun af=>K ((ae,0)) af) [] t)) (({ a:=none,len:=0,cap:=0 },0,0)) i)
theorem qhw {numbers pages w K} (hF:qd5 numbers pages K w):cW 132 [numbers.v,pages.v] [.one .slice,.one .i] w K:=qnn (an:=[.n,.n,.j [(25,.one .bool)],.n,.n,.n,.l [(4,.one .slice),(5,.one .i),(28,.one .i)],.n,.n,.n,.n,.n,.n,.n,.n,.n,.r [.one .i,.one .slice],.n,.n,.j [(11,.one .u)],.n,.n,.n,.n,.l [(12,.one .slice),(64,.one .i)],.n,.n,.n,.n,.n]) Tryz.func132 hF
def qgD (b:Sl) (K:Int->WP) (w:World):Prop:=idx b 0 1 fun a=>ld .b a w.drew fun (c:Int)=>idx b 1 1 fun d=>ld .b d w.drew fun (e:Int)=>idx b 2 1 fun f=>ld .b f w.drew fun (g:Int)=>idx b 3 1 fun h=>ld .b h w.drew fun (i:Int)=>K (bits BinOp.or IntKind.u32 (bits BinOp.or IntKind.u32 (bits BinOp.or IntKind.u32 (IntKind.wrap .u32 (IntKind.wrap .u32 c*2^24)) (IntKind.wrap .u32 (IntKind.wrap .u32 e*2^16))) (IntKind.wrap .u32 (IntKind.wrap .u32 g*2^8))) (IntKind.wrap .u32 i)) w.drew
theorem qkL {b w K} (hF:qgD b K w):cW 163 [b.v] [.one .u] w K:=qad (an:=[.n,.n,.o [[0,1,2,3,4,5,6,7,8,9,10,11,12,13,14,15,16,17,18,19,20,21,22]]]) Tryz.func163 hF
def qep (body:Sl) (K:(Int×Sl×Int)->WP) (w:World):Prop:=cond (decide ((↑body.len:Int)<6)) (K ((0,{ a:=none,len:=0,cap:=0 },2)) w) (idx body 4 1 fun b=>ld .b b w.drew fun (c:Int)=>idx body 5 1 fun d=>ld .b d w.drew fun (e:Int)=>cW 163 ([body.v]) ([.one .u]) w.drew fun (f:Int) g=>held [cEl d (.b e),cEl b (.b c)] g<|join (Bool) (fun j=>cond (f==1) (j true g) (cond (decide (bits BinOp.or IntKind.i64 (IntKind.wrap .i64 (IntKind.wrap .i64 c*2^8)) (IntKind.wrap .i64 e)>123)) (j true g) (j (!(↑body.len:Int)==IntKind.wrap .i64 (6+IntKind.wrap .i64 (4*bits BinOp.or IntKind.i64 (IntKind.wrap .i64 (IntKind.wrap .i64 c*2^8)) (IntKind.wrap .i64 e)))) g))) fun (k:Bool) l=>cond k (K ((0,{ a:=none,len:=0,cap:=0 },2)) l) (loop (Sl×Int) (fun m (n:Sl×Int) o=>cond (decide (n.snd<bits BinOp.or IntKind.i64 (IntKind.wrap .i64 (IntKind.wrap .i64 c*2^8)) (IntKind.wrap .i64 e))) (slc body (some (IntKind.wrap .i64 (6+IntKind.wrap .i64 (4*n.snd)))) none none 1 fun p=>cW 163 ([p.v]) ([.one .u]) o fun (q:Int) r=>new (Obj.cells #[.u q] 37) r fun s t=>run [.one .slice] ((Builtin.append_ (#[92,92]) 92 (#[n.fst.v,.slice (pW s) 1 1])).run Tryz.prog t) fun u v=>m ((u,IntKind.wrap .i64 (n.snd+1))) v) (cW 164 ([n.fst.v]) ([.one .bool]) o fun (x:Bool) y=>cond (!x) (K ((0,{ a:=none,len:=0,cap:=0 },2)) y) (K ((f,n.fst,0)) y))) (({ a:=none,len:=0,cap:=0 },0)) l))
theorem qio {body w K} (hF:qep body K w):cW 130 [body.v] [.one .u,.one .slice,.one .i] w K:=qad (an:=[.n,.n,.n,.n,.n,.o [[0,2,3,4,5,6,7,8,9,10,11,1,12,13]],.n,.j [(37,.one .bool)],.n,.n,.n,.n,.l [(7,.one .slice),(39,.one .i)],.n,.n,.n,.n,.n,.n,.n,.n]) Tryz.func130 hF
end Go.Proofs.YtmmkegapckbomaaGreatDoor
end
section
namespace Go.Proofs.YtmmkegapckbomaaGreatDoor
open Go Go.Pt List
attribute [local irreducible] ld ldA ldV fld fldA newZ st new idx idxS idxA slc slcS slcP mkS chk nn call callV inv run runQ runU join loop held ext rng undefer s2a nxt ent IntKind.wrap
def needP (n:Nat):Nat:=if n=0 then 0 else (n-1) / 124+1
theorem qsh {n:Nat} {w:World} {K:Int->WP} (C:n<=1000000) (h:K (needP n) w):cW 101 [.i n] [.one .i] w K:=by
 refine qjy ?_
 unfold qfH
 refine qaa (fun u=>?_) (fun u=>?_)
 ·have:=zC u
  have A:n=0:=by omega
  subst A
  exact h
 ·have:=zB u
  have A:n≠0:=by omega
  rw [needP,if_neg A] at h
  rw [wi' ((n:Int)-1) (by omega)]
  have e:Int.tdiv ((n:Int)-1) 124=(((n-1) / 124:Nat):Int):=by
   rw [Int.tdiv_eq_ediv_of_nonneg (by omega)]
   omega
  rw [e,wi' (((n-1) / 124:Nat):Int) (by omega),wi' ((((n-1) / 124:Nat):Int)+1) (by omega)]
  exact h
def risesB:Int->List Int->Bool
 | _,[]=>true
 | a,x::r=>decide (a<x)&&risesB x r
theorem qnZ {S:List Nat} {w:World} {s:Sl} {l:List Int} {K:Bool->WP} (h:Rd S w s l) (Q:l.length<=1000000) (E:K (risesB 1 l) w) :
  cW 164 [s.v] [.one .bool] w K:=by
 refine qin ?_
 unfold qey
 have J:=h.1
 refine qak (fun x w'=>w'=w/\∃ i:Nat,x.2=i/\i<=l.length/\risesB x.1 (l.drop i)=risesB 1 l) (fun x _=>((l.length:Int)-x.2).toNat) ⟨rfl,0,rfl,by omega,by simp⟩ ?_
 rintro ⟨a,ii⟩ w' ⟨rfl,i,C,R,A⟩ X O
 simp only at C A
 subst C
 refine qaa (fun G=>?_) (fun G=>?_)
 ·have u:i<l.length:=by have:=zC G; omega
  refine Rd.at h i rfl (zA u) ?_
  rw [zX u,risesB] at A
  refine qaa (fun I=>?_) (fun I=>?_)
  ·have:=zC I
   rw [show decide (a<l[i])=false by rw [decide_eq_false_iff_not]; omega,Bool.false_and] at A
   rw [<- A] at E
   exact E
  ·have:=zB I
   rw [show decide (a<l[i])=true by rw [yM]; omega,Bool.true_and] at A
   rw [wi' _ (by omega)]
   exact O _ _ ⟨rfl,i+1,by simp,by omega,A⟩ (by dsimp only; omega)
 ·have u:i=l.length:=by have:=zB G; omega
  subst u
  rw [drop_length] at A
  rw [<- A] at E
  exact E
theorem qtF (n:Int):byteAt n 0=IntKind.wrap .u8 n:=by
 unfold byteAt
 have:Int.fdiv n (2^min (8*0) 32)=n:=by
  show Int.fdiv n (2^0)=n
  simp
 rw [this]
theorem qmj {w:World} {s:Sl} {l:List Int} {B:List Nat} {n:Int} {K:Sl->WP} (h:BufB w s l B) (hl:l.length<=1000000)
  (U:∀ A B' w',BufB w' A (l++be n 4) B'->Fr B w w'->(∀ b∈B',b∈B\/w.heap.size<=b)->K A w') :
  new (.cells #[.b (IntKind.wrap .u8 (Int.fdiv n (2^24))),.b (IntKind.wrap .u8 (Int.fdiv n (2^16))),.b (IntKind.wrap .u8 (Int.fdiv n (2^8))),.b (IntKind.wrap .u8 n)] 5) w fun r V=>
   Pt.run [Ty1.one Cell.slice] ((Builtin.append_ #[23,23] 23 #[s.v,.slice (pW r) 4 4]).run Tryz.prog V) fun A w'=>K A w':=by
 obtain ⟨i5,C,hz,E,G⟩:=qky
 refine Own.new' (Own.start [] w) fun r w1 e1 I ho=>?_
 have J:be n 4=[byteAt n 3,byteAt n 2,byteAt n 1,byteAt n 0]:=rfl
 have ac:=I.size
 refine Buf.appSrc (ys:=be n 4) (e:=5) (h.frame0 I) qat (by kernel_rfl) C hz E rfl (.ofSlice _ (e':=5) (by kernel_rfl) _ 4 4 _ (by rw [qaA]; simp [qaq]) (fun j u Q=>?_) (fun u R=>?_)) (qaq n 4).symm (by rw [G]; omega) (by omega) fun A B' w' g1 g2 g3 _=>?_
 ·rw [Addr.add_mk,qaf (ho.at (i:=0) rfl),xR]
  rw [qaA,J,qtF] at Q
  rw [List.getElem?_toArray]
  exact Q
 ·rw [qaA] at R
  obtain ⟨x,_,rfl⟩:=mem_map.1 R
  rfl
 ·refine U A B' w' g1 ((I.mono (fun i C _=>by cases C)).trans' g2 (fun b O=>.inl O)) (fun b O=>?_)
  rcases g3 b O with h | h
  ·exact .inl h
  ·exact .inr (by omega)
theorem qpb {w:World} {s:Sl} {l:List Int} {B:List Nat} {n:Int} {K:Sl->WP} (h:BufB w s l B) (C:l.length<=1000000)
  (E:∀ A B' w',BufB w' A (l++be n 4) B'->Fr B w w'->(∀ b∈B',b∈B\/w.heap.size<=b)->K A w') :
  cW 166 [s.v,.u n] [.one .slice] w K:=by
 refine qkC ?_
 unfold qgB
 exact qmj h C E
theorem qjH {A B:Int} (k:Nat) (G:0<=A) (C:A%2^k=0) (I:0<=B) (h:B<2^k) (J:A+B<4294967296):bits .or .u32 A B=A+B:=by
 obtain ⟨a,rfl⟩:∃ a:Nat,A=a:=⟨A.toNat,by omega⟩
 obtain ⟨b,rfl⟩:∃ b:Nat,B=b:=⟨B.toNat,by omega⟩
 have E:a%2^k=0:=by
  have:((a:Int)%((2^k:Nat):Int))=0:=by rw [Int.natCast_pow]; exact C
  omega
 have u:b<2^k:=by
  have:(b:Int)<((2^k:Nat):Int):=by rw [Int.natCast_pow]; exact h
  omega
 obtain ⟨q,rfl⟩:∃ q,a=2^k*q:=⟨a / 2^k,by have:=Nat.div_add_mod a (2^k); omega⟩
 show IntKind.wrap .u32 ((BitVec.ofInt 32 ((2^k*q:Nat):Int)||| BitVec.ofInt 32 (b:Int)).toNat:Nat)=_
 rw [BitVec.toNat_or,BitVec.ofInt_natCast,BitVec.ofInt_natCast,BitVec.toNat_ofNat,BitVec.toNat_ofNat,Nat.mod_eq_of_lt (show 2^k*q<2^32 by omega),Nat.mod_eq_of_lt (show b<2^32 by omega),<- Nat.two_pow_add_eq_or_of_lt u]
 rw [qa3 _ (by omega)]
 omega
def get4V (a b c d:Int):Int:=bits .or .u32 (bits .or .u32 (bits .or .u32 (IntKind.wrap .u32 (IntKind.wrap .u32 a*2^24)) (IntKind.wrap .u32 (IntKind.wrap .u32 b*2^16))) (IntKind.wrap .u32 (IntKind.wrap .u32 c*2^8))) (IntKind.wrap .u32 d)
theorem qnU {a b c d:Int} (h:0<=a/\a<256) (u:0<=b/\b<256) (C:0<=c/\c<256) (E:0<=d/\d<256):get4V a b c d=((a*256+b)*256+c)*256+d:=by
 unfold get4V
 rw [qa3 a (by omega),qa3 b (by omega),qa3 c (by omega),qa3 d (by omega),qa3 (a*2^24) (by omega),qa3 (b*2^16) (by omega),qa3 (c*2^8) (by omega)]
 rw [qjH (A:=a*2^24) (B:=b*2^16) 24 (by omega) (by omega) (by omega) (by omega) (by omega)]
 rw [qjH (B:=c*2^8) 16 (by omega) (by omega) (by omega) (by omega) (by omega)]
 rw [qjH (B:=d) 8 (by omega) (by omega) (by omega) (by omega) (by omega)]
 omega
theorem qs5 {n:Int} (h:0<=n/\n<4294967296):get4V (n / 16777216%256) (n / 65536%256) (n / 256%256) (n%256)=n:=by
 rw [qnU (by omega) (by omega) (by omega) (by omega)]
 omega
def first4 (l:List Int):Int:=get4V (l.getD 0 0) (l.getD 1 0) (l.getD 2 0) (l.getD 3 0)
theorem getD_some {l:List Int} {n:Nat} (h:n<l.length):l[n]?=some (l.getD n 0):=by rw [yQ,zA h]; rfl
theorem qrM {S:List Nat} {w:World} {s:Sl} {l:List Int} {K:Int->WP} (h:RdB S w s l) (I:4<=l.length) (u:K (first4 l) w) :
  (idx s 0 1 fun a=>ld .b a w fun A=>idx s 1 1 fun a=>ld .b a w fun C=>idx s 2 1 fun a=>ld .b a w fun E=>idx s 3 1 fun a=>ld .b a w fun G=>K (get4V A C E G) w):=by
 refine RdB.at h 0 rfl (getD_some (by omega)) ?_
 refine RdB.at h 1 rfl (getD_some (by omega)) ?_
 refine RdB.at h 2 rfl (getD_some (by omega)) ?_
 refine RdB.at h 3 rfl (getD_some (by omega)) ?_
 exact u
theorem qoM {S:List Nat} {w:World} {s:Sl} {l:List Int} {K:Int->WP} (h:RdB S w s l) (A:4<=l.length) (C:K (first4 l) w.drew):cW 163 [s.v] [.one .u] w K:=by
 refine qkL ?_
 unfold qgD
 exact qrM (w:=w.drew) h A C
theorem qmX {A B:Int} (k:Nat) (G:0<=A) (C:A%2^k=0) (I:0<=B) (h:B<2^k) (J:A+B<4294967296):bits .or .i64 A B=A+B:=by
 obtain ⟨a,rfl⟩:∃ a:Nat,A=a:=⟨A.toNat,by omega⟩
 obtain ⟨b,rfl⟩:∃ b:Nat,B=b:=⟨B.toNat,by omega⟩
 have E:a%2^k=0:=by
  have:((a:Int)%((2^k:Nat):Int))=0:=by rw [Int.natCast_pow]; exact C
  omega
 have u:b<2^k:=by
  have:(b:Int)<((2^k:Nat):Int):=by rw [Int.natCast_pow]; exact h
  omega
 obtain ⟨q,rfl⟩:∃ q,a=2^k*q:=⟨a / 2^k,by have:=Nat.div_add_mod a (2^k); omega⟩
 show IntKind.wrap .i64 ((BitVec.ofInt 64 ((2^k*q:Nat):Int)||| BitVec.ofInt 64 (b:Int)).toNat:Nat)=_
 rw [BitVec.toNat_or,BitVec.ofInt_natCast,BitVec.ofInt_natCast,BitVec.toNat_ofNat,BitVec.toNat_ofNat,Nat.mod_eq_of_lt (show 2^k*q<2^64 by omega),Nat.mod_eq_of_lt (show b<2^64 by omega),<- Nat.two_pow_add_eq_or_of_lt u]
 rw [wi' _ (by omega)]
 omega
def cntV (l:List Int):Int:=l.getD 4 0*256+l.getD 5 0
def numsV (l:List Int) (n:Nat):List Int:=(List.range n).map fun i=>first4 (l.drop (6+4*i))
def parseV (l:List Int):Int×List Int×Int:=
 if l.length<6 then (0,[],2) else
 if first4 l=1\/cntV l>123\/(l.length:Int)≠6+4*cntV l then (0,[],2) else
 if risesB 1 (numsV l (cntV l).toNat) then (first4 l,numsV l (cntV l).toNat,0) else (0,[],2)
theorem qrr {S:List Nat} {w:World} {s:Sl} {l:List Int} {K:Int×Sl×Int->WP} (h:RdB S w s l) (hB:IsB l) (hl:l.length<=100000)
  (hk:∀ s' B w',BufU w' s' (parseV l).2.1 B->Fr [] w w'->(∀ b∈B,w.heap.size<=b)->K ((parseV l).1,s',(parseV l).2.2) w') :
  cW 130 [s.v] [.one .u,.one .slice,.one .i] w K:=by
 refine qio ?_
 unfold qep
 have G:=h.1
 have J:∀ {e:Int} {w':World},parseV l=(0,[],e)->Fr [] w w'->K (0,⟨none,0,0⟩,e) w':=by
  intro e w' he hf
  have:=hk ⟨none,0,0⟩ [] w' (by rw [he]; exact .nil _ _ _) hf (by simp)
  rw [he] at this
  exact this
 refine qaa (fun A=>?_) (fun A=>?_)
 ·have:=zC A
  exact J (by rw [parseV,if_pos (by omega)]) (.refl _ _)
 have h6:¬ l.length<6:=by have:=zB A; omega
 have fd:Fr [] w w.drew:=(Fr.refl _ _).drew
 have C:Fr [] w w.drew.drew:=fd.drew
 obtain ⟨_,b4,o4,ai,aI,aj,T4,aJ,R,ak⟩:=Rds.at h 4 (getD_some (l:=l) (n:=4) (by omega))
 obtain ⟨_,b5,o5,al,aK,am,T5,aL,U,an⟩:=Rds.at h 5 (getD_some (l:=l) (n:=5) (by omega))
 have g4:aj[o4+4]?=some (.b (l.getD 4 0)):=by have:=congrArg (·[0]?) ak; simpa using this
 have g5:am[o5+5]?=some (.b (l.getD 5 0)):=by have:=congrArg (·[0]?) an; simpa using this
 have c4:∀ {w':World},Fr [] w w'->w'.cell? ⟨b4,o4+Int.toNat 4*1,none⟩=some (.b (l.getD 4 0)):=fun f=>by
  rw [qaf (by rw [f.block b4 (qab R) (by simp)]; exact R)]; exact g4
 have c5:∀ {w':World},Fr [] w w'->w'.cell? ⟨b5,o5+Int.toNat 5*1,none⟩=some (.b (l.getD 5 0)):=fun f=>by
  rw [qaf (by rw [f.block b5 (qab U) (by simp)]; exact U)]; exact g5
 refine qa0 ai ⟨by omega,by omega⟩ ?_
 refine qaE (l.getD 4 0) (c4 fd) ?_
 refine qa0 al ⟨by omega,by omega⟩ ?_
 refine qaE (l.getD 5 0) (c5 fd) ?_
 refine qoM (w:=w.drew) (S:=S) h (by omega) ?_
 refine qar (c5 C) (c4 C) ?_
 have r4:0<=l.getD 4 0/\l.getD 4 0<256:=hB _ (yE (getD_some (l:=l) (n:=4) (by omega)))
 have r5:0<=l.getD 5 0/\l.getD 5 0<256:=hB _ (yE (getD_some (l:=l) (n:=5) (by omega)))
 have V:bits .or .i64 (IntKind.wrap .i64 (IntKind.wrap .i64 (l.getD 4 0)*2^8)) (IntKind.wrap .i64 (l.getD 5 0))=cntV l:=by
  rw [wi' (l.getD 4 0) (by omega),wi' (l.getD 5 0) (by omega),wi' (l.getD 4 0*2^8) (by omega),qmX 8 (by omega) (by omega) (by omega) (by omega) (by omega)]
  rfl
 have aF:0<=cntV l/\cntV l<65536:=by unfold cntV; omega
 rw [V]
 refine qag (fun b w'=>b=decide (first4 l=1\/cntV l>123\/(l.length:Int)≠6+4*cntV l)/\w'=w.drew.drew) ?_ ?_
 ·refine qaa (fun A=>?_) (fun A=>?_)
  ·exact ⟨by rw [zZ (Or.inl (by simpa using A))],rfl⟩
  ·have ao:¬ first4 l=1:=by simpa using A
   refine qaa (fun O=>?_) (fun O=>?_)
   ·exact ⟨by rw [zZ (Or.inr (Or.inl (zC O)))],rfl⟩
   ·have aa:¬ cntV l>123:=zB O
    refine ⟨?_,rfl⟩
    rw [wi' (4*cntV l) (by omega),wi' (6+4*cntV l) (by omega),G]
    by_cases h3:(l.length:Int)=6+4*cntV l <;> simp [ao,aa,h3]
 rintro b w1 ⟨rfl,rfl⟩
 refine qaa (fun A=>J (by rw [parseV,if_neg h6,if_pos (zC A)]) C) (fun A=>?_)
 have Q:=zB A
 have ab:cntV l<=123:=by
  rcases Int.lt_or_le 123 (cntV l) with h | h
  ·exact absurd (Or.inr (Or.inl h)) Q
  ·exact h
 have ap:(l.length:Int)=6+4*cntV l:=Classical.byContradiction fun h=>Q (Or.inr (Or.inr h))
 have pv:parseV l=if risesB 1 (numsV l (cntV l).toNat) then (first4 l,numsV l (cntV l).toNat,0) else (0,[],2):=by rw [parseV,if_neg h6,if_neg Q]
 obtain ⟨n,hn⟩:∃ n:Nat,cntV l=n:=⟨(cntV l).toNat,by omega⟩
 rw [hn] at ab ap pv ⊢
 rw [zJ] at pv
 refine qak (fun x w'=>∃ (i:Nat) (B:List Nat),x.2=i/\i<=n/\BufU w' x.1 (numsV l i) B/\Fr [] w w'/\∀ b∈B,w.heap.size<=b) (fun x _=>((n:Int)-x.2).toNat)
  ⟨0,[],rfl,by omega,.nil _ _ _,C,by simp⟩ ?_
 rintro ⟨s1,ii⟩ w2 ⟨i,B,ac,hi,I,f2,n2⟩ X hX
 simp only at ac I
 subst ac
 refine qaa (fun A=>?_) (fun A=>?_)
 ·have ad:i<n:=by have:=zC A; omega
  rw [wi' (4*(i:Int)) (by omega),wi' (6+4*(i:Int)) (by omega)]
  have h2:RdB S w2 s l:=h.frame0 f2
  refine Rds.part h2 (6+4*i) l.length (by simp) (by rw [G]; rfl) (by omega) (by omega) fun s3 l3 r3 _=>?_
  rw [xZ] at r3
  refine qoM r3 (by rw [yB]; omega) ?_
  have ae:Fr [] w w2.drew:=f2.drew
  refine qtf (w:=w2.drew) (B:=B) I (by simp [numsV]; omega) fun s4 B4 w4 g1 g2 g3=>?_
  rw [wi' _ (by omega)]
  have aW:=ae.size
  refine hX _ _ ⟨i+1,B4,by simp,by omega,?_,ae.trans' g2 (fun b I=>.inr (n2 b I)),fun b I=>?_⟩ (by dsimp only; omega)
  ·have:numsV l (i+1)=numsV l i++[first4 (l.drop (6+4*i))]:=by simp [numsV,range_succ]
   rw [this]; exact g1
  ·rcases g3 b I with h | h
   ·exact n2 b h
   ·omega
 ·have ad:i=n:=by have:=zB A; omega
  subst ad
  refine qnZ (S:=[]) (I.rds qaZ (by simp)) (by simp [numsV]; omega) ?_
  refine qaa (fun hr=>?_) (fun hr=>?_)
  ·have E:¬ risesB 1 (numsV l i)=true:=by simpa using hr
   exact J (by rw [pv,if_neg E]) f2
  ·have E:risesB 1 (numsV l i)=true:=by simpa using hr
   have:=hk s1 B w2 (by rw [pv,if_pos E]; exact I) f2 n2
   rw [pv,if_pos E] at this
   exact this
def encS:Sl->List Value:=fun s=>[s.v]
theorem qnm:∀ x,(encS x).length=1:=fun _=>rfl
theorem quE:∃ i,Tryz.prog.info? 23=some i/\i.zero=some (.slice none 0 0)/\i.size=1/\i.bytes=24:=qcV (by kernel_rfl)
def Bodies (S:List Nat) (w:World) (s:Sl) (u:List (List Int)) (B:List Nat):Prop:=
 ∃ h:List Sl,Buf encS 1 w s h B/\h.length=u.length/\∀ (i:Nat) sl l,h[i]?=some sl->u[i]?=some l->RdB (S++B) w sl l
theorem Bodies.nil (S:List Nat) (w:World):Bodies S w ⟨none,0,0⟩ [] []:=⟨[],.nil _ _ _,rfl,fun i sl l h=>by simp at h⟩
theorem Bodies.frame {S S':List Nat} {w w':World} {s:Sl} {E:List (List Int)} {B:List Nat} (h:Bodies S w s E B) (f:Fr S w w') (G:∀ b∈B,b∉S) (A:∀ b∈S',b∈S\/w.heap.size<=b):Bodies S' w' s E B:=by
 obtain ⟨C,I,J,K⟩:=h
 refine ⟨C,I.frame f G,J,fun i sl l O Q=>(K i sl l O Q).frame (f.mono fun b u _=>zH _ u) fun b u=>?_⟩
 rcases zD.1 u with u | u
 ·rcases A b u with h | h
  ·exact .inl (zH _ h)
  ·exact .inr h
 ·exact .inl (zI _ u)
theorem Bodies.push {S:List Nat} {w:World} {s sl:Sl} {I:List (List Int)} {B:List Nat} {l:List Int} {T:TypeId} {K:Sl->WP} (h:Bodies S w s I B) (hr:RdB (S++B) w sl l) (hl:I.length<=1000000)
  (kk:∀ G B' w',Bodies S w' G (I++[l]) B'->Fr B w w'->(∀ b∈B',b∈B\/w.heap.size<=b)->K G w') :
  Pt.new (.cells #[sl.v] T) w fun r w1=>Pt.run [Ty1.one Cell.slice] ((Builtin.append_ #[22,22] 22 #[s.v,.slice (pW r) 1 1]).run Tryz.prog w1) K:=by
 obtain ⟨i,hi,hz,J,O⟩:=quE
 obtain ⟨E,h1,Q,h3⟩:=h
 refine Buf.push (e:=23) (x:=sl) h1 qnm (by simp [encS,Value.oneCell']) (by kernel_rfl) hi hz J rfl rfl (by rw [O]; omega) (by omega) fun G B' w' b' R n'=>?_
 refine kk G B' w' ⟨_,b',by simp [Q],fun j sj lj A u=>?_⟩ R n'
 have U:∀ b∈S++B',b∈S++B\/w.heap.size<=b:=fun b C=>by
  rcases zD.1 C with C | C
  ·exact .inl (zH _ C)
  ·rcases n' b C with h | h
   ·exact .inl (zI _ h)
   ·exact .inr h
 have V:Fr (S++B) w w':=R.mono fun b C _=>zI _ C
 by_cases hjl:j<E.length
 ·rw [yY hjl] at A
  rw [yY (by omega)] at u
  exact (h3 j sj lj A u).frame V U
 ·by_cases hje:j=E.length
  ·subst hje
   rw [yX (zM _),Nat.sub_self] at A
   rw [Q,yX (zM _),Nat.sub_self] at u
   simp at A u
   subst A u
   exact hr.frame V U
  ·rw [yR (by rw [zF]; simp; omega)] at A
   cases A
def bodyV (next:Int) (c:List Int):List Int:=be next 4++[IntKind.wrap .u8 (Int.fdiv c.length (2^8)),IntKind.wrap .u8 c.length]++c.flatMap (be · 4)
def bodiesL (numbers pages:List Int) (k:Nat):List (List Int):=(List.range k).map fun i=>bodyV (pages.getD (i+1) 0) ((numbers.drop (123*i)).take 123)
def bodiesV (numbers pages:List Int):List (List Int)×Int:=
 if risesB 1 numbers=false\/numbers.length>123*pages.length then ([],1) else if ∃ p∈pages,p<2 then ([],1) else (bodiesL numbers pages pages.length,0)
theorem qsW {w:World} {s:Sl} {n:Int} {K:Value->WP} (C:∀ u A w',Fr [] w w'->(∀ S w0 L,Own S w0 w L->Own S w0 w' ((u,.cells #[.i n] 3 (0,0))::(A,.cells #[s.v] 92 (0,0))::L))->K (.func (.func 208) #[] #[.pointer (pW u),.pointer (pW A)]) w') :
  cW 165 [s.v,.i n] [.one .any] w K:=by
 refine qiy ?_
 unfold qeG
 refine Pt.qkd ?_
 refine Pt.qkd ?_
 exact C _ _ _ (((Fr.refl [] w).alloc _).alloc _) fun S w0 L h=>(h.alloc _).alloc _
theorem qcE:∀ l:List Int,(l.flatMap (be · 4)).length=l.length*4
 | []=>rfl
 | x::l=>by rw [yG,zF,qaq,qcE l,yH]; omega
theorem qt8 (a b:Int):([a,b]:List Int).length=2:=rfl
theorem qpC {S G:List Nat} {w:World} {sn sp:Sl} {numbers pages:List Int} {K:Sl×Int->WP} (hn:Rd S w sn numbers) (Q:Rd S w sp pages) (bZ:numbers.length<=100000) (b0:pages.length<=100000) (hG:∀ b∈G,b<w.heap.size)
  (hk:∀ s' B w',Bodies G w' s' (bodiesV numbers pages).1 B->Fr [] w w'->(∀ b∈B,w.heap.size<=b)->K (s',(bodiesV numbers pages).2) w') :
  cW 132 [sn.v,sp.v] [.one .slice,.one .i] w K:=by
 refine qhw ?_
 unfold qd5
 have bh:=hn.1
 have bi:=Q.1
 have aT:∀ {w':World},bodiesV numbers pages=([],1)->Fr [] w w'->K (⟨none,0,0⟩,1) w':=by
  intro w' he hf
  have:=hk ⟨none,0,0⟩ [] w' (by rw [he]; exact .nil _ _) hf (by simp)
  rw [he] at this
  exact this
 refine Own.new' (Own.start [] w) fun r1 w1 e1 f1 ho=>?_
 have bk:Rd S w1 sn numbers:=hn.frame0 ho.fr
 have bl:Rd S w1 sp pages:=Q.frame0 ho.fr
 refine qag (fun b w'=>b=decide (risesB 1 numbers=false\/numbers.length>123*pages.length)/\w'=w1) ?_ ?_
 ·refine qnZ bk (by omega) ?_
  refine qaa (fun hc=>?_) (fun hc=>?_)
  ·have hr:risesB 1 numbers=false:=by simpa using hc
   exact ⟨by rw [zZ (Or.inl hr)],rfl⟩
  ·have hr:risesB 1 numbers=true:=by simpa using hc
   refine Own.ld ho 0 rfl sp rfl ⟨?_,rfl⟩
   rw [wi' (123*(sp.len:Int)) (by omega),bh,bi]
   have e:decide ((numbers.length:Int)>123*(pages.length:Int))=decide (numbers.length>123*pages.length):=by
    by_cases h:numbers.length>123*pages.length
    ·rw [zZ h,zZ]; omega
    ·rw [zU h,zU]; omega
   rw [e]
   by_cases h:numbers.length>123*pages.length <;> simp [hr,h]
 rintro b w2 ⟨rfl,rfl⟩
 refine qaa (fun hc=>aT (by rw [bodiesV,if_pos (zC hc)]) ho.fr) (fun hc=>?_)
 have aU:=zB hc
 refine Own.ld ho 0 rfl sp rfl ?_
 refine qak (fun x w'=>w'=w2/\∃ i:Nat,x.2.2=i/\i<=pages.length/\∀ p∈pages.take i,¬ p<2) (fun x _=>((pages.length:Int)-x.2.2).toNat) ⟨rfl,0,rfl,by omega,by simp⟩ ?_
 rintro ⟨sx,ex,ii⟩ w3 ⟨rfl,i,aV,hi,ao⟩ X hX
 simp only at aV
 subst aV
 dsimp only
 refine qaa (fun hc=>?_) (fun hc=>?_)
 ·have ap:i<pages.length:=by have:=zC hc; omega
  refine Rd.at bl i rfl (zA ap) ?_
  refine qaa (fun hx=>?_) (fun hx=>?_)
  ·exact aT (by rw [bodiesV,if_neg aU,if_pos ⟨pages[i],zW ap,zC hx⟩]) ho.fr
  ·rw [wi' _ (by omega)]
   refine hX _ _ ⟨rfl,i+1,by simp,by omega,fun p Q=>?_⟩ (by dsimp only; omega)
   rw [yF ap] at Q
   rcases zD.1 Q with Q | Q
   ·exact ao p Q
   ·simp at Q; subst Q; exact zB hx
 have ap:i=pages.length:=by have:=zB hc; omega
 subst ap
 rw [xZ] at ao
 have bp:bodiesV numbers pages=(bodiesL numbers pages pages.length,0):=by
  rw [bodiesV,if_neg aU,if_neg]
  rintro ⟨p,Q,h2⟩
  exact ao p Q h2
 rw [bp] at hk
 refine Own.new' ho fun ro w4 eo fo ho=>?_
 refine Own.ld ho 1 rfl sp rfl ?_
 refine qsW fun rp rl w5 f5 aW=>?_
 have br:=aW _ _ _ ho
 refine Own.rng (lb:=[.pointer (pW rp),.pointer (pW rl)]) br rfl (by kernel_rfl) fun Dm l R Bz J E E0 w6 el eD b3 aX hy=>?_
 refine qgs ?_
 unfold qdk
 refine Own.ld aX 2 rfl sp.len rfl ?_
 refine qak (fun x w'=>∃ (j:Nat) (cl so:Sl) (Bo:List Nat),x=j/\j<=pages.length/\Rd [] w cl (numbers.drop (123*j))/\Bodies ([l,Dm,rp,rl,ro,r1]++G) w' so (bodiesL numbers pages j) Bo/\(∀ b∈Bo,w.heap.size<=b/\b∉[l,Dm,rp,rl,ro,r1])/\
   Own [] w w' [(l,R),(Dm,.deferred (some [])),(rp,.cells #[.i sp.len] 3 (0,0)),(rl,.cells #[cl.v] 92 (0,0)),(ro,.cells #[so.v] 22 (0,0)),(r1,.cells #[sp.v] 92 (0,0))]) (fun x _=>((pages.length:Int)-x).toNat)
  ⟨0,sn,⟨none,0,0⟩,[],rfl,by omega,hn.weak (fun b A=>by cases A),.nil _ _,by simp,aX⟩ ?_
 rintro x w7 ⟨j,cl,so,Bo,rfl,hj,aI,aq,al,V⟩ X hX
 have ai:∀ b∈Bo,b∉[l,Dm,rp,rl,ro,r1]++G:=fun b A I=>by
  rcases zD.1 I with I | I
  ·exact (al b A).2 I
  ·have:=hG b I; have:=(al b A).1; omega
 have bt:=aI.1
 rw [yB] at bt
 refine qaa (fun hc=>?_) (fun hc=>?_)
 ·have b5:j<pages.length:=by have:=zC hc; omega
  refine Own.ld V 3 rfl cl rfl ?_
  refine Own.ld V 3 rfl cl rfl ?_
  obtain ⟨m,I,U⟩:∃ m:Nat,(if (123:Int)<(cl.len:Int) then 123 else (cl.len:Int))=m/\m=Nat.min 123 cl.len:=by
   by_cases h:123<cl.len
   ·exact ⟨123,by rw [if_pos (by omega)]; rfl,(xQ (by omega)).symm⟩
   ·exact ⟨cl.len,by rw [if_neg (by omega)],(Nat.min_eq_right (by omega)).symm⟩
  rw [I]
  have bu:m<=123:=by rw [U]; exact Nat.min_le_left _ _
  have bQ:m<=cl.len:=by rw [U]; exact Nat.min_le_right _ _
  refine Rds.part aI 0 m rfl rfl (by omega) (by rw [yB]; omega) fun cs bR aA _=>?_
  rw [xE] at aA
  have aj:(numbers.drop (123*j)).take m=(numbers.drop (123*j)).take 123:=by
   by_cases h:123<cl.len
   ·rw [U]; congr 1; exact xQ (by omega)
   ·have:m=cl.len:=by rw [U]; exact Nat.min_eq_right (by omega)
    rw [this,zS (by rw [yB]; omega),zS (by rw [yB]; omega)]
  generalize bv:(numbers.drop (123*j)).take m=chunk at aA aj
  have aY:chunk.length=m:=by rw [<- bv,yK,yB]; omega
  have aG:cs.len=m:=by omega
  refine hy ((j:Int),cs) w7 _ (V.at (i:=0) rfl) ?_
  dsimp only
  refine ⟨V.at (i:=0) rfl,?_⟩
  have C:=V.upd (o':=Bz) 0 rfl
  have O:=C.rebaseS []
  have aZ:Rd [] (Pt.upd w7 l Bz) sp pages:=(Q.weak (fun b A=>by cases A)).frame0 C.fr
  have ar:Bodies ([l,Dm,rp,rl,ro,r1]++G) (Pt.upd w7 l Bz) so (bodiesL numbers pages j) Bo:=aq.frame ((qba (qab (V.at (i:=0) rfl)) Bz).mono fun b A _=>by simp at A; subst A; simp) ai (fun b A=>.inl A)
  have a0:=aq.choose_spec.1.lt
  refine qag (fun x w'=>x=pages.getD (j+1) 0/\w'=Pt.upd w7 l Bz) ?_ ?_
  ·refine Own.ld O 5 rfl sp rfl ?_
   rw [wi' ((j:Int)+1) (by omega)]
   refine qaa (fun aJ=>?_) (fun aJ=>?_)
   ·have h2:j+1<pages.length:=by have:=zC aJ; omega
    refine Own.ld O 5 rfl sp rfl ?_
    refine Rd.at aZ (j+1) (by omega) (getD_some h2) ?_
    exact ⟨rfl,rfl⟩
   ·have h2:¬ j+1<pages.length:=by have:=zB aJ; omega
    exact ⟨by rw [yQ,yR (by omega)]; rfl,rfl⟩
  rintro x w8 ⟨rfl,rfl⟩
  generalize bw:pages.getD (j+1) 0=next
  have hW:(Pt.upd w7 l Bz).heap.size=w7.heap.size:=qbP _ _ _
  generalize b7:Pt.upd w7 l Bz=w8 at C O aZ hW ar
  have bS:Rd [] w8 cs chunk:=aA.frame0 C.fr
  have ak:∀ p∈[l,Dm,rp,rl,ro,r1],p<w8.heap.size:=fun p Q=>by
   have am:=fun (k:Nat) (q:Nat×Obj) (hq:_[k]?=some q)=>qab (C.at (i:=k) hq)
   simp only [zG,xX,or_false] at Q
   rcases Q with rfl | rfl | rfl | rfl | rfl | rfl
   ·exact am 0 _ rfl
   ·exact am 1 _ rfl
   ·exact am 2 _ rfl
   ·exact am 3 _ rfl
   ·exact am 4 _ rfl
   ·exact am 5 _ rfl
  obtain ⟨i5,bx,bz,a1,a2⟩:=qky
  refine qpb (s:=⟨none,0,0⟩) (l:=[]) (B:=[]) (.nil _ _ _) (by simp) fun s9 B9 w9 b9 f9 n9=>?_
  rw [xH] at b9
  have O:=O.frame0 f9
  refine Own.new' O fun r2 ca cc a3 O=>?_
  have aL:∀ b∈B9,w8.heap.size<=b:=fun b A=>by rcases n9 b A with h | h; cases h; exact h
  refine Buf.appSrc (ys:=[IntKind.wrap .u8 (Int.fdiv chunk.length (2^8)),IntKind.wrap .u8 chunk.length]) (e:=5) (b9.frame0 a3) qat (by kernel_rfl) bx bz a1 rfl (.ofSlice _ (e':=5) (by kernel_rfl) _ 2 2 _ (by rw [qaA]; rfl) (fun q u hq=>?_) (fun u hu=>?_)) rfl (by rw [a2,qaq]; decide) (by rw [qaq]; decide) fun cd a4 ce bB bC bD _=>?_
  ·rw [Addr.add_mk,qaf (O.at (i:=0) rfl),xR,aG,<- aY]
   rw [qaA] at hq
   rw [List.getElem?_toArray]
   exact hq
  ·rw [qaA] at hu
   obtain ⟨x,_,rfl⟩:=mem_map.1 hu
   rfl
  have cf:=f9.size
  have bV:=a3.size
  have bE:=b9.lt
  have O:=(O.sub (sublist_cons_self _ _)).frame bC (fun b A=>.inr (aL b A)) (fun p Q A=>by
   have h1:=ak p.1 (zY (f:=(·.1)) Q)
   have h2:=aL _ A
   omega)
  have a5:∀ b∈a4,w8.heap.size<=b:=fun b A=>by rcases bD b A with h | h; exact aL b h; omega
  refine qak (fun x w'=>∃ (q:Nat) (Bq:List Nat),x.2=q/\q<=m/\BufB w' x.1 (be next 4++[IntKind.wrap .u8 (Int.fdiv chunk.length (2^8)),IntKind.wrap .u8 chunk.length]++(chunk.take q).flatMap (be · 4)) Bq/\(∀ b∈Bq,w8.heap.size<=b)/\
    Own ([l,Dm,rp,rl,ro,r1]++[]) w8 w' [(l,Bz),(Dm,.deferred (some [])),(rp,.cells #[.i sp.len] 3 (0,0)),(rl,.cells #[cl.v] 92 (0,0)),(ro,.cells #[so.v] 22 (0,0)),(r1,.cells #[sp.v] 92 (0,0))]) (fun x _=>((m:Int)-x.2).toNat)
   ⟨0,a4,rfl,by omega,by simpa using bB,a5,O⟩ ?_
  rintro ⟨bG,qq⟩ aM ⟨q,Bq,a6,cg,bq,nq,hq⟩ Y hY
  simp only at a6 bq
  subst a6
  dsimp only
  rw [aG]
  refine qaa (fun aN=>?_) (fun aN=>?_)
  ·have au:q<chunk.length:=by have:=zC aN; omega
   have aO:Rd [] aM cs chunk:=aA.frame0 (C.backS (T:=[]) (by simp) hq.fr)
   refine Rd.at aO q rfl (zA au) ?_
   have aP:(be next 4++[IntKind.wrap .u8 (Int.fdiv chunk.length (2^8)),IntKind.wrap .u8 chunk.length]++(chunk.take q).flatMap (be · 4)).length<=1000000:=by
    rw [zF,zF,qaq,qcE,yK,qt8]; omega
   refine qpb bq aP fun a7 aB aC aQ aR aS=>?_
   rw [wi' _ (by omega)]
   refine hY _ _ ⟨q+1,aB,by simp,by omega,?_,fun b A=>?_,hq.frame aR (fun b A=>.inr (nq b A)) (fun p Q A=>?_)⟩ (by dsimp only; omega)
   ·rw [yF au,yP,flatMap_singleton,<- zV]
    exact aQ
   ·rcases aS b A with h | h
    ·exact nq b h
    ·exact zL hq.fr.size h
   ·have h1:=ak p.1 (zY (f:=(·.1)) Q)
    have h2:=nq _ A
    omega
  ·have bH:q=m:=by have:=zB aN; omega
   subst bH
   rw [zS (by omega)] at bq
   refine Own.ld hq 4 rfl so rfl ?_
   have a8:RdB (([l,Dm,rp,rl,ro,r1]++G)++Bo) aM bG (bodyV next chunk):=bq.rds qat fun b A I=>by
    have h2:=nq _ A
    rcases zD.1 I with I | I
    ·rcases zD.1 I with I | I
     ·have:=ak b I; omega
     ·have:=hG b I; have:=C.fr.size; omega
    ·have:=a0 b I; omega
   have aD:Bodies ([l,Dm,rp,rl,ro,r1]++G) aM so (bodiesL numbers pages j) Bo:=ar.frame (hq.fr.mono fun b A _=>by rw [xG] at A; exact zH _ A) ai (fun b A=>.inl A)
   refine Bodies.push aD a8 (by rw [bodiesL,zK,length_range]; omega) fun a7 aB aC aQ aR aS=>?_
   have av:=(C.rejoin (T:=[]) (by simp) hq).frame aR (fun b A=>.inr (al b A).1) (fun p Q A=>(al _ A).2 (zY (f:=(·.1)) Q))
   refine Own.sz av 4 rfl _ fun ci av bI=>?_
   refine ⟨av.at (i:=0) rfl,?_⟩
   have au:=av.upd (o':=R) 0 rfl
   refine cond_false rfl ?_
   refine Own.ld au 3 rfl cl rfl ?_
   refine Rds.part aI q (numbers.drop (123*j)).length rfl (by rw [yB]; show (cl.len:Int)=_; omega) (by rw [yB]; omega) (zM _) fun cr bX a9 _=>?_
   refine Own.sz au 3 rfl _ fun bJ bK bL=>?_
   rw [wi' _ (by omega)]
   have aw:∀ b∈aB,w.heap.size<=b/\b∉[l,Dm,rp,rl,ro,r1]:=fun b A=>by
    rcases aS b A with h | h
    ·exact al b h
    ·have h1:=hq.fr.size
     refine ⟨?_,fun I=>?_⟩
     ·have:=C.fr.size; omega
     ·have:=ak b I; omega
   have ff:Fr [l,Dm,rp,rl,ro,r1] aC bJ:=
    (bI.mono fun b A _=>by simp at A; subst A; simp).trans' ((qba (qab (av.at (i:=0) rfl)) R).mono (T:=[l,Dm,rp,rl,ro,r1]) fun b A _=>by simp at A; subst A; simp) (fun b A=>.inl A) |>.trans' (bL.mono (T:=[l,Dm,rp,rl,ro,r1]) fun b A _=>by simp at A; subst A; simp) (fun b A=>.inl A)
   have aE:=aQ.frame (ff.mono fun b A _=>zH _ A) (fun b A I=>by
    rcases zD.1 I with I | I
    ·exact (aw b A).2 I
    ·have:=hG b I; have:=(aw b A).1; omega) (fun b A=>.inl A)
   have a':((numbers.drop (123*j)).take (numbers.drop (123*j)).length).drop q=numbers.drop (123*(j+1)):=by
    rw [xZ,xC]
    by_cases h:123<cl.len
    ·rw [show q=123 by rw [U]; exact xQ (by omega),Nat.mul_add]
    ·have:q=cl.len:=by rw [U]; exact Nat.min_eq_right (by omega)
     rw [vE (by omega),vE (by omega)]
   rw [a'] at a9
   have aP:bodiesL numbers pages (j+1)=bodiesL numbers pages j++[bodyV next chunk]:=by
    rw [bodiesL,range_succ,xM,map_singleton,bw,<- aj]; rfl
   refine hX _ _ ⟨j+1,cr,a7,aB,by simp,by omega,a9,by rw [aP]; exact aE,aw,bK⟩ (by omega)
 ·have bM:j=pages.length:=by have:=zB hc; omega
  subst bM
  refine .inl ⟨V.at (i:=0) rfl,?_⟩
  have C:=V.upd (o':=E0) 0 rfl
  refine Own.ld C 4 rfl so rfl ?_
  refine Own.undefer C.rebase 1 rfl fun aC hd=>?_
  have bN:Bodies ([l,Dm,rp,rl,ro,r1]++G) (Pt.upd w7 l E0) so (bodiesL numbers pages pages.length) Bo:=aq.frame ((qba (qab (V.at (i:=0) rfl)) E0).mono fun b A _=>by simp at A; subst A; simp) ai (fun b A=>.inl A)
  exact hk so Bo aC (bN.frame (S':=G) (hd.fr.mono fun b A _=>zH _ A) ai (fun b A=>.inl (zI _ A))) (C.back (L':=[]) hd.fr) (fun b A=>(al b A).1)
end Go.Proofs.YtmmkegapckbomaaGreatDoor
end
section
set_option maxRecDepth 100000
namespace Go.Proofs.YtmmkegapckbomaaGreatDoor
open Go Go.Pt
@[reducible] def quu:List Cell:=[Cell.int IntKind.u32,Cell.int IntKind.u32,Cell.int IntKind.u32]
def qkE (b:Sl) (n:Int) (K:Sl->WP) (w:World):Prop:=new (Obj.cells #[.b (IntKind.wrap .u8 (Int.fdiv n (2^24))),.b (IntKind.wrap .u8 (Int.fdiv n (2^16))),.b (IntKind.wrap .u8 (Int.fdiv n (2^8))),.b (IntKind.wrap .u8 n)] 5) w fun c d=>run [.one .slice] ((Builtin.append_ (#[23,23]) 23 (#[b.v,.slice (pW c) 4 4])).run Tryz.prog d) fun e f=>K e f
theorem qnb {b n w K} (hF:qkE b n K w):cW 167 [b.v,.u n] [.one .slice] w K:=qad (an:=[.n,.n]) Tryz.func167 hF
def qho (s:List Value) (K:Sl->WP) (w:World):Prop:=new (Obj.cells (List.toArray s) 121) w fun b c=>ld (.int .u64) ⟨b,0,none⟩ c.drew fun (d:Int)=>ld (.int .u64) ⟨b,0,none⟩ c.drew fun (e:Int)=>cW 167 ([.slice none 0 0,.u (IntKind.wrap .u32 (Int.fdiv d (2^32)))]) ([.one .slice]) c.drew fun f g=>held [cEl ⟨b,0,none⟩ (.int .u64 e)] g<|cW 167 ([f.v,.u (IntKind.wrap .u32 e)]) ([.one .slice]) g fun i j=>ld .u ⟨b,1,none⟩ j.drew fun (k:Int)=>ld .u ⟨b,2,none⟩ j.drew fun (l:Int)=>ld .u ⟨b,3,none⟩ j.drew fun (m:Int)=>cW 167 ([i.v,.u k]) ([.one .slice]) j.drew fun n o=>held [cEl ⟨b,3,none⟩ (.u m),cEl ⟨b,2,none⟩ (.u l)] o<|cW 167 ([n.v,.u l]) ([.one .slice]) o fun r t=>held [cEl ⟨b,3,none⟩ (.u m)] t<|cW 167 ([r.v,.u m]) ([.one .slice]) t fun v x=>ldV 24 ⟨b,4,none⟩ x fun y=>loop (Sl×Int) (fun z (A:Sl×Int) B=>cond (decide (A.snd<8)) (chk (0<=A.snd/\A.snd<(↑8:Int))<|fldA (quu) y (Int.toNat A.snd*3) fun (C:Int×Int×Int)=>new (Obj.cells #[.u 0,.u 0,.u 0] 39) B fun D E=>st ⟨D,0,none⟩ (HL.mk quu C) E fun F=>ld .u ⟨D,0,none⟩ F.drew fun (G:Int)=>ld .u ⟨D,1,none⟩ F.drew fun (H:Int)=>ld .u ⟨D,2,none⟩ F.drew fun (I:Int)=>cW 167 ([A.fst.v,.u G]) ([.one .slice]) F.drew fun J L=>held [cEl ⟨D,2,none⟩ (.u I),cEl ⟨D,1,none⟩ (.u H)] L<|cW 167 ([J.v,.u H]) ([.one .slice]) L fun O P=>held [cEl ⟨D,2,none⟩ (.u I)] P<|cW 167 ([O.v,.u I]) ([.one .slice]) P fun R S=>z ((R,IntKind.wrap .i64 (A.snd+1))) S) (ld (.int .u64) ⟨b,0,none⟩ B fun (T:Int)=>cW 114 ([.u (IntKind.wrap .u32 (Int.tmod T 2)),.b 1,A.fst.v]) ([.one .slice,.one .i]) B fun (U:Sl×Int) V=>K U.fst V)) ((v,0)) x
theorem qkS {s w K} (hF:qho s K w):cW 133 [.agg s.toArray] [.one .slice] w K:=qad (an:=[.n,.n,.o [[0,1,2,3,5,6,7,4,8,9]],.n,.o [[0,1,2,4,5,7,8,3,6,9,10]],.n,.n,.l [(3,.one .slice),(29,.one .i)],.n,.n,.n,.n,.o [[0,1,2,4,5,7,8,3,6,9,10]],.n,.n]) Tryz.func133 hF
def qhK (b:Sl) (K:((List Value))->WP) (w:World):Prop:=new (Obj.cells #[b.v] 23) w fun c d=>newZ Tryz.prog 121 d fun e f=>newZ Tryz.prog 121 f fun g h=>callV Tryz.prog (Value.func (Fn.func 231) #[] #[.pointer (pW c)]) [] ([.one .u]) h fun (i:Int) j=>st ⟨g,0,none⟩ ([.int .u64 (IntKind.wrap .u64 (IntKind.wrap .u64 i*2^32))]) j fun k=>ld (.int .u64) ⟨g,0,none⟩ k.drew fun (l:Int)=>callV Tryz.prog (Value.func (Fn.func 231) #[] #[.pointer (pW c)]) [] ([.one .u]) k.drew fun (m:Int) n=>held [cEl ⟨g,0,none⟩ (.int .u64 l)] n<|st ⟨g,0,none⟩ ([.int .u64 (bits BinOp.or IntKind.u64 l (IntKind.wrap .u64 m))]) n fun p=>callV Tryz.prog (Value.func (Fn.func 231) #[] #[.pointer (pW c)]) [] ([.one .u]) p fun (q:Int) r=>st ⟨g,1,none⟩ ([.u q]) r fun s=>callV Tryz.prog (Value.func (Fn.func 231) #[] #[.pointer (pW c)]) [] ([.one .u]) s fun (t:Int) u=>st ⟨g,2,none⟩ ([.u t]) u fun v=>callV Tryz.prog (Value.func (Fn.func 231) #[] #[.pointer (pW c)]) [] ([.one .u]) v fun (x:Int) y=>st ⟨g,3,none⟩ ([.u x]) y fun z=>loop (Int) (fun A (B:Int) C=>cond (decide (B<8)) (chk (0<=B/\B<(↑8:Int))<|callV Tryz.prog (Value.func (Fn.func 231) #[] #[.pointer (pW c)]) [] ([.one .u]) C fun (D:Int) E=>st (Addr.add (Addr.add ⟨g,4,none⟩ (Int.toNat B*3)) 0) ([.u D]) E fun F=>callV Tryz.prog (Value.func (Fn.func 231) #[] #[.pointer (pW c)]) [] ([.one .u]) F fun (G:Int) H=>st (⟨(Addr.add (Addr.add ⟨g,0,none⟩ 4) (Int.toNat B*3)).block,(Addr.add (Addr.add ⟨g,0,none⟩ 4) (Int.toNat B*3)).off+1,none⟩) ([.u G]) H fun I=>callV Tryz.prog (Value.func (Fn.func 231) #[] #[.pointer (pW c)]) [] ([.one .u]) I fun (J:Int) L=>st (⟨(Addr.add (Addr.add ⟨g,0,none⟩ 4) (Int.toNat B*3)).block,(Addr.add (Addr.add ⟨g,0,none⟩ 4) (Int.toNat B*3)).off+2,none⟩) ([.u J]) L fun M=>A (IntKind.wrap .i64 (B+1)) M) (ldV 28 ⟨g,0,none⟩ C fun N=>chk (List.length N=28)<|st ⟨e,0,none⟩ N C fun O=>ldV 28 ⟨e,0,none⟩ O fun P=>K P O)) 0 z
theorem qlb {b w K} (hF:qhK b K w):cW 207 [b.v] [.raw] w K:=qad (an:=[.n,.n,.n,.n,.n,.o [[0,1,2,3,4,5,6,7]],.n,.n,.n,.n,.n,.l [(29,.one .i)],.n,.n,.n,.n,.n,.n,.n,.n]) Tryz.func207 hF
def qeu (cap0:Addr) (K:Int->WP) (w:World):Prop:=ld .slice cap0 w.drew fun b=>idx b 0 1 fun c=>ld .b c w.drew fun (d:Int)=>ld .slice cap0 w.drew fun e=>idx e 1 1 fun f=>ld .b f w.drew fun (g:Int)=>ld .slice cap0 w.drew fun h=>idx h 2 1 fun i=>ld .b i w.drew fun (j:Int)=>ld .slice cap0 w.drew fun k=>idx k 3 1 fun l=>ld .b l w.drew fun (m:Int)=>ld .slice cap0 w.drew fun n=>slc n (some 4) none none 1 fun o=>st cap0 ([o.v]) w.drew fun p=>K (bits BinOp.or IntKind.u32 (bits BinOp.or IntKind.u32 (bits BinOp.or IntKind.u32 (IntKind.wrap .u32 (IntKind.wrap .u32 d*2^24)) (IntKind.wrap .u32 (IntKind.wrap .u32 g*2^16))) (IntKind.wrap .u32 (IntKind.wrap .u32 j*2^8))) (IntKind.wrap .u32 m)) p
theorem qiq {cap0 w K} (hF:qeu cap0 K w):cW 231 [.pointer (some cap0)] [.one .u] w K:=qad (an:=[.n,.n,.o [[0,1,2,3,4,5,6,7,8,9,10,11,12,13,14,15,16,17,18,19,20,21,22]],.n,.n]) Tryz.func231 hF
def qje (place:Int) (b:Sl) (K:((List Value)×Int)->WP) (w:World):Prop:=newZ Tryz.prog 121 w fun c d=>join (Bool) (fun e=>cond (!place==0) (e (!place==1) d) (e false d)) fun (f:Bool) g=>cond f (runQ [.raw] (fun h=>(Instr.build 121 #[]).run Tryz.prog h) g fun i=>chk (List.length i=28)<|st ⟨c,0,none⟩ i g fun j=>ldV 28 ⟨c,0,none⟩ j fun k=>K ((k,1)) j) (cW 126 ([.u (IntKind.wrap .u32 place),b.v]) ([.one .b,.one .slice,.one .i]) g fun (l:Int×Sl×Int) m=>cond (!l.snd.snd==0) (runQ [.raw] (fun n=>(Instr.build 121 #[]).run Tryz.prog n) m fun o=>chk (List.length o=28)<|st ⟨c,0,none⟩ o m fun p=>ldV 28 ⟨c,0,none⟩ p fun q=>K ((q,l.snd.snd)) p) (join (Bool) (fun r=>cond (!l.fst==1) (r true m) (r (!(↑l.snd.fst.len:Int)==116) m)) fun (s:Bool) t=>cond s (runQ [.raw] (fun u=>(Instr.build 121 #[]).run Tryz.prog u) t fun v=>chk (List.length v=28)<|st ⟨c,0,none⟩ v t fun x=>ldV 28 ⟨c,0,none⟩ x fun y=>K ((y,2)) x) (cW 207 ([l.snd.fst.v]) [.raw] t fun z A=>newZ Tryz.prog 121 A fun B C=>chk (List.length z=28)<|st ⟨B,0,none⟩ z C fun D=>ld (.int .u64) ⟨B,0,none⟩ D fun (E:Int)=>cond (!Int.tmod E 2==IntKind.wrap .u64 place) (runQ [.raw] (fun F=>(Instr.build 121 #[]).run Tryz.prog F) D fun G=>chk (List.length G=28)<|st ⟨c,0,none⟩ G D fun H=>ldV 28 ⟨c,0,none⟩ H fun I=>K ((I,2)) H) (ldV 28 ⟨B,0,none⟩ D fun J=>chk (List.length J=28)<|st ⟨c,0,none⟩ J D fun L=>ldV 28 ⟨c,0,none⟩ L fun M=>K ((M,0)) L))))
theorem qmx {place b w K} (hF:qje place b K w):cW 162 [.i place,b.v] [.raw,.one .i] w K:=qad (an:=[.n,.n,.j [(15,.one .bool)],.n,.n,.n,.n,.n,.n,.j [(35,.one .bool)],.n,.n,.n,.n,.n,.n]) Tryz.func162 hF
def qgI (a:Sl) (b:Sl) (K:((List Value)×Int)->WP) (w:World):Prop:=newZ Tryz.prog 121 w fun c d=>cW 162 ([.i 0,a.v]) ([.raw,.one .i]) d fun (e:List Value×Int) f=>newZ Tryz.prog 121 f fun g h=>chk (List.length e.fst=28)<|st ⟨g,0,none⟩ e.fst h fun i=>cW 162 ([.i 1,b.v]) ([.raw,.one .i]) i fun (j:List Value×Int) k=>newZ Tryz.prog 121 k fun l m=>chk (List.length j.fst=28)<|st ⟨l,0,none⟩ j.fst m fun n=>join (Bool) (fun o=>cond (!e.snd==0) (o (!j.snd==0) n) (o false n)) fun (p:Bool) q=>cond p (runQ [.raw] (fun r=>(Instr.build 121 #[]).run Tryz.prog r) q fun s=>chk (List.length s=28)<|st ⟨c,0,none⟩ s q fun t=>ldV 28 ⟨c,0,none⟩ t fun u=>K ((u,5)) t) (join (Bool) (fun v=>cond (!e.snd==0) (v true q) (cond (j.snd==0) (ld (.int .u64) ⟨l,0,none⟩ q fun (x:Int)=>ld (.int .u64) ⟨g,0,none⟩ q fun (y:Int)=>v (decide (x>y)) q) (v false q))) fun (z:Bool) A=>cond z (ldV 28 ⟨l,0,none⟩ A fun B=>chk (List.length B=28)<|st ⟨c,0,none⟩ B A fun C=>ldV 28 ⟨c,0,none⟩ C fun D=>K ((D,0)) C) (ldV 28 ⟨g,0,none⟩ A fun E=>chk (List.length E=28)<|st ⟨c,0,none⟩ E A fun F=>ldV 28 ⟨c,0,none⟩ F fun G=>K ((G,0)) F))
theorem qkD {a b w K} (hF:qgI a b K w):cW 129 [a.v,b.v] [.raw,.one .i] w K:=qad (an:=[.n,.n,.n,.n,.j [(20,.one .bool)],.n,.j [(28,.one .bool)],.n,.n]) Tryz.func129 hF
end Go.Proofs.YtmmkegapckbomaaGreatDoor
end
section
namespace Go.Proofs.YtmmkegapckbomaaGreatDoor
open Go Go.Pt List
attribute [local irreducible] ld ldA ldV fld fldA newZ st new idx idxS idxA slc slcS slcP mkS chk nn call callV inv run runQ runU join loop held ext rng undefer s2a nxt ent IntKind.wrap
def supV (q:Int) (t:List Int):List Value:=.int .u64 q::t.map (Value.int .u32)
def superB (q:Int) (t:List Int):List Int:=be (IntKind.wrap .u32 (Int.fdiv q (2^32))) 4++be (IntKind.wrap .u32 q) 4++t.flatMap (be · 4)
theorem qbW {q:Int} {t:List Int} (h:t.length=27):(superB q t).length=116:=by
 rw [superB,zF,zF,qaq,qaq,qcE,h]
theorem qaJ {q:Int} {t:List Int} (h:t.length=27):(supV q t).length=28:=by simp [supV,h]
theorem qfe {q:Int} {t:List Int} (n:Nat) (h:n<t.length):(supV q t).toArray[n+1]?=some (.u (t.getD n 0)):=by
 simp [supV,yQ,zA h]
theorem qni (q:Int) (t:List Int):((supV q t).all Value.oneCell')=true:=by
 rw [all_eq_true]
 intro v h
 rcases zG.1 h with rfl | h
 ·rfl
 ·obtain ⟨x,_,rfl⟩:=mem_map.1 h; rfl
theorem qmO {α:Type} {enc:α->List Value} {k:Nat} {w:World} {s:Sl} {l:List α} {B:List Nat} (h:Buf enc k w s l B):Buf enc k w.drew s l B:=h
def Apart (w0:World) (L:List (Nat×Obj)) (B:List Nat):Prop:=∀ b∈B,w0.heap.size<=b/\b∉L.map (·.1)
theorem Apart.cons {w0:World} {L:List (Nat×Obj)} {B:List Nat} {r:Nat} {o:Obj} (h:Apart w0 L B) (C:r∉B):Apart w0 ((r,o)::L) B:=fun b u=>⟨(h b u).1,fun A=>by
 rcases zG.1 A with rfl | A
 ·exact C u
 ·exact (h b u).2 A⟩
theorem Apart.tail {w0:World} {L:List (Nat×Obj)} {B:List Nat} {p:Nat×Obj} (h:Apart w0 (p::L) B):Apart w0 L B:=fun b u=>⟨(h b u).1,fun A=>(h b u).2 (zN _ A)⟩
theorem qpW {l:List Int} {j:Nat} (h:j+3<=l.length):l.drop j=l.getD j 0::l.getD (j+1) 0::l.getD (j+2) 0::l.drop (j+3):=by
 rw [zX (by omega),zX (i:=j+1) (by omega),zX (i:=j+1+1) (by omega)]
 simp only [yQ]
 rw [zA (show j<l.length by omega),zA (show j+1<l.length by omega),zA (show j+2<l.length by omega)]
 rfl
theorem take3 {l:List Int} {j:Nat} (h:j+3<=l.length):l.take (j+3)=l.take j++[l.getD j 0,l.getD (j+1) 0,l.getD (j+2) 0]:=by
 rw [take_add,qpW h]
 rfl
theorem quM {l:List Int} {j:Nat} (h:j+3<=l.length):(l.map (Value.int .u32)).extract j (j+3)=[.u (l.getD j 0),.u (l.getD (j+1) 0),.u (l.getD (j+2) 0)]:=by
 rw [extract_eq_take_drop,<- xP,qpW h,show j+3-j=3 by omega]
 rfl
theorem qcj {w0 w:World} {L:List (Nat×Obj)} {s:Sl} {l:List Int} {B:List Nat} {n:Int} {K:Sl->WP} (E:Own [] w0 w L) (h:BufB w s l B) (G:Apart w0 L B) (O:l.length<=1000000)
  (Q:∀ C B' w',Own [] w0 w' L->BufB w' C (l++be n 4) B'->Apart w0 L B'->K C w') :
  cW 167 [s.v,.u n] [.one .slice] w K:=by
 refine qnb ?_
 unfold qkE
 refine qmj h O fun C B' w' R U n'=>?_
 refine Q C B' w' (E.frame U (fun b A=>.inr (G b A).1) (fun p I A=>(G _ A).2 (zY I))) R fun b A=>?_
 rcases n' b A with J | J
 ·exact G b J
 ·refine ⟨zL E.fr.size J,fun V=>?_⟩
  obtain ⟨p,I,rfl⟩:=mem_map.1 V
  have:=qab (E.blk p I)
  omega
theorem qrO {w:World} {q:Int} {t:List Int} {K:Sl->WP} (hv:Hv w) (I:t.length=27)
  (hk:∀ b T w',w'.heap[b]?=some (.cells (bytesA (sealV (IntKind.wrap .u32 (Int.tmod q 2)) 1 (superB q t))) T (0,0))->Fr [] w w'->w.heap.size<=b->K ⟨pW b,512,512⟩ w') :
  cW 133 [.agg (supV q t).toArray] [.one .slice] w K:=by
 refine qkS ?_
 unfold qho
 refine Own.new' (Own.start [] w) fun r1 w1 e1 f1 A=>?_
 have U:(supV q t).toArray[0]?=some (.int .u64 q):=rfl
 have G:=fun n (h:n<27)=>qfe (q:=q) (t:=t) n (by omega)
 refine Own.ld A.drew 0 rfl q U ?_
 refine Own.ld A.drew 0 rfl q U ?_
 refine qcj (s:=⟨none,0,0⟩) (l:=[]) (B:=[]) A.drew (.nil _ _ _) (fun b C=>by cases C) (by simp) fun s5 B5 w6 A V J=>?_
 refine qah (A.cell (off:=0) 0 rfl U) ?_
 refine qcj A V J (by simp [qaq]) fun s8 B8 w9 A b8 n8=>?_
 refine Own.ld A.drew 0 rfl (t.getD 0 0) (G 0 (by decide)) ?_
 refine Own.ld A.drew 0 rfl (t.getD 1 0) (G 1 (by decide)) ?_
 refine Own.ld A.drew 0 rfl (t.getD 2 0) (G 2 (by decide)) ?_
 refine qcj A.drew (qmO b8) n8 (by simp [qaq]) fun az aA aB A aa ab=>?_
 refine qar (A.cell (off:=3) 0 rfl (G 2 (by decide))) (A.cell (off:=2) 0 rfl (G 1 (by decide))) ?_
 refine qcj A aa ab (by simp [qaq]) fun aC aD aE A ac ad=>?_
 refine qah (A.cell (off:=3) 0 rfl (G 2 (by decide))) ?_
 refine qcj A ac ad (by simp [qaq]) fun aF ae aG A O af=>?_
 have hr:((supV q t).toArray.toList.drop 4).take 24=(t.drop 3).map (Value.int .u32):=by
  show (List.drop 3 (t.map (Value.int .u32))).take 24=_
  rw [xP,zS (by rw [yB,zK,I]; decide)]
 refine qcf (A.at (i:=0) rfl) ((t.drop 3).map (Value.int .u32)) (by rw [zK,yB,I]) hr ?_
 have ag:(t.drop 3).length=24:=by rw [yB,I]
 have ah:t=[t.getD 0 0,t.getD 1 0,t.getD 2 0]++t.drop 3:=by
  have:=qpW (l:=t) (j:=0) (by omega)
  rw [xE] at this
  exact this
 have base:[]++be (IntKind.wrap .u32 (Int.fdiv q (2^32))) 4++be (IntKind.wrap .u32 q) 4++be (t.getD 0 0) 4++be (t.getD 1 0) 4++be (t.getD 2 0) 4=be (IntKind.wrap .u32 (Int.fdiv q (2^32))) 4++be (IntKind.wrap .u32 q) 4++[t.getD 0 0,t.getD 1 0,t.getD 2 0].flatMap (be · 4):=by
  simp
 rw [base] at O
 refine qak (fun x w'=>∃ (i:Nat) (B:List Nat),x.2=i/\i<=8/\BufB w' x.1 (be (IntKind.wrap .u32 (Int.fdiv q (2^32))) 4++be (IntKind.wrap .u32 q) 4++[t.getD 0 0,t.getD 1 0,t.getD 2 0].flatMap (be · 4)++((t.drop 3).take (3*i)).flatMap (be · 4)) B/\Own [] w w' [(r1,.cells (supV q t).toArray 121 (0,0))]/\Apart w [(r1,.cells (supV q t).toArray 121 (0,0))] B) (fun x _=>(8-x.2).toNat)
  ⟨0,ae,rfl,by omega,by simpa using O,A,af⟩ ?_
 rintro ⟨s,ii⟩ w2 ⟨i,B,Q,aI,E,A,nb⟩ X hX
 simp only at Q E
 subst Q
 dsimp only
 have al:(be (IntKind.wrap .u32 (Int.fdiv q (2^32))) 4++be (IntKind.wrap .u32 q) 4++[t.getD 0 0,t.getD 1 0,t.getD 2 0].flatMap (be · 4)++((t.drop 3).take (3*i)).flatMap (be · 4)).length<=200:=by
  rw [zF,zF,zF,qaq,qaq,qcE,qcE,yK,ag]
  show 4+4+3*4+_<=200
  omega
 refine qaa (fun hc=>?_) (fun hc=>?_)
 ·have hi:i<8:=by have:=zC hc; omega
  refine qbg ⟨by omega,by omega⟩ ?_
  have h3:3*i+3<=(t.drop 3).length:=by omega
  refine qtX ((t.drop 3).getD (3*i) 0,(t.drop 3).getD (3*i+1) 0,(t.drop 3).getD (3*i+2) 0) ?_ ?_
  ·have:=quM h3
   rw [show Int.toNat (i:Int)*3=3*i by simp; omega]
   exact this
  refine Own.new' A fun r2 w3 e3 f3 u=>?_
  refine Own.sz u 0 rfl _ fun w4 u f4=>?_
  have aj:=E.lt
  have R:r2∉B:=fun C=>by have:=aj _ C; omega
  have E:=(E.frame0 f3).frame f4 (fun b C hm=>by simp only [zE] at hm; subst hm; exact R C)
  refine Own.ld u.drew 0 rfl ((t.drop 3).getD (3*i) 0) rfl ?_
  refine Own.ld u.drew 0 rfl ((t.drop 3).getD (3*i+1) 0) rfl ?_
  refine Own.ld u.drew 0 rfl ((t.drop 3).getD (3*i+2) 0) rfl ?_
  refine qcj u.drew (qmO E) (nb.cons R) (by omega) fun s5 B5 w5 u V J=>?_
  refine qar (u.cell (off:=2) 0 rfl rfl) (u.cell (off:=1) 0 rfl rfl) ?_
  refine qcj u V J (by rw [zF,qaq]; omega) fun s6 B6 w6 u b6 n6=>?_
  refine qah (u.cell (off:=2) 0 rfl rfl) ?_
  refine qcj u b6 n6 (by rw [zF,zF,qaq,qaq]; omega) fun s7 B7 w7 u b7 n7=>?_
  rw [wi' _ (by omega)]
  refine hX _ _ ⟨i+1,B7,by simp,by omega,?_,u.sub (sublist_cons_self _ _),n7.tail⟩ (by dsimp only; omega)
  rw [show 3*(i+1)=3*i+3 by omega,take3 h3,yP]
  have e:([(t.drop 3).getD (3*i) 0,(t.drop 3).getD (3*i+1) 0,(t.drop 3).getD (3*i+2) 0]:List Int).flatMap (be · 4)=be ((t.drop 3).getD (3*i) 0) 4++be ((t.drop 3).getD (3*i+1) 0) 4++be ((t.drop 3).getD (3*i+2) 0) 4:=by simp
  rw [e]
  simpa only [zV] using b7
 ·obtain rfl:i=8:=by have:=zB hc; omega
  rw [zS (by omega),zV,<- yP,<- ah] at E
  refine Own.ld A 0 rfl q U ?_
  have C:=E.rds (S:=[]) qat (by simp)
  refine qph C (hv.frame0 A.fr) (by show (superB q t).length<=_; rw [qbW I]; decide) (fun h=>?_) fun _ b T w5 h5 f5 J=>?_
  ·have h':500<(superB q t).length:=h
   rw [qbW I] at h'
   exact absurd h' (by decide)
  ·exact hk b T w5 h5 (A.fr.trans' f5 (by simp)) (zL A.fr.size J)
theorem qci {w0 w:World} {L:List (Nat×Obj)} {r:Nat} {s:Sl} {l:List Int} {K:Int->WP} (I:Own [] w0 w L) (i:Nat) (hi:L[i]?=some (r,.cells #[s.v] 23 (0,0))) (h:RdB [] w0 s l) (J:4<=l.length)
  (O:∀ C w',RdB [] w0 C (l.drop 4)->Own [] w0 w' (L.set i (r,.cells #[C.v] 23 (0,0)))->K (first4 l) w') :
  callV Tryz.prog (.func (.func 231) #[] #[.pointer (pW r)]) [] [.one .u] w K:=by
 refine qbm (lb:=[.pointer (pW r)]) rfl (by kernel_rfl) ?_
 refine qiq ?_
 unfold qeu
 have A:=I.drew
 have E:RdB [] w.drew s l:=h.frame0 A.fr
 refine Own.ld A i hi s rfl ?_
 refine RdB.at E 0 rfl (getD_some (by omega)) ?_
 refine Own.ld A i hi s rfl ?_
 refine RdB.at E 1 rfl (getD_some (by omega)) ?_
 refine Own.ld A i hi s rfl ?_
 refine RdB.at E 2 rfl (getD_some (by omega)) ?_
 refine Own.ld A i hi s rfl ?_
 refine RdB.at E 3 rfl (getD_some (by omega)) ?_
 refine Own.ld A i hi s rfl ?_
 refine Rds.drop h 4 rfl J (by omega) fun C Q=>?_
 refine Own.st A i hi _ rfl rfl rfl fun w' G _=>?_
 exact O C w' Q G
def parseQ (l:List Int):Int:=bits .or .u64 (IntKind.wrap .u64 (IntKind.wrap .u64 (first4 l)*2^32)) (IntKind.wrap .u64 (first4 (l.drop 4)))
def parseT (l:List Int):List Int:=(List.range 27).map fun i=>first4 (l.drop (8+4*i))
theorem qaN (l:List Int):(parseT l).length=27:=by simp [parseT]
def supN (q:Int) (f:Nat->Int) (n:Nat):Array Value:=(supV q ((List.range n).map f++zs (27-n))).toArray
theorem qpo {q x y:Int} {A Z:List Int}:splice (supV q (A++x::Z)).toArray (A.length+1) [.u y]=(supV q (A++y::Z)).toArray:=by
 apply Array.ext'
 have:=qd1 (.int .u64 q::A.map (Value.int .u32)) [Value.int .u32 x] [Value.int .u32 y] (Z.map (Value.int .u32)) rfl
 rw [qas _ _ _ (by simp [supV])]
 simpa [supV] using this
theorem qcn {q:Int} {f:Nat->Int} {n:Nat} (h:n<27):splice (supN q f n) (n+1) [.u (f n)]=supN q f (n+1):=by
 have C:zs (27-n)=0::zs (27-(n+1)):=by rw [show 27-n=(27-(n+1))+1 by omega]; rfl
 have:=qpo (q:=q) (x:=0) (y:=f n) (A:=(List.range n).map f) (Z:=zs (27-(n+1)))
 rw [zK,length_range] at this
 rw [supN,C,this,supN,range_succ,xM,zV]
 rfl
theorem qq4 {q h:Int} {f:Nat->Int} {n:Nat}:splice (supN q f n) 0 [.int .u64 h]=supN h f n:=by
 apply Array.ext'
 rw [qas _ _ _ (by simp [supN,supV])]
 simp [supN,supV]
theorem qct {q:Int} {f:Nat->Int} {n:Nat} (h:n<=27):(supN q f n).size=28:=by
 simp [supN,supV,qaP]; omega
theorem qrS {q:Int} {f:Nat->Int}:supN q f 27=(supV q ((List.range 27).map f)).toArray:=by
 show (supV q ((List.range 27).map f++[])).toArray=_
 rw [xG]
theorem qrk {S:List Nat} {w:World} {s:Sl} {l:List Int} {K:List Value->WP} (h:RdB S w s l) (hl:l.length=116)
  (hk:∀ w',Fr [] w w'->K (supV (parseQ l) (parseT l)) w') :
  cW 207 [s.v] [.raw] w K:=by
 refine qlb ?_
 unfold qhK
 have h0:RdB [] w s l:=h.weak (by simp)
 have J:((Tryz.prog.info? 121).bind (·.zero)).map (fun z=>z.cells.toList)=some (supV 0 (zs 27)):=by kernel_rfl
 refine Own.new' (Own.start [] w) fun r1 w1 e1 f1 u=>?_
 refine Own.newZ u J fun r3 w2 e3 u=>?_
 refine Own.newZ u J fun C w3 e5 u=>?_
 refine qci u 2 rfl h0 (by omega) fun s1 w4 h1 u=>?_
 have E:∀ (q:Int),(supV q (zs 27)).toArray=supN q (fun i=>first4 (l.drop (8+4*i))) 0:=fun q=>rfl
 refine Own.st' u 0 rfl (supN (IntKind.wrap .u64 (IntKind.wrap .u64 (first4 l)*2^32)) (fun i=>first4 (l.drop (8+4*i))) 0) ?_ rfl ?_ fun w5 u _=>?_
 ·rw [E 0]; exact qq4
 ·exact zO rfl
 refine Own.ld u.drew 0 rfl (IntKind.wrap .u64 (IntKind.wrap .u64 (first4 l)*2^32)) rfl ?_
 refine qci u.drew 2 rfl h1 (by rw [yB]; omega) fun s2 w6 O u=>?_
 refine qah (u.cell (off:=0) 0 rfl rfl) ?_
 refine Own.st' u 0 rfl (supN (parseQ l) (fun i=>first4 (l.drop (8+4*i))) 0) qq4 rfl (zO rfl) fun w7 u _=>?_
 rw [xC] at O
 refine qci u 2 rfl O (by rw [yB]; omega) fun s3 w8 Q u=>?_
 refine Own.st' u 0 rfl (supN (parseQ l) (fun i=>first4 (l.drop (8+4*i))) 1) (qcn (by decide)) rfl (by show 1+1<=_; rw [qct (by decide)]; decide) fun w9 u _=>?_
 rw [xC] at Q
 refine qci u 2 rfl Q (by rw [yB]; omega) fun s4 ah R u=>?_
 refine Own.st' u 0 rfl (supN (parseQ l) (fun i=>first4 (l.drop (8+4*i))) 2) (qcn (by decide)) rfl (by show 2+1<=_; rw [qct (by decide)]; decide) fun ai u _=>?_
 rw [xC] at R
 refine qci u 2 rfl R (by rw [yB]; omega) fun s5 ak U u=>?_
 refine Own.st' u 0 rfl (supN (parseQ l) (fun i=>first4 (l.drop (8+4*i))) 3) (qcn (by decide)) rfl (by show 3+1<=_; rw [qct (by decide)]; decide) fun al u _=>?_
 rw [xC] at U
 refine qak (fun x w'=>∃ (i:Nat) (G:Sl),x=i/\i<=8/\RdB [] w G (l.drop (20+12*i))/\
   Own [] w w' [(C,.cells (supN (parseQ l) (fun i=>first4 (l.drop (8+4*i))) (3+3*i)) 121 (0,0)),(r3,.cells (supV 0 (zs 27)).toArray 121 (0,0)),(r1,.cells #[G.v] 23 (0,0))]) (fun x _=>(8-x).toNat)
  ⟨0,s5,rfl,by omega,U,u⟩ ?_
 rintro x am ⟨i,G,rfl,an,hx,u⟩ X hX
 refine qaa (fun I=>?_) (fun I=>?_)
 ·have hi:i<8:=by have:=zC I; omega
  refine qbg ⟨by omega,by omega⟩ ?_
  simp only [Addr.add_mk]
  have aq:Int.toNat (i:Int)=i:=by omega
  refine qci u 2 rfl hx (by rw [yB]; omega) fun s6 A V u=>?_
  show Pt.st ⟨C,4+Int.toNat (i:Int)*3+0,none⟩ _ _ _
  refine Own.st' u 0 rfl (supN (parseQ l) (fun i=>first4 (l.drop (8+4*i))) (3+3*i+1)) ?_ rfl ?_ fun ar u _=>?_
  ·rw [show 20+12*i=8+4*(3+3*i) by omega,show 4+Int.toNat (i:Int)*3+0=(3+3*i)+1 by omega]
   exact qcn (f:=fun i=>first4 (l.drop (8+4*i))) (by omega)
  ·rw [qct (by omega)]; show _+1<=28; omega
  rw [xC] at V
  refine qci u 2 rfl V (by rw [yB]; omega) fun s7 au h7 u=>?_
  show Pt.st ⟨C,0+4+Int.toNat (i:Int)*3+1,none⟩ _ _ _
  refine Own.st' u 0 rfl (supN (parseQ l) (fun i=>first4 (l.drop (8+4*i))) (3+3*i+2)) ?_ rfl ?_ fun av u _=>?_
  ·rw [show 20+12*i+4=8+4*(3+3*i+1) by omega]
   show splice _ (0+4+Int.toNat (i:Int)*3+1) _=_
   rw [show 0+4+Int.toNat (i:Int)*3+1=(3+3*i+1)+1 by omega]
   exact qcn (f:=fun i=>first4 (l.drop (8+4*i))) (by omega)
  ·rw [qct (by omega)]; show 0+4+Int.toNat (i:Int)*3+1+1<=28; omega
  rw [xC] at h7
  refine qci u 2 rfl h7 (by rw [yB]; omega) fun s8 ax h8 u=>?_
  show Pt.st ⟨C,0+4+Int.toNat (i:Int)*3+2,none⟩ _ _ _
  refine Own.st' u 0 rfl (supN (parseQ l) (fun i=>first4 (l.drop (8+4*i))) (3+3*i+3)) ?_ rfl ?_ fun ay u _=>?_
  ·rw [show 20+12*i+4+4=8+4*(3+3*i+2) by omega]
   show splice _ (0+4+Int.toNat (i:Int)*3+2) _=_
   rw [show 0+4+Int.toNat (i:Int)*3+2=(3+3*i+2)+1 by omega]
   exact qcn (f:=fun i=>first4 (l.drop (8+4*i))) (by omega)
  ·rw [qct (by omega)]; show 0+4+Int.toNat (i:Int)*3+2+1<=28; omega
  rw [xC] at h8
  rw [wi' _ (by omega)]
  refine hX _ _ ⟨i+1,s8,by simp,by omega,?_,?_⟩ (by omega)
  ·rw [show 20+12*(i+1)=20+12*i+4+4+4 by omega]; exact h8
  ·rw [show 3+3*(i+1)=3+3*i+3 by omega]; exact u
 ·obtain rfl:i=8:=by have:=zB I; omega
  rw [show 3+3*8=27 from rfl,qrS] at u
  refine qcf (u.at (i:=0) rfl) (supV (parseQ l) (parseT l)) (qaJ (qaN l)) (by rw [xE]; exact zS (Nat.le_of_eq (qaJ (qaN l)))) ?_
  refine qbg (qaJ (qaN l)) ?_
  refine Own.st' u 1 rfl (supV (parseQ l) (parseT l)).toArray ?_ (qni _ _) ?_ fun A u _=>?_
  ·apply Array.ext'
   rw [qas _ _ _ (by rw [qaJ (qaN l)]; decide),qaJ (qaN l),take_zero,xH,drop_of_length_le (by decide),xG]
  ·rw [qaJ (qaN l)]; decide
  refine qcf (u.at (i:=1) rfl) (supV (parseQ l) (parseT l)) (qaJ (qaN l)) (by rw [xE]; exact zS (Nat.le_of_eq (qaJ (qaN l)))) ?_
  exact hk A u.fr
end Go.Proofs.YtmmkegapckbomaaGreatDoor
end
