/- Texts PlB, PlC, PlD, SrtB, SrtC, SrtD, SrtE, SrtF, SrtG, SrtH, PlE, RfA, PlF, PgA, LwL, FormsT, PtQ, PgB, PgC, PgD, TrA, PgE, TrB: contracts of the program's functions, one behind the other. Conditions: those that stand in each line. -/
import Derived.Test.YtmmkegapckbomaaGreatDoorCRH1
import Derived.Sort.LotC
import Derived.Sort.LotA
import Derived.Sort.LotD1
import Derived.Laws.Bits64b
import Derived.Laws.Closers25b
import Derived.KernelRfl
import Derived.Sort.LotD2
import Derived.Sort.LotB
import Derived.Sort.LotD3
import Derived.Shelf.Bytes.SlCountOne
import Derived.Laws.CopyRow
import Derived.Laws.IdiomCopy
import Derived.Test.YtmmkegapckbomaaGreatDoorTie
import Derived.LaidMore
import Derived.MakeChecks
import Derived.OpenShut
import Derived.ProofKit
import Derived.Test.YtmmkegapckbomaaGreatDoorProg
import Derived.Laws.Externs
section
set_option linter.unusedVariables false
set_option linter.unusedSimpArgs false
namespace Go.Proofs.YtmmkegapckbomaaGreatDoor
open Go Go.Pt Go.Sort
attribute [local irreducible] ld ldA ldV fld fldA newZ st new idx idxS idxA slc slcS slcP mkS chk nn call callV inv run runQ runU join loop held ext rng undefer s2a nxt ent IntKind.wrap
theorem qdq:∃ i,Tryz.prog.info? 37=some i/\i.zero=some (.int .u32 0)/\i.size=1/\i.bytes=4:=qeh (by kernel_rfl)
theorem qpK (v:Value) (k:Nat) (h:v.cells = #[v]):Builtin.zeroCells v.cells k=Array.replicate k v:=by
 rw [h]
 apply Array.ext
 ·simp [Builtin.zeroCells]
 ·intro i h1 h2
  simp [Builtin.zeroCells,Nat.mod_one]
theorem qlz (l:List Int):u32s l.toArray=(l.map (Value.int .u32)).toArray:=by simp [u32s]
theorem qfy {d:Array Int} {l:List Int} {n i:Nat} (h:d.toList.take n=l) (hi:i<n) (hd:n<=d.size):l[i]?=some d[i]!:=by
 rw [<- h,List.getElem?_take,if_pos hi]
 simp [show i<d.size by omega]
theorem qnR {α:Type} (x:α):∀ (l:List α) (n:Nat),n<l.length->(l.set n x).take (n+1)=l.take n++[x]
 | a::l,0,_=>by simp
 | a::l,n+1,h=>by simpa using qnR x l n (by simpa using h)
theorem quv {w:World} {pb:Nat} {mb:Value} {R:List Nat} {d:Array Int} {n:Nat} {x:Int} {K:Unit->World->Prop} (h:RowAt w pb mb R d n) (hn:n<=1000000)
  (hk:∀ R' d' w',RowAt w' pb mb R' d' (n+1)->d'.toList.take (n+1)=d.toList.take n++[x]->Fr (pb::R) w w'->(∀ b∈R',b∈R\/w.heap.size<=b)->K () w') :
  inv Tryz.prog (.iface 243 (.pointer (some ⟨pb,0,none⟩))) "Push" [.iface 37 (.int .u32 x)] [] w K:=by
 obtain ⟨i31,hi,hz,hsz,hby⟩:=qdq
 refine qoX (f:=259) (by kernel_rfl) (e:=199) (by kernel_rfl) (by kernel_rfl) ?_
 refine qi1 (r:=some ⟨pb,0,none⟩) ?_
 unfold qeA
 have ta:(Instr.typeAssert (.iface 37 (.int .u32 x)) 20 37 true).run Tryz.prog w=.ok (.tuple #[.int .u32 x,.bool true]) w:=by kernel_rfl
 refine qbl (ts:=[.one (.int .u32),.one .bool]) (x,true) ta ?_
 refine cond_true rfl ?_
 refine qae ?_
 have zc:∀ k,Builtin.zeroCells (Value.int .u32 0).cells k=Array.replicate k (.int .u32 0):=fun k=>qpK _ k rfl
 rcases h with ⟨h0,hd,hR,hb⟩ | ⟨rb,T,hR,hb,hrb,hne,hnd⟩
 ·-- nil
  subst h0 hd hR
  refine qaq (c:=.slice) hb ⟨none,0,0⟩ rfl ?_
  have ho:Own [pb] w w [(pb,.cells #[.slice none 0 0,mb] PT (0,0))]:=⟨by simpa using hb,by simp,.refl _ _,by simp⟩
  refine Own.new ho fun tb w1 et st1 ho=>?_
  refine qt5 (P:=Tryz.prog) (e:=37) (by kernel_rfl) hi hz [.int .u32 x] (by rw [hsz]; rfl) (fun j u hj=>?_) (by omega) (by rw [hby]; omega) (by omega) fun q hq1 hq2=>?_
  ·match j,hj with
   | 0,hj=>
    have:=ho.cell (off:=0) 0 rfl rfl
    simp at hj
    subst hj
    exact this
   | j+1,hj=>simp at hj
  rw [zc]
  have ho:=ho.drew.alloc (.cells (#[Value.int .u32 x]++Array.replicate (q-1) (.int .u32 0)) 37 (0,0))
  refine qae ?_
  refine Own.st ho 2 rfl _ rfl rfl rfl fun w2 ho _=>?_
  have hnp:w1.drew.heap.size≠pb:=by
   have:=ho.nodup
   simp at this
   exact fun e=>this.1.2 e
  have hd':#[Value.int .u32 x]++Array.replicate (q-1) (.int .u32 0)=u32s (([x]++List.replicate (q-1) 0).toArray):=by
   rw [qlz]
   apply Array.ext'
   simp
  refine hk [w1.drew.heap.size] (([x]++List.replicate (q-1) 0).toArray) w2 (.inr ⟨w1.drew.heap.size,37,rfl,?_,?_,hnp,by simp⟩) (by simp) (ho.fr.mono (fun i hi _=>by simpa using hi)) (fun b hb=>?_)
  ·have:=ho.at (i:=2) rfl
   have e:(([x]++List.replicate (q-1) (0:Int)).toArray).size=q:=by simp; omega
   rw [e]
   exact this
  ·have:=ho.at (i:=0) rfl
   rw [<- hd']
   exact this
  ·simp at hb
   subst hb
   right
   have:=ho.own (w1.drew.heap.size,_) (by simp; exact .inl rfl)
   simp at this
   omega
 ·subst hR
  refine qaq (c:=.slice) hb ⟨some ⟨rb,0,none⟩,n,d.size⟩ rfl ?_
  dsimp only
  have ho:Own [pb,rb] w w [(pb,plB rb n d.size mb),(rb,.cells (u32s d) T (0,0))]:=⟨by simpa using ⟨hb,hrb⟩,by simpa using fun e=>hne e.symm,.refl _ _,by simp⟩
  refine Own.new ho fun tb w1 et st1 ho=>?_
  have hnews:∀ (j:Nat) u,[Value.int .u32 x][j]?=some u->w1.cell? ((⟨tb,0,none⟩:Addr).add j)=some u:=fun j u hj=>by
   match j,hj with
   | 0,hj=>
    have:=ho.cell (off:=0) 0 rfl rfl
    simp at hj
    subst hj
    exact this
   | j+1,hj=>simp at hj
  by_cases hroom:n+1<=d.size
  ·refine qt1 (P:=Tryz.prog) (e:=37) (by kernel_rfl) hi [.int .u32 x] (ho.at (i:=2) rfl) (by rw [hsz]; rfl) hnews (by simp [Value.oneCell']) hroom (by rw [hsz,qd2]; simp; omega) ?_
   have hsp:splice (u32s d) (0+n*i31.size) [.int .u32 x]=u32s (d.setIfInBounds n x):=by
    rw [hsz,Nat.zero_add,Nat.mul_one]
    exact qnW d n x
   rw [hsp]
   have ho:=ho.upd (o':=.cells (u32s (d.setIfInBounds n x)) T (0,0)) 2 rfl
   refine qae ?_
   refine Own.st ho 1 rfl _ rfl rfl rfl fun w2 ho _=>?_
   refine hk [rb] (d.setIfInBounds n x) w2 (.inr ⟨rb,T,rfl,?_,?_,hne,by simpa using hroom⟩) ?_ (ho.fr.mono (fun i hi _=>by simpa using hi)) (fun b hb=>.inl hb)
   ·have:=ho.at (i:=1) rfl
    rw [Array.size_setIfInBounds]
    exact this
   ·exact ho.at (i:=2) rfl
   ·rw [Array.toList_setIfInBounds]
    exact qnR x _ _ (by simp; omega)
  ·have hnd':n=d.size:=by omega
   refine qsA (P:=Tryz.prog) (e:=37) (by kernel_rfl) hi hz (d.toList.map (Value.int .u32)) [.int .u32 x] (by rw [hsz]; simp; omega) (fun j u hj=>?_) (by rw [hsz]; rfl) hnews (by omega) (by rw [hby]; omega) (by omega) fun q hq1 hq2=>?_
   ·rw [Addr.add_mk,qai (ho.at (i:=2) rfl),Nat.zero_add]
    rw [List.getElem?_map] at hj
    unfold u32s
    rw [Array.getElem?_map]
    simpa using hj
   rw [zc]
   have hcs:(d.toList.map (Value.int .u32)).toArray++[Value.int .u32 x].toArray++Array.replicate (q-(n+1)) (.int .u32 0)=u32s ((d.toList++[x]++List.replicate (q-(n+1)) (0:Int)).toArray):=by
    rw [qlz]
    apply Array.ext'
    simp
   rw [hcs]
   have e:((d.toList++[x]++List.replicate (q-(n+1)) (0:Int)).toArray).size=q:=by simp; omega
   have ho:=ho.drew.alloc (.cells (u32s ((d.toList++[x]++List.replicate (q-(n+1)) (0:Int)).toArray)) 37 (0,0))
   refine qae ?_
   refine Own.st ho 2 rfl _ rfl rfl rfl fun w2 ho _=>?_
   have hnp:w1.drew.heap.size≠pb:=by
    have:=ho.nodup
    simp at this
    exact fun e=>this.1.2.1 e
   refine hk [w1.drew.heap.size] _ w2 (.inr ⟨w1.drew.heap.size,37,rfl,?_,ho.at (i:=0) rfl,hnp,by rw [e]; exact hq1⟩) ?_ (ho.fr.mono (fun i hi _=>by simpa using hi)) (fun b hb=>?_)
   ·have:=ho.at (i:=2) rfl
    rw [e]
    exact this
   ·rw [hnd']
    simp [List.take_append,List.take_of_length_le]
   ·simp at hb
    subst hb
    right
    show w.heap.size<=w1.heap.size
    omega
theorem quC {w:World} {pb rb:Nat} {mb:Value} {d:Array Int} {n:Nat} {T:TypeId} {K:Value->World->Prop} (hb:w.heap[pb]?=some (plB rb (n+1) d.size mb)) (hrb:w.heap[rb]?=some (.cells (u32s d) T (0,0))) (hne:rb≠pb) (hn:n+1<=d.size) (hn2:n<=1000000)
  (hk:∀ w',w'.heap[pb]?=some (plB rb n d.size mb)->w'.heap[rb]?=some (.cells (u32s d) T (0,0))->Fr [pb] w w'->K (.iface 37 (.int .u32 d[n]!)) w') :
  inv Tryz.prog (.iface 243 (.pointer (some ⟨pb,0,none⟩))) "Pop" [] [.one .any] w K:=by
 refine qoX (f:=258) (by kernel_rfl) (e:=199) (by kernel_rfl) (by kernel_rfl) ?_
 refine qko (r:=some ⟨pb,0,none⟩) ?_
 unfold qfG
 have ho:Own [pb] w w [(pb,plB rb (n+1) d.size mb)]:=⟨by simpa using hb,by simp,.refl _ _,by simp⟩
 have ha:Arr rb T w w d:=.start hrb
 refine qae (Own.ld (c:=.slice) ho.drew 0 rfl ⟨some ⟨rb,0,none⟩,n+1,d.size⟩ rfl ?_)
 refine qae (Own.ld (c:=.slice) ho.drew 0 rfl ⟨some ⟨rb,0,none⟩,n+1,d.size⟩ rfl ?_)
 dsimp only
 refine ha.drew.rd n (by rw [wi _ (by omega)]; omega) (by omega) (by omega) ?_
 refine qae (Own.ld (c:=.slice) ho.drew.drew 0 rfl ⟨some ⟨rb,0,none⟩,n+1,d.size⟩ rfl ?_)
 refine qae (Own.ld (c:=.slice) ho.drew.drew 0 rfl ⟨some ⟨rb,0,none⟩,n+1,d.size⟩ rfl ?_)
 dsimp only
 rw [wi _ (by omega)]
 refine qgR ⟨by omega,by dsimp only; omega⟩ ?_
 refine qae ?_
 refine Own.st ho.drew.drew 0 rfl _ rfl rfl rfl fun w2 ho2 _=>?_
 refine hk w2 ?_ ?_ ho2.fr
 ·have:=ho2.at (i:=0) rfl
  rw [show (((n+1:Nat):Int)-1).toNat=n by omega] at this
  exact this
 ·rw [ho2.fr.block rb (qac hrb) (by simpa using hne)]
  exact hrb
theorem qea {d d':Array Int} {n:Nat} (h:PermIn 0 n d d'):(d'.toList.take n).Perm (d.toList.take n):=by
 have:=h.2.2
 simpa [Array.toList_extract] using this
theorem qsM {w:World} {pb:Nat} {mb:Value} {R:List Nat} {d:Array Int} {n:Nat} {x:Int} {K:Unit->World->Prop} (h:RowAt w pb mb R d n) (hn:n<=1000000) (hh:IsHeap d n)
  (hk:∀ R' d' w',RowAt w' pb mb R' d' (n+1)->IsHeap d' (n+1)->(d'.toList.take (n+1)).Perm (d.toList.take n++[x])->Fr (pb::R) w w'->(∀ b∈R',b∈R\/w.heap.size<=b)->K () w') :
  call Tryz.prog 153 [.iface 243 (.pointer (some ⟨pb,0,none⟩)),.iface 37 (.int .u32 x)] [] w K:=by
 have hdn:n<=d.size:=by
  rcases h with ⟨h0,_⟩ | ⟨_,_,_,_,_,_,h1⟩
  ·omega
  ·exact h1
 apply qmV
 unfold qjE
 refine quv h hn fun R1 d1 w1 hr ht hf hR=>?_
 rcases hr with ⟨h0,_⟩ | ⟨rb,T,hR1,hb,hrb,hne,hnd⟩
 ·omega
 subst hR1
 refine quf hb hne (.start hrb) ?_
 rw [wi _ (by omega),show ((n+1:Nat):Int)-1=(n:Nat) by omega]
 have hsame:∀ i,i<n->d1[i]! = d[i]!:=fun i hi=>by
  have h1:=qfy ht (show i<n+1 by omega) hnd
  rw [List.getElem?_append_left (by simp; omega)] at h1
  have h2:=qfy (d:=d) rfl hi hdn
  rw [h2] at h1
  exact (Option.some.inj h1).symm
 refine qur hb hne (.start hrb) (Nat.lt_succ_self n) ⟨hnd,by omega⟩ ⟨fun i h0 hi hin=>?_,fun i h0 hi hip _=>by omega⟩ fun d2 w2 hp hH ha=>?_
 ·rw [hsame i (by omega),hsame _ (by omega)]
  exact hh i h0 (by omega)
 ·refine hk [rb] d2 w2 (.inr ⟨rb,T,rfl,?_,ha.blk,hne,by rw [hp.1]; exact hnd⟩) hH ((qea hp).trans (by rw [ht])) (hf.trans' ha.fr fun i hi=>?_) hR
  ·rw [ha.fr.block pb (qac hb) (by simpa using fun e=>hne e.symm),hp.1]
   exact hb
  ·simp at hi
   subst hi
   rcases hR i (by simp) with h1 | h1
   ·exact .inl (List.mem_cons_of_mem _ h1)
   ·exact .inr h1
theorem IsHeap.min {d:Array Int} {n:Nat} (h:IsHeap d n):∀ i,i<n->d[0]!<=d[i]!:=by
 intro i
 induction i using Nat.strongRecOn with
 | _ i ih=>
  intro hi
  by_cases h0:i=0
  ·rw [h0]; exact Int.le_refl _
  ·exact Int.le_trans (ih ((i-1) / 2) (by omega) (by omega)) (h i (by omega) hi)
theorem qtS {w:World} {pb rb:Nat} {mb:Value} {d:Array Int} {n:Nat} {T:TypeId} {K:Value->World->Prop} (hb:w.heap[pb]?=some (plB rb (n+1) d.size mb)) (hrb:w.heap[rb]?=some (.cells (u32s d) T (0,0))) (hne:rb≠pb) (hnd:n+1<=d.size) (hn:n<=1000000) (hh:IsHeap d (n+1))
  (hk:∀ d' w',RowAt w' pb mb [rb] d' n->IsHeap d' n->(d[0]!::d'.toList.take n).Perm (d.toList.take (n+1))->Fr [pb,rb] w w'->K (.iface 37 (.int .u32 d[0]!)) w') :
  call Tryz.prog 211 [.iface 243 (.pointer (some ⟨pb,0,none⟩))] [.one .any] w K:=by
 apply qob
 unfold qlK
 refine quf hb hne (.start hrb) ?_
 rw [wi _ (by omega),show ((n+1:Nat):Int)-1=(n:Nat) by omega]
 refine qql (i:=0) (k:=n) hb hne (.start hrb) (by omega) (by omega) ⟨hnd,by omega⟩ fun w1 h1=>?_
 have hs1:(swp d 0 n).size=d.size:=Sort.size_swp _ _ _
 have hat:=qcb d (i:=0) (j:=n) (by omega) (by omega)
 refine qtJ (n:=n) hb hne h1 (by omega) ⟨by omega,by omega⟩ ⟨fun i h0 hi hin=>?_,fun i h0 hi hip hc=>by omega⟩ fun b d2 w2 hp hH h2=>?_
 ·rw [hat,hat,if_neg (by omega),if_neg (by omega),if_neg (by omega),if_neg (by omega)]
  exact hh i h0 (by omega)
 have hs2:=hp.1
 have hb2:w2.heap[pb]?=some (plB rb (n+1) d2.size mb):=by
  rw [h2.fr.block pb (qac hb) (by simpa using fun e=>hne e.symm),hs2,hs1]
  exact hb
 refine quC hb2 h2.blk hne (by omega) hn fun w3 g1 g2 g3=>?_
 have hlast:d2[n]! = d[0]!:=by
  rw [hp.2.1 n (.inr (Nat.le_refl _)),hat,if_pos rfl]
 rw [hlast]
 refine hk d2 w3 (.inr ⟨rb,T,rfl,g1,g2,hne,by omega⟩) hH ?_ ((h2.fr.mono (T:=[pb,rb]) (fun i hi _=>by simp at hi; simp [hi])).trans (g3.mono (fun i hi _=>by simp at hi; simp [hi])))
 have p1:=qea hp
 have p2:=qea (swp_permIn d 0 (n+1) 0 n (by omega) (by omega) (by omega) (by omega) (by omega))
 have e1:(swp d 0 n).toList.take (n+1)=(swp d 0 n).toList.take n++[d[0]!]:=by
  have hv:(swp d 0 n)[n]! = d[0]!:=by rw [hat,if_pos rfl]
  have hl:n<(swp d 0 n).toList.length:=by simp [hs1]; omega
  rw [List.take_succ_eq_append_getElem hl]
  congr 2
  rw [<- hv]
  simp [show n<(swp d 0 n).size by omega]
 rw [e1] at p2
 exact ((List.perm_append_singleton _ _).symm.trans (p1.append_right _)).trans p2
def ins (x:Int):List Int->List Int
 | []=>[x]
 | a::l=>if x<a then x::a::l else if x=a then a::l else a::ins x l
theorem qct {x:Int}:∀ {l:List Int},x∉l->(ins x l).Perm (x::l)
 | [],_=>.refl _
 | a::l,h=>by
  simp only [List.mem_cons,not_or] at h
  simp only [ins]
  split
  ·exact .refl _
  ·rw [if_neg h.1]
   exact ((qct h.2).cons a).trans (.swap x a l)
theorem qoS {x y:Int}:∀ {l:List Int},y∈ins x l->y=x\/y∈l
 | [],h=>by simp [ins] at h; exact .inl h
 | a::l,h=>by
  simp only [ins] at h
  split at h
  ·simp only [List.mem_cons] at h ⊢; exact h
  ·split at h
   ·exact .inr h
   ·simp only [List.mem_cons] at h ⊢
    rcases h with h | h
    ·exact .inr (.inl h)
    ·rcases qoS h with h | h
     ·exact .inl h
     ·exact .inr (.inr h)
theorem qce {x:Int}:∀ {l:List Int},l.Pairwise (· < ·)->(ins x l).Pairwise (· < ·)
 | [],_=>by simp [ins]
 | a::l,h=>by
  have h':=List.pairwise_cons.1 h
  simp only [ins]
  split
  ·rename_i hx
   refine List.pairwise_cons.2 ⟨fun b hb=>?_,h⟩
   rcases List.mem_cons.1 hb with rfl | hb
   ·exact hx
   ·exact Int.lt_trans hx (h'.1 b hb)
  ·split
   ·exact h
   ·rename_i h1 h2
    refine List.pairwise_cons.2 ⟨fun b hb=>?_,qce h'.2⟩
    rcases qoS hb with rfl | hb
    ·omega
    ·exact h'.1 b hb
theorem qnx {x:Int}:∀ {l:List Int},l.Pairwise (· < ·)->x∈l->ins x l=l
 | a::l,h,hx=>by
  have h':=List.pairwise_cons.1 h
  simp only [ins]
  rcases List.mem_cons.1 hx with rfl | hx
  ·rw [if_neg (Int.lt_irrefl _),if_pos rfl]
  ·have:=h'.1 x hx
   rw [if_neg (by omega),if_neg (by omega),qnx h'.2 hx]
theorem qdo {w:World} {b:Nat} (hb:b<w.heap.size) (o:Obj):Fr [b] w (upd w b o):=
 ⟨rfl,rfl,rfl,by rw [qbB]; exact Nat.le_refl _,fun j hj hS=>by rw [qaz _ _ _ _ hb,if_neg (by simpa using hS)]⟩
theorem RowAt.frame {w w':World} {pb:Nat} {m:Value} {R S:List Nat} {d:Array Int} {n:Nat} (h:RowAt w pb m R d n) (k:Fr S w w') (h1:pb∉S) (h2:∀ r∈R,r∉S):RowAt w' pb m R d n:=by
 rcases h with ⟨a,b,c,e⟩ | ⟨rb,T,a,b,c,e,f⟩
 ·exact .inl ⟨a,b,c,by rw [k.block pb (qac e) h1]; exact e⟩
 ·exact .inr ⟨rb,T,a,by rw [k.block pb (qac b) h1]; exact b,by rw [k.block rb (qac c) (h2 rb (by rw [a]; simp))]; exact c,e,f⟩
theorem qgr {α:Type} [DecidableEq α] {kv:α->Value} {w w':World} {b:Nat} {S:List Nat} {f:List (α×Value)} (h:MapAt kv w b f) (k:Fr S w w') (h1:b∉S):MapAt kv w' b f:=by
 obtain ⟨es,c,hb,he⟩:=h
 exact ⟨es,c,by rw [k.block b (qac hb) h1]; exact hb,he⟩
theorem RowAt.map_ne {w:World} {pb mb:Nat} {m:Value} {R:List Nat} {d:Array Int} {n:Nat} {f:List (Int×Value)} (h:RowAt w pb m R d n) (hm:MapAt u32V w mb f):pb≠mb/\∀ r∈R,r≠mb:=by
 obtain ⟨es,c,hb,_⟩:=hm
 rcases h with ⟨_,_,c',e⟩ | ⟨rb,T,a,b,c',e,_⟩
 ·refine ⟨fun e'=>?_,by simp [c']⟩
  subst e'
  rw [e] at hb; cases hb
 ·refine ⟨fun e'=>?_,fun r hr e'=>?_⟩
  ·subst e'
   rw [b] at hb; cases hb
  ·rw [a] at hr
   simp at hr
   subst hr e'
   rw [c'] at hb; cases hb
theorem PoolAt.frame {w w':World} {pb:Nat} {F S:List Nat} {l:List Int} (h:PoolAt w pb F l) (k:Fr S w w') (hd:∀ b∈F,b∉S):PoolAt w' pb F l:=by
 obtain ⟨⟨mb,R,d,f,rfl,hr,hm,h1,h2,h3,h4⟩,hs⟩:=h
 exact ⟨⟨mb,R,d,f,rfl,hr.frame k (hd _ (by simp)) (fun r hr=>hd r (by simp [hr])),qgr hm k (hd _ (by simp)),h1,h2,h3,h4⟩,hs⟩
theorem PoolAt.lt {w:World} {pb:Nat} {F:List Nat} {l:List Int} (h:PoolAt w pb F l):∀ b∈F,b<w.heap.size:=by
 obtain ⟨⟨mb,R,d,f,rfl,hr,⟨es,c,hb,_⟩,_⟩,_⟩:=h
 intro b hbm
 simp only [List.mem_cons] at hbm
 rcases hr with ⟨_,_,c',e⟩ | ⟨rb,T,a,b',c',e,_⟩
 ·rcases hbm with rfl | rfl | hbm
  ·exact qac e
  ·exact qac hb
  ·rw [c'] at hbm; cases hbm
 ·rcases hbm with rfl | rfl | hbm
  ·exact qac b'
  ·exact qac hb
  ·rw [a] at hbm
   simp at hbm
   subst hbm
   exact qac c'
theorem qmx {w:World} {pb:Nat} {F:List Nat} {l:List Int} {n:Int} {K:Bool->World->Prop} (h:PoolAt w pb F l) (hl:l.length<=1000000)
  (hk:∀ F' w',PoolAt w' pb F' (ins n l)->Fr F w w'->(∀ b∈F',b∈F\/w.heap.size<=b)->K (decide (n∉l)) w') :
  call Tryz.prog 116 [.pointer (some ⟨pb,0,none⟩),.int .u32 n] [.one .bool] w K:=by
 refine qjg (p:=some ⟨pb,0,none⟩) ?_
 unfold qeq
 refine qmZ h ?_
 by_cases hx:n∈l
 ·refine cond_true (by simpa using hx) ?_
  have:=hk F w (by rw [qnx h.sorted hx]; exact h) (.refl _ _) (fun b hb=>.inl hb)
  simpa [hx] using this
 refine cond_false (by simpa using hx) ?_
 obtain ⟨s,mb',hcell,_,_⟩:=h.cells
 have hsort:=h.sorted
 obtain ⟨mb,R,d,f,rfl,hr,hm,hp,hh,hf,h1⟩:=h.ex
 have hmb:mb'=mb:=by
  rcases hr with ⟨_,_,_,e⟩ | ⟨rb,T,_,b,_⟩
  ·have h3:=congrArg (fun o=>match o with | some (Obj.cells cs _ _)=>cs[1]? | _=>none) (hcell.symm.trans e)
   simpa using h3
  ·have h3:=congrArg (fun o=>match o with | some (Obj.cells cs _ _)=>cs[1]? | _=>none) (hcell.symm.trans b)
   simpa [plB] using h3
 subst hmb
 refine qae ?_
 refine qaq (c:=.map) hcell (some mb') rfl ?_
 have hpos:posOf n f=none:=by
  rcases qdT (x:=n) h1 with ⟨hp,_⟩ | ⟨j,_,hx',_⟩
  ·exact hp
  ·exact absurd (hf.mem_iff.1 hx') hx
 obtain ⟨o,hrun,hm1⟩:=qqe (P:=Tryz.prog) (t:=200) (et:=3) (v:=.int .i64 1) (by kernel_rfl) qbR hm n hpos
 refine qhl _ hrun ?_
 obtain ⟨hne1,hne2⟩:=hr.map_ne hm
 have hmlt:mb'<w.heap.size:=by obtain ⟨es,c,hb,_⟩:=hm; exact qac hb
 have hfr:=qdo hmlt o
 have hr1:=hr.frame hfr (by simpa using hne1) (fun r hr=>by simpa using hne2 r hr)
 refine qae ?_
 refine qsM hr1 hl hh fun R' d' w2 hr2 hh2 hp2 hf2 hR2=>?_
 have hperm:=qct hx
 have hlen:(ins n l).length=l.length+1:=by have:=hperm.length_eq; simpa using this
 have hm2:MapAt u32V w2 mb' (f++[(n,.int .i64 1)]):=qgr hm1 hf2 (by simp only [List.mem_cons,not_or]; exact ⟨fun e=>hne1 e.symm,fun e=>hne2 _ e rfl⟩)
 have:=hk (pb::mb'::R') w2 ⟨⟨mb',R',d',f++[(n,.int .i64 1)],rfl,by rw [hlen]; exact hr2,hm2,?_,by rw [hlen]; exact hh2,?_,?_⟩,qce hsort⟩
  ((hfr.mono (T:=pb::mb'::R) (fun i hi _=>by simp at hi; simp [hi])).trans (hf2.mono (fun i hi _=>by simp at hi; rcases hi with rfl | hi <;> simp [*]))) (fun b hb=>?_)
 ·simpa [hx] using this
 ·rw [hlen]
  exact hp2.trans (((hp.append_right [n]).trans (List.perm_append_singleton _ _)).trans hperm.symm)
 ·rw [List.map_append]
  exact ((hf.append_right _).trans (List.perm_append_singleton _ _)).trans hperm.symm
 ·intro p hp
  rcases List.mem_append.1 hp with hp | hp
  ·exact h1 p hp
  ·simp at hp; rw [hp]
 ·simp only [List.mem_cons] at hb
  rcases hb with rfl | rfl | hb
  ·exact .inl (by simp)
  ·exact .inl (by simp)
  ·rcases hR2 b hb with h' | h'
   ·exact .inl (by simp [h'])
   ·rw [qbB] at h'; exact .inr h'
theorem qdS {α:Type}:∀ (l:List α) (i:Nat) (h:i<l.length),(l[i]::l.eraseIdx i).Perm l
 | a::l,0,_=>.refl _
 | a::l,i+1,h=>by
  simp only [List.getElem_cons_succ,List.eraseIdx_cons_succ]
  exact (List.Perm.swap _ _ _).trans ((qdS l i (by simpa using h)).cons a)
def takeV:List Int->(Int×Bool)×List Int
 | []=>((0,false),[])
 | x::r=>((x,true),r)
theorem qtp {w:World} {pb:Nat} {F:List Nat} {l:List Int} {K:Int×Bool->World->Prop} (h:PoolAt w pb F l) (hl:l.length<=1000000)
  (hk:∀ F' w',PoolAt w' pb F' (takeV l).2->Fr F w w'->(∀ b∈F',b∈F\/w.heap.size<=b)->K (takeV l).1 w') :
  call Tryz.prog 171 [.pointer (some ⟨pb,0,none⟩)] [.one (.int .u32),.one .bool] w K:=by
 refine qhE (p:=some ⟨pb,0,none⟩) ?_
 unfold qdN
 have hsort:=h.sorted
 have hwhole:=h
 obtain ⟨mb,R,d,f,rfl,hr,hm,hp,hh,hf,h1⟩:=h.ex
 rcases hr with ⟨h0,hd,hR,hb⟩ | ⟨rb,T,hR,hb,hrb,hne,hnd⟩
 ·have hl0:l=[]:=List.eq_nil_of_length_eq_zero h0
  subst hl0
  refine qae ?_
  refine qaq (c:=.slice) hb ⟨none,0,0⟩ rfl ?_
  refine cond_true rfl ?_
  exact hk _ w hwhole (.refl _ _) (fun b hb=>.inl hb)
 subst hR
 refine qae ?_
 refine qaq (c:=.slice) hb ⟨some ⟨rb,0,none⟩,l.length,d.size⟩ rfl ?_
 match l,hl,hk,hsort,hwhole,hb,hp,hh,hf,hnd with
 | [],hl,hk,hsort,hwhole,hb,hp,hh,hf,hnd=>
  refine cond_true rfl ?_
  exact hk _ w hwhole (.refl _ _) (fun b hb=>.inl hb)
 | x::r,hl,hk,hsort,hwhole,hb,hp,hh,hf,hnd=>
  simp only [List.length_cons] at hb hp hh hnd hl ⊢
  refine cond_false (by simp; omega) ?_
  refine qae ?_
  have hne':=(show RowAt w pb (.map (some mb)) [rb] d (r.length+1) from .inr ⟨rb,T,rfl,hb,hrb,hne,hnd⟩).map_ne hm
  have hd0:d[0]! = x:=by
   have hmem:d[0]!∈x::r:=hp.mem_iff.1 (by
    have:=qfy (d:=d) rfl (show 0<r.length+1 by omega) hnd
    exact List.mem_of_getElem? this)
   have hx:x∈d.toList.take (r.length+1):=hp.mem_iff.2 (by simp)
   obtain ⟨i,hi,hix⟩:=List.getElem_of_mem hx
   have hi':i<r.length+1:=by simp at hi; omega
   have h2:=qfy (d:=d) rfl hi' hnd
   rw [List.getElem?_eq_getElem hi,hix] at h2
   have hmin:=hh.min i hi'
   rw [<- Option.some.inj h2] at hmin
   rcases List.mem_cons.1 hmem with e | e
   ·exact e
   ·have:=(List.pairwise_cons.1 hsort).1 _ e
    omega
  refine qtS hb hrb hne hnd (by omega) hh fun d2 w2 hr2 hh2 hp2 hf2=>?_
  rw [hd0] at hp2 ⊢
  have ta:(Instr.typeAssert (.iface 37 (.int .u32 x)) 20 37 true).run Tryz.prog w2=.ok (.tuple #[.int .u32 x,.bool true]) w2:=by kernel_rfl
  refine qbl (ts:=[.one (.int .u32),.one .bool]) (x,true) ta ?_
  have hm2:MapAt u32V w2 mb f:=qgr hm hf2 (by simp only [List.mem_cons,List.not_mem_nil,or_false,not_or]; exact ⟨fun e=>hne'.1 e.symm,fun e=>hne'.2 rb (by simp) e.symm⟩)
  obtain ⟨s2,hc2⟩:∃ s:Sl,w2.heap[pb]?=some (.cells #[.slice s.a s.len s.cap,.map (some mb)] PT (0,0)):=by
   rcases hr2 with ⟨_,_,_,hb'⟩ | ⟨rb',T',_,hb',_⟩
   ·exact ⟨⟨none,0,0⟩,hb'⟩
   ·exact ⟨⟨some ⟨rb',0,none⟩,_,_⟩,hb'⟩
  refine qae ?_
  refine qaq (c:=.map) hc2 (some mb) rfl ?_
  obtain ⟨o,hrun,hm3⟩:=qp7 (P:=Tryz.prog) (t:=200) (et:=3) (kt:=37) (ty:=0) (by kernel_rfl) qbR hm2 x
  refine qrj (ts:=[]) () _ hrun ?_
  rcases qdT (x:=x) h1 with ⟨_,hx'⟩ | ⟨j,hpos,_,hj⟩
  ·exact absurd (hf.mem_iff.2 (by simp)) hx'
  rw [hpos] at hm3
  have hmlt:mb<w2.heap.size:=by obtain ⟨es,c,hb,_⟩:=hm2; exact qac hb
  have hfr:=qdo hmlt o
  refine hk [pb,mb,rb] (upd w2 mb o) ⟨⟨mb,[rb],d2,f.eraseIdx j,rfl,hr2.frame hfr (by simpa using hne'.1) (fun r hr=>by simpa using hne'.2 r hr),hm3,(hp2.trans hp).cons_inv,hh2,?_,fun p hp=>h1 p (List.mem_of_mem_eraseIdx hp)⟩,(List.pairwise_cons.1 hsort).2⟩
   ((hf2.mono (T:=[pb,mb,rb]) (fun i hi _=>by simp at hi; rcases hi with rfl | rfl <;> simp)).trans (hfr.mono (fun i hi _=>by simp at hi; simp [hi]))) (fun b hb=>.inl hb)
  show ((f.eraseIdx j).map (·.1)).Perm r
  rw [qbb]
  obtain ⟨hjl,hje⟩:=List.getElem?_eq_some_iff.1 hj
  have:=qdS _ _ hjl
  rw [hje] at this
  exact (this.trans hf).cons_inv
section
section
variable {blk:Nat} {T:ArrT} {w0 w:World} {d:Array Int} {len cap:Nat}
end
end
section
section
variable {blk:Nat} {T:ArrT} {w0 w:World} {d:Array Int} {len cap:Nat}
end
end
section
section
variable {blk:Nat} {T:ArrT} {w0 w:World} {d:Array Int} {len cap:Nat}
end
end
end Go.Proofs.YtmmkegapckbomaaGreatDoor
end
section
set_option linter.unusedVariables false
set_option linter.unusedSimpArgs false
namespace Go.Proofs.YtmmkegapckbomaaGreatDoor
open Go Go.Pt Go.Sort
attribute [local irreducible] ld ldA ldV fld fldA newZ st new idx idxS idxA slc slcS slcP mkS chk nn call callV inv run runQ runU join loop held ext rng undefer s2a nxt ent IntKind.wrap
end Go.Proofs.YtmmkegapckbomaaGreatDoor
end
section
set_option linter.unusedVariables false
set_option linter.unusedSimpArgs false
namespace Go.Proofs.YtmmkegapckbomaaGreatDoor
open Go Go.Pt Go.Sort
attribute [local irreducible] ld ldA ldV fld fldA newZ st new idx idxS idxA slc slcS slcP mkS chk nn call callV inv run runQ runU join loop held ext rng undefer s2a nxt ent IntKind.wrap
structure Arr2 (blk:Nat) (T:ArrT) (w0 w:World) (d:Array Int) (sb:Nat) (k:IntKind) (v:Int):Prop where
 arr:Arr blk T w0 w d
 cell:∃ T2,w.heap[sb]?=some (.cells #[.int k v] T2 (0,0))
 ne:sb≠blk
 new:w0.heap.size<=sb
section
variable {blk:Nat} {T:ArrT} {w0 w:World} {d:Array Int} {len cap sb:Nat} {k:IntKind} {v:Int}
end
section
section
variable {blk:Nat} {T:ArrT} {w0 w:World} {d:Array Int} {len cap sb:Nat} {k:IntKind} {v:Int}
end
end
section
section
variable {blk:Nat} {T:ArrT} {len cap:Nat}
end
end
theorem qew:∀ {l1 l2:List Int},l1.Perm l2->l1.Pairwise (·<=·)->l2.Pairwise (·<=·)->l1=l2
 | [],l2,h,_,_=>h.nil_eq
 | a::l1,[],h,_,_=>absurd h.symm.nil_eq (by simp)
 | a::l1,b::l2,h,h1,h2=>by
  have h1':=List.pairwise_cons.1 h1
  have h2':=List.pairwise_cons.1 h2
  have hab:a=b:=by
   have m1:a∈b::l2:=h.mem_iff.1 (by simp)
   have m2:b∈a::l1:=h.mem_iff.2 (by simp)
   rcases List.mem_cons.1 m1 with e | e
   ·exact e
   ·rcases List.mem_cons.1 m2 with e' | e'
    ·exact e'.symm
    ·have:=h2'.1 a e
     have:=h1'.1 b e'
     omega
  subst hab
  rw [qew h.cons_inv h1'.2 h2'.2]
abbrev encU:Int->List Value:=fun n=>[Value.int .u32 n]
abbrev Rd (S:List Nat) (w:World) (s:Sl) (l:List Int):Prop:=Rds encU 1 S w s l
abbrev BufU (w:World) (s:Sl) (l:List Int) (B:List Nat):Prop:=Buf encU 1 w s l B
theorem qaT:∀ x,(encU x).length=1:=fun _=>rfl
theorem Rd.at {S:List Nat} {w:World} {s:Sl} {l:List Int} (h:Rd S w s l) (n:Nat) {i x:Int} {K:Int->Prop} (hi:i=n) (hx:l[n]?=some x) (k:K x):idx s i 1 fun a=>ld (.int .u32) a w K:=
 Rds.get (c:=.int .u32) (y:=x) h n hi hx rfl k
theorem qs7 {w:World} {s:Sl} {l:List Int} {B:List Nat} {x:Int} {T:TypeId} {K:Sl->World->Prop} (h:BufU w s l B) (hl:l.length<=1000000)
  (kk:∀ s' B' w',BufU w' s' (l++[x]) B'->Fr B w w'->(∀ b∈B',b∈B\/w.heap.size<=b)->K s' w') :
  Pt.new (.cells #[.int .u32 x] T) w fun r w1=>Pt.run [Ty1.one Cell.slice] ((Builtin.append_ #[92,92] 92 #[.slice s.a s.len s.cap,.slice (some ⟨r,0,none⟩) 1 1]).run Tryz.prog w1) K:=by
 obtain ⟨i,hi,hz,hsz,hby⟩:=qdq
 exact Buf.push (e:=37) h qaT (by simp [Value.oneCell']) (by kernel_rfl) hi hz hsz rfl rfl (by rw [hby]; omega) (by omega) kk
theorem qju {w0 w:World} {F F':List Nat} (hF:∀ b∈F,w0.heap.size<=b) (hs:w0.heap.size<=w.heap.size) (h:∀ b∈F',b∈F\/w.heap.size<=b):∀ b∈F',w0.heap.size<=b:=by
 intro b hb
 rcases h b hb with h | h
 ·exact hF b h
 ·omega
end Go.Proofs.YtmmkegapckbomaaGreatDoor
end
section
set_option linter.unusedVariables false
set_option linter.unusedSimpArgs false
namespace Go.Proofs.YtmmkegapckbomaaGreatDoor
open Go Go.Pt
attribute [local irreducible] ld ldA ldV fld fldA newZ st new idx idxS idxA slc slcS slcP mkS chk nn call callV inv run runQ runU join loop held ext rng undefer s2a nxt ent IntKind.wrap
abbrev encB:Int->List Value:=fun n=>[Value.int .u8 n]
abbrev RdB (S:List Nat) (w:World) (s:Sl) (l:List Int):Prop:=Rds encB 1 S w s l
abbrev BufB (w:World) (s:Sl) (l:List Int) (B:List Nat):Prop:=Buf encB 1 w s l B
theorem qas:∀ x,(encB x).length=1:=fun _=>rfl
def bytesA (l:List Int):Array Value:=(l.map (Value.int .u8)).toArray
theorem qcw (l:List Int):(bytesA l).size=l.length:=by simp [bytesA]
theorem qaA (l:List Int):l.flatMap encB=l.map (Value.int .u8):=by
 induction l with
 | nil=>rfl
 | cons a l ih=>rw [List.flatMap_cons,ih]; rfl
theorem qj4:∃ i,Tryz.prog.info? 5=some i/\i.zero=some (.int .u8 0)/\i.size=1/\i.bytes=1:=qeh (by kernel_rfl)
theorem RdB.at {S:List Nat} {w:World} {s:Sl} {l:List Int} (h:RdB S w s l) (n:Nat) {i x:Int} {K:Int->Prop} (hi:i=n) (hx:l[n]?=some x) (k:K x):idx s i 1 fun a=>ld (.int .u8) a w K:=
 Rds.get (c:=.int .u8) (y:=x) h n hi hx rfl k
theorem qhh {S:List Nat} {w:World} {b o n cap:Nat} {L:List Int} {T:TypeId} {fr:Nat×Nat} (hb:w.heap[b]?=some (.cells (bytesA L) T fr)) (hn:o+n<=L.length) (hc:n<=cap) (hS:b∉S):RdB S w ⟨some ⟨b,o,none⟩,n,cap⟩ ((L.drop o).take n):=by
 refine ⟨by rw [List.length_take,List.length_drop]; dsimp only; omega,hc,.inr ⟨b,o,_,T,_,rfl,hb,hS,fun i x hx=>?_⟩⟩
 have hi:=(List.getElem?_eq_some_iff.1 hx).1
 rw [List.length_take,List.length_drop] at hi
 rw [List.getElem?_take,if_pos (by omega),List.getElem?_drop] at hx
 rw [Nat.mul_one]
 apply List.ext_getElem?
 intro j
 rw [List.getElem?_take,List.getElem?_drop]
 match j with
 | 0=>simp [bytesA,hx]
 | j+1=>simp
theorem qhq {b o len cap:Nat} {lo hi:Int} {size:Nat} {K:Sl->Prop} (h0:0<=lo) (h1:lo<=hi) (h2:hi<=cap) (h3:lo<cap) (k:K ⟨some ⟨b,o+lo.toNat*size,none⟩,hi.toNat-lo.toNat,cap-lo.toNat⟩):slc ⟨some ⟨b,o,none⟩,len,cap⟩ (some lo) (some hi) none size K:=by
 unfold slc
 refine ⟨by simpa using ⟨h0,h1,h2⟩,?_⟩
 simp only [Option.getD_none,Option.getD_some,Int.toNat_natCast]
 rw [if_neg (by omega)]
 simp only [Option.map_some,Addr.add_mk]
 exact k
theorem qi7 {b o len cap:Nat} {lo:Int} {size:Nat} {K:Sl->Prop} (h0:0<=lo) (h1:lo<=len) (h2:len<=cap) (h3:lo<cap) (k:K ⟨some ⟨b,o+lo.toNat*size,none⟩,len-lo.toNat,cap-lo.toNat⟩):slc ⟨some ⟨b,o,none⟩,len,cap⟩ (some lo) none none size K:=by
 unfold slc
 refine ⟨by simp; omega,?_⟩
 simp only [Option.getD_none,Option.getD_some,Int.toNat_natCast]
 rw [if_neg (by omega)]
 simp only [Option.map_some,Addr.add_mk]
 exact k
theorem Rds.part {α:Type} {enc:α->List Value} {k:Nat} {S:List Nat} {w:World} {s:Sl} {l:List α} (h:Rds enc k S w s l) {lo hi:Option Int} (a b:Nat) {K:Sl->Prop} (hlo:lo.getD 0=a) (hhi:hi.getD s.len=b) (hab:a<=b) (hb:b<=l.length)
  (kk:∀ s',s'.len=b-a->Rds enc k S w s' ((l.take b).drop a)->(s.a.isNone=true->s'.a.isNone=true)->K s'):slc s lo hi none k K:=by
 obtain ⟨h1,h2,h3⟩:=h
 unfold slc
 refine ⟨by rw [hlo,hhi]; simp; omega,kk _ ?_ ⟨?_,?_,?_⟩ ?_⟩
 ·rw [hlo,hhi]; simp
 ·rw [hlo,hhi]; simp; omega
 ·rw [hlo,hhi]; simp; omega
 ·by_cases he:(l.take b).drop a=[]
  ·exact .inl he
  ·right
   have hlt:a<b:=by
    rcases Nat.lt_or_ge a b with h | h
    ·exact h
    ·exact absurd (by rw [List.drop_eq_nil_of_le]; simp; omega) he
   rcases h3 with h3 | ⟨bl,o,cs,T,fr,ha,hbl,hnS,hc⟩
   ·rw [h3] at hb; simp at hb; omega
   ·refine ⟨bl,o+a*k,cs,T,fr,?_,hbl,hnS,fun i x hx=>?_⟩
    ·rw [hlo]
     simp only [Option.getD_none,Int.toNat_natCast]
     rw [if_neg (by omega),ha]
     simp [Addr.add_mk]
    ·rw [List.getElem?_drop,List.getElem?_take] at hx
     split at hx
     ·have:=hc (a+i) x hx
      rw [<- this,Nat.add_mul,Nat.add_assoc]
     ·cases hx
 ·intro hn
  rw [Option.isNone_iff_eq_none] at hn
  rw [hn]
  simp
def byteAt (n:Int) (j:Nat):Int:=IntKind.wrap .u8 (Int.fdiv n (2^min (8*j) 32))
def be (n:Int) (k:Nat):List Int:=(List.range k).map fun i=>byteAt n (k-1-i)
theorem qam (n:Int) (k:Nat):(be n k).length=k:=by simp [be]
theorem wi' (n:Int) (h:-1000000000000000<=n/\n<=1000000000000000):IntKind.wrap .i64 n=n:=by rw [IntWalk.i64_in]; omega
theorem qnt {S:List Nat} {w0 w:World} {L:List (Nat×Obj)} {b o k cap:Nat} {A X Z:List Int} {T:TypeId} {n:Int} {K:Unit->World->Prop} (h:Own S w0 w L) (i:Nat) (hi:L[i]?=some (b,.cells (bytesA (A++X++Z)) T (0,0))) (ho:A.length=o) (hX:X.length=k) (hk4:k<=4)
  (hk:∀ w',Own S w0 w' (L.set i (b,.cells (bytesA (A++be n k++Z)) T (0,0)))->K () w') :
  call Tryz.prog 150 [.slice (some ⟨b,o,none⟩) k cap,.int .u32 n] [] w K:=by
 refine qnY (b:=⟨some ⟨b,o,none⟩,k,cap⟩) ?_
 unfold qlP
 refine qak (fun x w'=>∃ j:Nat,x=j/\j<=k/\Own S w0 w' (L.set i (b,.cells (bytesA (A++((be n k).take j++X.drop j)++Z)) T (0,0)))) (fun x _=>((k:Int)-x).toNat) ⟨0,rfl,by omega,?_⟩ ?_
 ·have:L.set i (b,.cells (bytesA (A++((be n k).take 0++X.drop 0)++Z)) T (0,0))=L:=by
   apply List.ext_getElem?
   intro j
   rw [List.getElem?_set]
   by_cases hij:i=j
   ·subst hij
    rw [if_pos rfl,hi]
    have:=(List.getElem?_eq_some_iff.1 hi).1
    simp [this]
   ·rw [if_neg hij]
  rw [this]; exact h
 rintro x w1 ⟨j,rfl,hj,ho1⟩ Y hY
 have hil:=(List.getElem?_eq_some_iff.1 hi).1
 dsimp only
 refine qab (fun hc=>?_) (fun hc=>?_)
 ·have hjk:j<k:=by have:=of_decide_eq_true hc; omega
  have e1:IntKind.wrap .i64 (8*IntKind.wrap .i64 (IntKind.wrap .i64 ((k:Int)-1)-j))=((8*(k-1-j):Nat):Int):=by
   rw [wi' ((k:Int)-1) (by omega),wi' ((k:Int)-1-j) (by omega),wi' (8*((k:Int)-1-j)) (by omega)]; omega
  rw [e1,wi' _ (by omega)]
  refine qaX (by omega) ?_
  refine qcq (by omega) (by omega) ?_
  rw [Int.toNat_natCast,Nat.mul_one,Int.toNat_natCast]
  have hXj:X.drop j=X[j]::X.drop (j+1):=List.drop_eq_getElem_cons (by omega)
  have hbe:(be n k).take (j+1)=(be n k).take j++[byteAt n (k-1-j)]:=by
   rw [List.take_succ_eq_append_getElem (by rw [qam]; exact hjk)]
   simp [be]
  have hlen:((be n k).take j).length=j:=by rw [List.length_take,qam]; omega
  refine Own.st ho1 i (by rw [List.getElem?_set,if_pos rfl,if_pos hil]) (bytesA (A++((be n k).take (j+1)++X.drop (j+1))++Z)) ?_ rfl ?_ fun w2 ho2 _=>?_
  ·rw [splice,splice]
   apply Array.ext'
   rw [Array.toList_setIfInBounds]
   show (bytesA _).toList.set _ _=(bytesA _).toList
   unfold bytesA
   simp only [List.toList_toArray]
   rw [<- List.map_set,hXj,hbe,List.append_assoc A,List.set_append_right _ _ (by omega)]
   rw [show o+j-A.length=j by omega,List.append_assoc ((be n k).take j),List.set_append_right _ _ (by omega),hlen,Nat.sub_self,List.cons_append,List.set_cons_zero]
   simp only [List.append_assoc,List.cons_append,List.nil_append,byteAt]
  ·refine Nat.ble_eq_true_of_le ?_
   rw [qcw,hXj]
   simp only [List.length_append,List.length_cons,List.length_nil,hlen]
   omega
  ·refine hY _ _ ⟨j+1,by omega,by omega,?_⟩ (by omega)
   rw [List.set_set] at ho2
   exact ho2
 ·have hjk:j=k:=by have:=of_decide_eq_false hc; omega
  subst hjk
  rw [List.take_of_length_le (by rw [qam]; exact Nat.le_refl _),List.drop_of_length_le (by omega),List.append_nil] at ho1
  exact hk _ ho1
def getV (l:List Int):Int:=l.foldl (fun r x=>bits .or .u32 (IntKind.wrap .u32 (r*2^8)) (IntKind.wrap .u32 x)) 0
theorem qnV {S:List Nat} {w:World} {s:Sl} {l:List Int} {K:Int->World->Prop} (h:RdB S w s l) (hl:l.length<=100000) (hk:K (getV l) w):call Tryz.prog 157 [.slice s.a s.len s.cap] [.one (.int .u32)] w K:=by
 refine qn3 (b:=s) ?_
 unfold qlL
 have hlen:=h.1
 refine qak (fun x w'=>w'=w/\∃ i:Nat,x.2=i/\i<=l.length/\x.1=getV (l.take i)) (fun x _=>((l.length:Int)-x.2).toNat) ⟨rfl,0,rfl,by omega,rfl⟩ ?_
 rintro ⟨r,ii⟩ w' ⟨rfl,i,hi0,hi,hr⟩ X hX
 simp only at hi0 hr
 subst hi0 hr
 refine qab (fun hc=>?_) (fun hc=>?_)
 ·have hil:i<l.length:=by have:=of_decide_eq_true hc; omega
  refine RdB.at h i rfl (List.getElem?_eq_getElem hil) ?_
  rw [wi' _ (by omega)]
  refine hX _ _ ⟨rfl,i+1,by simp,by omega,?_⟩ (by dsimp only; omega)
  rw [List.take_succ_eq_append_getElem hil,getV,getV,List.foldl_append]
  rfl
 ·have hil:i=l.length:=by have:=of_decide_eq_false hc; omega
  subst hil
  rw [List.take_length]
  exact hk
theorem qh6 {S:List Nat} {w:World} {s:Sl} {l:List Int} {K:Sl->World->Prop} (h:RdB S w s l) (hl:l.length<=1000000)
  (hk:∀ s' B w',BufB w' s' l B->Fr [] w w'->(∀ b∈B,w.heap.size<=b)->(s.a.isNone=true->s'=⟨none,0,0⟩)->(s.a.isNone=false->s'.a.isNone=false)->K s' w') :
  cond (Option.isNone s.a) (K ⟨none,0,0⟩ w) (new (.cells #[] 5) w fun r w1=>Pt.run [Ty1.one Cell.slice] ((Builtin.append_ #[23,23] 23 #[.slice (some ⟨r,0,none⟩) 0 0,.slice s.a s.len s.cap]).run Tryz.prog w1) fun s' w'=>K s' w'):=by
 obtain ⟨i5,hi,hz,hsz,hby⟩:=qj4
 refine qab (fun hc=>?_) (fun hc=>?_)
 ·have hl0:l=[]:=by
   rcases h.2.2 with h3 | ⟨b,o,cs,T,fr,ha,_⟩
   ·exact h3
   ·rw [ha] at hc; cases hc
  subst hl0
  exact hk _ [] w (.nil _ _ _) (.refl _ _) (by simp) (fun _=>rfl) (fun h=>by rw [hc] at h; cases h)
 ·obtain ⟨a,ha⟩:∃ a,s.a=some a:=by cases hs:s.a with | none=>rw [hs] at hc; cases hc | some a=>exact ⟨a,rfl⟩
  have ho:=Own.start [] w
  refine Own.new ho fun r w1 e1 s1 ho=>?_
  have h1:RdB S w1 s l:=h.frame0 ho.fr
  have hb:BufB w1 ⟨some ⟨r,0,none⟩,0,0⟩ [] [r]:=Buf.fresh qas (ho.at (i:=0) rfl) rfl (Nat.le_refl _) (by simp) (by simp)
  have hlen:=h.1
  rw [ha]
  refine Buf.appSrc (s:=⟨some ⟨r,0,none⟩,0,0⟩) (ys:=l) (e:=5) hb qas (by kernel_rfl) hi hz hsz rfl (.ofSlice _ (e':=5) (by kernel_rfl) a s.len s.cap _ ?_ (h1.cells qas ha) ?_) hlen (by rw [hby,hlen]; simp; omega) (by rw [hlen]; simp; omega) fun s' B w' g1 g2 g3 g4=>?_
  ·rw [qaA]; simp [hlen]
  ·intro u hu
   rw [qaA] at hu
   obtain ⟨x,_,rfl⟩:=List.mem_map.1 hu
   rfl
  ·have hBn:∀ b∈B,w.heap.size<=b:=fun b hb=>by
    rcases g3 b hb with h | h
    ·simp at h; omega
    ·omega
   refine hk s' B w' (by simpa using g1) (ho.fr.trans' g2 (fun b hb=>by simp at hb; subst hb; exact .inr (by omega))) hBn (fun h=>by rw [hc] at h; cases h) (fun _=>?_)
   rcases g4 with hn | hn
   ·exact hn
   ·simp at hn
theorem qaR {S:List Nat} {w:World} {s:Sl} {l:List Int} {K:Sl->World->Prop} (h:RdB S w s l) (hl:l.length<=1000000)
  (hk:∀ s' B w',BufB w' s' l B->Fr [] w w'->(∀ b∈B,w.heap.size<=b)->(s.a.isNone=true->s'=⟨none,0,0⟩)->(s.a.isNone=false->s'.a.isNone=false)->K s' w') :
  call Tryz.prog 123 [.slice s.a s.len s.cap] [.one .slice] w K:=by
 refine qiW (s:=s) ?_
 unfold qet
 exact qh6 h hl hk
theorem qeB {S:List Nat} {w:World} {s:Sl} {l:List Int} {K:Sl->World->Prop} (h:RdB S w s l) (hl:l.length<=1000000)
  (hk:∀ s' B w',BufB w' s' l B->Fr [] w w'->(∀ b∈B,w.heap.size<=b)->(s.a.isNone=true->s'=⟨none,0,0⟩)->(s.a.isNone=false->s'.a.isNone=false)->K s' w') :
  call Tryz.prog 68 [.slice s.a s.len s.cap] [.one .slice] w K:=by
 refine qkw (b:=s) ?_
 unfold qgf
 exact qh6 h hl hk
def halvesL:List Int:=[0,274646895,549293790,820201905,1098587580,1361435347,1640403810,1905808397,2197175160,2460548119,2722870694,2987750089,3280807620,3553878443,3811616794,4084100981]
abbrev HG:Nat:=1
def Hv (w:World):Prop:=∃ T fr,w.heap[HG]?=some (.cells (halvesL.map (Value.int .u32)).toArray T fr)
theorem Hv.frame {S:List Nat} {w w':World} (h:Hv w) (f:Fr S w w') (hS:HG∉S):Hv w':=by
 obtain ⟨T,fr,hb⟩:=h
 exact ⟨T,fr,by rw [f.block HG (qac hb) hS]; exact hb⟩
theorem Hv.frame0 {w w':World} (h:Hv w) (f:Fr [] w w'):Hv w':=h.frame f (by simp)
theorem Hv.lt {w:World} (h:Hv w):HG<w.heap.size:=by obtain ⟨T,fr,hb⟩:=h; exact qac hb
theorem qpZ (x:Int):0<=bits .and .u32 x 15/\bits .and .u32 x 15<16:=by
 have h1:(BitVec.ofInt 32 x&&& BitVec.ofInt 32 15).toNat<16:=by
  rw [BitVec.toNat_and]
  exact Nat.lt_of_le_of_lt Nat.and_le_right (by decide)
 have h2:bits .and .u32 x 15=((BitVec.ofInt 32 x&&& BitVec.ofInt 32 15).toNat:Int):=by
  show IntKind.wrap .u32 _=_
  unfold IntKind.wrap
  have:(IntKind.u32.signed)=false:=rfl
  simp only [this,Bool.false_and,Bool.false_eq_true,if_false]
  have e:((2:Int)^IntKind.u32.bits)=4294967296:=rfl
  rw [e]
  exact Int.emod_eq_of_lt (by omega) (by
   have:(BitVec.ofInt IntKind.u32.bits x&&& BitVec.ofInt IntKind.u32.bits 15).toNat<16:=h1
   omega)
 rw [h2]
 omega
def half (x:Int):Int:=halvesL.getD x.toNat 0
def turn4 (r:Int):Int:=bits .xor .u32 (Int.fdiv r (2^4)) (half (bits .and .u32 r 15))
def crcStep (r x:Int):Int:=turn4 (turn4 (bits .xor .u32 r (IntKind.wrap .u32 x)))
def moreV (sum:Int) (l:List Int):Int:=bits .xor .u32 (l.foldl crcStep (bits .xor .u32 sum 4294967295)) 4294967295
def sumV (l:List Int):Int:=moreV 0 l
theorem qo4 {w:World} {x:Int} {K:Int->Prop} (h:Hv w) (k:K (half (bits .and .u32 x 15))):ld (.int .u32) (Addr.add ⟨HG,0,none⟩ (Int.toNat (bits .and .u32 x 15)*1)) w K:=by
 obtain ⟨T,fr,hb⟩:=h
 obtain ⟨h0,h1⟩:=qpZ x
 rw [Addr.add_mk]
 refine qaq hb _ ?_ k
 generalize bits .and .u32 x 15=y at h0 h1
 have hlt:y.toNat<halvesL.length:=by show y.toNat<16; omega
 rw [Nat.zero_add,Nat.mul_one]
 simp only [List.getElem?_toArray,List.getElem?_map,List.getElem?_eq_getElem hlt,Option.map_some,half,List.getD_eq_getElem?_getD,Option.getD_some]
 rfl
theorem qt2 {S:List Nat} {w:World} {s:Sl} {l:List Int} {sum:Int} {K:Int->World->Prop} (h:RdB S w s l) (hv:Hv w) (hl:l.length<=100000) (hk:K (moreV sum l) w) :
  call Tryz.prog 199 [.int .u32 sum,.slice s.a s.len s.cap] [.one (.int .u32)] w K:=by
 refine qnZ (b:=s) ?_
 unfold qlT
 have hlen:=h.1
 refine qak (fun x w'=>w'=w/\∃ i:Nat,x.2=i/\i<=l.length/\x.1=(l.take i).foldl crcStep (bits .xor .u32 sum 4294967295)) (fun x _=>((l.length:Int)-x.2).toNat) ⟨rfl,0,rfl,by omega,rfl⟩ ?_
 rintro ⟨r,ii⟩ w' ⟨rfl,i,hi0,hi,hr⟩ X hX
 simp only at hi0 hr
 subst hi0 hr
 refine qab (fun hc=>?_) (fun hc=>?_)
 ·have hil:i<l.length:=by have:=of_decide_eq_true hc; omega
  refine RdB.at h i rfl (List.getElem?_eq_getElem hil) ?_
  refine qaX (qpZ _) ?_
  refine qo4 hv ?_
  refine qaX (qpZ _) ?_
  refine qo4 hv ?_
  rw [wi' _ (by omega)]
  refine hX _ _ ⟨rfl,i+1,by simp,by omega,?_⟩ (by dsimp only; omega)
  rw [List.take_succ_eq_append_getElem hil,List.foldl_append]
  rfl
 ·have hil:i=l.length:=by have:=of_decide_eq_false hc; omega
  subst hil
  rw [List.take_length]
  exact hk
theorem qrQ {S:List Nat} {w:World} {s:Sl} {l:List Int} {K:Int->World->Prop} (h:RdB S w s l) (hv:Hv w) (hl:l.length<=100000) (hk:K (sumV l) w) :
  call Tryz.prog 151 [.slice s.a s.len s.cap] [.one (.int .u32)] w K:=by
 refine qpP (b:=s) ?_
 unfold qmQ
 exact qt2 h hv hl hk
end Go.Proofs.YtmmkegapckbomaaGreatDoor
end
section
namespace Go.Proofs.YtmmkegapckbomaaGreatDoor
open Go.ChangeShapes Go.WideShapes Go.ChangeAt Go.RowKit Go.Pt
set_option linter.unusedVariables false
theorem quy:ownKnob Tryz.prog.godebug=none:=by kernel_rfl
theorem qrf:laidOutB Tryz.prog=true:=by kernel_rfl
abbrev laidH:List (String×DataW Unit):=[("cashbook/crc.halves",Rows.laid_cashbook_crc_halves)]
theorem qpd:Tryz.prog.globalNamed "cashbook/crc.halves"=some HG:=by kernel_rfl
theorem qtN:(Tryz.prog.globals[HG]?).map (·.type)=some 308:=by kernel_rfl
theorem qto:Tryz.prog.underlying 308=some (.array 16 37):=by kernel_rfl
theorem qr9:Tryz.prog.underlying 37=some (.int .u32):=by kernel_rfl
set_option maxRecDepth 100000 in
theorem qsP (os:Os) (args:Array Value):laidMetH Tryz.prog laidH ((World.doorLaid Tryz.prog 4000 os).forCall (fun _ _=>0) ⟨#[],args,[]⟩).memory:=
 laidMetH_of_parts3 (fuel:=8) (laidMet_of_run' 8 (by kernel_rfl) (by kernel_rfl)) (by kernel_rfl) (by kernel_rfl)
theorem qpq {W:World} (h:laidMetH Tryz.prog laidH W):Hv W:=by
 rw [MakeChecks.laidMetH_plain _ _ _ (by kernel_rfl)] at h
 obtain ⟨ps,⟨g0,t0,cs0,f0,p0,q0,hg0,ht0,hv0,hd0,_,_⟩,_,_⟩:=h
 obtain rfl:=Option.some.inj (qpd.symm.trans hg0)
 obtain rfl:=Option.some.inj (qtN.symm.trans ht0)
 obtain ⟨xs,m1,rfl,hx1,hlen,hn3,hel⟩:=DataW.trod_array qto hd0
 simp only [Prod.mk.injEq] at hx1
 have hx:=hx1.1
 unfold Rows.laid_cashbook_crc_halves at hx
 rw [DataW.agg.injEq] at hx
 have c31:Tryz.prog.cellsOf 37=1:=by kernel_rfl
 have hcl:Tryz.prog.cellsOf 308=16:=by kernel_rfl
 have hb:∃ T fr,W.heap[HG]?=some (.cells cs0 T fr):=by
  unfold World.var? at hv0
  rw [qpd,Option.bind_some] at hv0
  split at hv0
  ·rename_i cs T fr hb
   cases hv0
   exact ⟨T,fr,hb⟩
  ·cases hv0
 obtain ⟨T,fr,hb⟩:=hb
 have key:∀ (i:Nat) (n:Int),(xs.map (·.1))[i]?=some (DataW.lit (.int .u32 n))->cs0.toList[i]?=some (.int .u32 n):=by
  intro i n hi
  rw [List.getElem?_map] at hi
  obtain ⟨y,hy,hyn⟩:=Option.map_eq_some_iff.1 hi
  have hil:i<xs.length:=(List.getElem?_eq_some_iff.1 hy).1
  have h1:=hel i (by omega)
  rw [c31] at h1
  rw [hy] at h1
  obtain ⟨k,e1,e2,_⟩:=DataW.trod_int qr9 h1
  rw [e2] at hyn
  have hk:k=n:=by simpa using hyn
  subst hk
  have:=congrArg (·[0]?) e1
  simpa using this
 refine ⟨T,fr,?_⟩
 rw [hb]
 refine congrArg (fun c=>some (Obj.cells c T fr)) ?_
 apply Array.ext'
 apply List.ext_getElem?
 intro i
 have hsz:cs0.toList.length=16:=hlen.trans hcl
 have hx':xs.map (·.1)=halvesL.map (fun n=>DataW.lit (.int .u32 n)):=hx.symm
 by_cases hi:i<halvesL.length
 ·have h1:=key i halvesL[i] (by rw [hx',List.getElem?_map,List.getElem?_eq_getElem hi]; rfl)
  rw [h1]
  show _=(halvesL.map (Value.int .u32))[i]?
  rw [List.getElem?_map,List.getElem?_eq_getElem hi]
  rfl
 ·have h16:halvesL.length=16:=rfl
  rw [List.getElem?_eq_none (by omega)]
  exact (List.getElem?_eq_none (by rw [List.length_map]; omega)).symm
theorem qs9 {x:Int} (h:IntKind.u8.has x):0<=x/\x<256:=by
 have h':(0:Int)<=x/\x<=255:=h
 omega
end Go.Proofs.YtmmkegapckbomaaGreatDoor
end
section
set_option linter.unusedVariables false
set_option maxRecDepth 100000
namespace Go.Proofs.YtmmkegapckbomaaGreatDoor
open Go Go.Pt
@[reducible] def qaa:List Cell:=[Cell.bool,Cell.slice,Cell.slice,Cell.slice]
@[reducible] def qa2:List Cell:=[Cell.int IntKind.i64,Cell.int IntKind.i64,Cell.int IntKind.i64,Cell.int IntKind.i64]
@[reducible] def qaf:List Cell:=[Cell.int IntKind.i64,Cell.int IntKind.i64,Cell.int IntKind.i64,Cell.int IntKind.i64,Cell.ptr,Cell.int IntKind.i64]
@[reducible] def qcd:List Cell:=[Cell.int IntKind.u32,Cell.int IntKind.u32,Cell.int IntKind.u32]
@[reducible] def qaF:List Cell:=[Cell.int IntKind.u32,Cell.bool,Cell.slice,Cell.int IntKind.u32]
def qeS (a:Sl) (b:Sl) (K:Int->World->Prop) (w:World):Prop:=ext Tryz.prog 182 ([.slice a.a a.len a.cap,.slice b.a b.len b.cap]) ([.one (.int .i64)]) w fun (c:Int) d=>K c d
def qkR:List Ann:=[.n,.n]
theorem qja {a b w K} (hF:qeS a b K w):call Tryz.prog 144 [.slice a.a a.len a.cap,.slice b.a b.len b.cap] [.one (.int .i64)] w K:=qad (an:=qkR) Tryz.func144 hF
def qm5 (a:Sl) (b:Sl) (K:Int->World->Prop) (w:World):Prop:=call Tryz.prog 144 ([.slice a.a a.len a.cap,.slice b.a b.len b.cap]) ([.one (.int .i64)]) w fun (c:Int) d=>K c d
def qsQ:List Ann:=[.n,.n]
theorem qqb {a b w K} (hF:qm5 a b K w):call Tryz.prog 111 [.slice a.a a.len a.cap,.slice b.a b.len b.cap] [.one (.int .i64)] w K:=qad (an:=qsQ) Tryz.func111 hF
def qg8 (n:Int) (f:Value) (K:Int->World->Prop) (w:World):Prop:=loop (Int×Int) (fun a (b:Int×Int) c=>cond (decide (b.fst<b.snd)) (callV Tryz.prog f ([.int .i64 (IntKind.wrap .i64 (Int.fdiv (IntKind.wrap .u64 (IntKind.wrap .i64 (b.fst+b.snd))) (2^1)))]) ([.one .bool]) c fun (d:Bool) e=>cond (!d) (a ((IntKind.wrap .i64 (IntKind.wrap .i64 (Int.fdiv (IntKind.wrap .u64 (IntKind.wrap .i64 (b.fst+b.snd))) (2^1))+1),b.snd)) e) (a ((b.fst,IntKind.wrap .i64 (Int.fdiv (IntKind.wrap .u64 (IntKind.wrap .i64 (b.fst+b.snd))) (2^1)))) e)) (K b.fst c)) ((0,n)) w
def qmz:List Ann:=[.n,.n,.n,.l [(5,.one (.int .i64)),(6,.one (.int .i64))],.n,.n,.n,.n,.n]
theorem qkz {n f w K} (hF:qg8 n f K w):call Tryz.prog 117 [.int .i64 n,f] [.one (.int .i64)] w K:=qad (an:=qmz) Tryz.func117 hF
def qkf (n:Int) (cmp:Value) (K:(Int×Bool)->World->Prop) (w:World):Prop:=loop (Int×Int) (fun a (b:Int×Int) c=>cond (decide (b.fst<b.snd)) (callV Tryz.prog cmp ([.int .i64 (IntKind.wrap .i64 (Int.fdiv (IntKind.wrap .u64 (IntKind.wrap .i64 (b.fst+b.snd))) (2^1)))]) ([.one (.int .i64)]) c fun (d:Int) e=>cond (decide (d>0)) (a ((IntKind.wrap .i64 (IntKind.wrap .i64 (Int.fdiv (IntKind.wrap .u64 (IntKind.wrap .i64 (b.fst+b.snd))) (2^1))+1),b.snd)) e) (a ((b.fst,IntKind.wrap .i64 (Int.fdiv (IntKind.wrap .u64 (IntKind.wrap .i64 (b.fst+b.snd))) (2^1)))) e)) (cond (decide (b.fst<n)) (callV Tryz.prog cmp ([.int .i64 b.fst]) ([.one (.int .i64)]) c fun (f:Int) g=>K ((b.fst,f==0)) g) (K ((b.fst,false)) c))) ((0,n)) w
def qqr:List Ann:=[.n,.n,.n,.l [(4,.one (.int .i64)),(6,.one (.int .i64))],.n,.n,.n,.n,.n]
theorem qnk {n cmp w K} (hF:qkf n cmp K w):call Tryz.prog 119 [.int .i64 n,cmp] [.one (.int .i64),.one .bool] w K:=qad (an:=qqr) Tryz.func119 hF
def qcM (s:Sl) (f:Value) (K:Int->World->Prop) (w:World):Prop:=loop (Int) (fun b (c:Int) d=>cond (decide (c<(↑s.len:Int))) (idx s c 1 fun e=>ld .slice e d fun g=>callV Tryz.prog f ([.slice g.a g.len g.cap]) ([.one .bool]) d fun (h:Bool) i=>cond h (K c i) (b (IntKind.wrap .i64 (c+1)) i)) (K (-1) d)) 0 w
def qgN:List Ann:=[.n,.n,.n,.l [(8,.one (.int .i64))],.n,.n,.n,.n,.n,.n,.n]
theorem qfd {s f w K} (hF:qcM s f K w):call Tryz.prog 235 [.slice s.a s.len s.cap,f] [.one (.int .i64)] w K:=qad (an:=qgN) Tryz.func235 hF
def qcL (s:Sl) (f:Value) (K:Int->World->Prop) (w:World):Prop:=loop (Int) (fun a (b:Int) c=>cond (decide (b<(↑s.len:Int))) (idx s b 1 fun d=>ld (.int .u32) d c fun (e:Int)=>callV Tryz.prog f ([.int .u32 e]) ([.one .bool]) c fun (g:Bool) h=>cond g (K b h) (a (IntKind.wrap .i64 (b+1)) h)) (K (-1) c)) 0 w
def qgO:List Ann:=[.n,.n,.n,.l [(8,.one (.int .i64))],.n,.n,.n,.n,.n,.n,.n]
theorem qe0 {s f w K} (hF:qcL s f K w):call Tryz.prog 218 [.slice s.a s.len s.cap,f] [.one (.int .i64)] w K:=qad (an:=qgO) Tryz.func218 hF
def qbP (s:Sl) (f:Value) (K:Bool->World->Prop) (w:World):Prop:=call Tryz.prog 235 ([.slice s.a s.len s.cap,f]) ([.one (.int .i64)]) w fun (b:Int) c=>K (decide (b>=0)) c
def qeL:List Ann:=[.n,.n]
theorem qdz {s f w K} (hF:qbP s f K w):call Tryz.prog 216 [.slice s.a s.len s.cap,f] [.one .bool] w K:=qad (an:=qeL) Tryz.func216 hF
def qb1 (s:Sl) (f:Value) (K:Bool->World->Prop) (w:World):Prop:=call Tryz.prog 218 ([.slice s.a s.len s.cap,f]) ([.one (.int .i64)]) w fun (b:Int) c=>K (decide (b>=0)) c
def qeC:List Ann:=[.n,.n]
theorem qdA {s f w K} (hF:qb1 s f K w):call Tryz.prog 186 [.slice s.a s.len s.cap,f] [.one .bool] w K:=qad (an:=qeC) Tryz.func186 hF
def qd6 (s:Sl) (i:Int) (v:Sl) (K:Sl->World->Prop) (w:World):Prop:=slc s (some i) none none 1 fun b=>cond ((↑v.len:Int)==0) (K s w) (cond (i==(↑s.len:Int)) (run [.one .slice] ((Builtin.append_ (#[22,22]) 22 (#[.slice s.a s.len s.cap,.slice v.a v.len v.cap])).run Tryz.prog w) fun c d=>K c d) (cond (decide (IntKind.wrap .i64 ((↑s.len:Int)+(↑v.len:Int))>(↑s.cap:Int))) (slc s none (some i) none 1 fun e=>run [.one .slice] ((Builtin.append_ (#[22,3]) 22 (#[.slice e.a e.len e.cap,.int .i64 (IntKind.wrap .i64 (IntKind.wrap .i64 ((↑s.len:Int)+(↑v.len:Int))-i))])).run Tryz.prog w) fun f g=>slc f (some i) none none 1 fun h=>run [.one (.int .i64)] ((Builtin.copy_ (#[22,22]) 3 (#[.slice h.a h.len h.cap,.slice v.a v.len v.cap])).run Tryz.prog g) fun (j:Int) k=>slc f (some (IntKind.wrap .i64 (i+(↑v.len:Int)))) none none 1 fun l=>slc s (some i) none none 1 fun m=>run [.one (.int .i64)] ((Builtin.copy_ (#[22,22]) 3 (#[.slice l.a l.len l.cap,.slice m.a m.len m.cap])).run Tryz.prog (World.drew k)) fun (n:Int) o=>K f o) (slc s none (some (IntKind.wrap .i64 ((↑s.len:Int)+(↑v.len:Int)))) none 1 fun p=>slc p (some (IntKind.wrap .i64 (i+(↑v.len:Int)))) none none 1 fun q=>ext Tryz.prog 172 ([.slice v.a v.len v.cap,.slice q.a q.len q.cap]) ([.one .bool]) w fun (r:Bool) t=>cond (!r) (slc p (some (IntKind.wrap .i64 (i+(↑v.len:Int)))) none none 1 fun u=>slc p (some i) none none 1 fun x=>run [.one (.int .i64)] ((Builtin.copy_ (#[22,22]) 3 (#[.slice u.a u.len u.cap,.slice x.a x.len x.cap])).run Tryz.prog (World.drew t)) fun (y:Int) z=>slc p (some i) none none 1 fun A=>run [.one (.int .i64)] ((Builtin.copy_ (#[22,22]) 3 (#[.slice A.a A.len A.cap,.slice v.a v.len v.cap])).run Tryz.prog z) fun (B:Int) C=>K p C) (slc p (some (↑s.len:Int)) none none 1 fun D=>run [.one (.int .i64)] ((Builtin.copy_ (#[22,22]) 3 (#[.slice D.a D.len D.cap,.slice v.a v.len v.cap])).run Tryz.prog t) fun (E:Int) F=>slc p (some i) none none 1 fun G=>call Tryz.prog 173 ([.slice G.a G.len G.cap,.int .i64 (↑v.len:Int)]) [] F fun (H:PUnit) I=>K p I))))
def qjN:List Ann:=[.n,.n,.n,.n,.n,.n,.n,.n,.n,.n,.n,.n,.n,.n,.n,.o [[0,1,2,3,4,5,6,7,8]],.n,.n,.n,.n,.n,.o [[0,1,2,3,4,5,6,7,8]],.n,.n,.n,.n,.n]
theorem qhz {s i v w K} (hF:qd6 s i v K w):call Tryz.prog 138 [.slice s.a s.len s.cap,.int .i64 i,.slice v.a v.len v.cap] [.one .slice] w K:=qad (an:=qjN) Tryz.func138 hF
def qdD (s:Sl) (i:Int) (v:Sl) (K:Sl->World->Prop) (w:World):Prop:=slc s (some i) none none 1 fun b=>cond ((↑v.len:Int)==0) (K s w) (cond (i==(↑s.len:Int)) (run [.one .slice] ((Builtin.append_ (#[92,92]) 92 (#[.slice s.a s.len s.cap,.slice v.a v.len v.cap])).run Tryz.prog w) fun c d=>K c d) (cond (decide (IntKind.wrap .i64 ((↑s.len:Int)+(↑v.len:Int))>(↑s.cap:Int))) (slc s none (some i) none 1 fun e=>run [.one .slice] ((Builtin.append_ (#[92,3]) 92 (#[.slice e.a e.len e.cap,.int .i64 (IntKind.wrap .i64 (IntKind.wrap .i64 ((↑s.len:Int)+(↑v.len:Int))-i))])).run Tryz.prog w) fun f g=>slc f (some i) none none 1 fun h=>run [.one (.int .i64)] ((Builtin.copy_ (#[92,92]) 3 (#[.slice h.a h.len h.cap,.slice v.a v.len v.cap])).run Tryz.prog g) fun (j:Int) k=>slc f (some (IntKind.wrap .i64 (i+(↑v.len:Int)))) none none 1 fun l=>slc s (some i) none none 1 fun m=>run [.one (.int .i64)] ((Builtin.copy_ (#[92,92]) 3 (#[.slice l.a l.len l.cap,.slice m.a m.len m.cap])).run Tryz.prog (World.drew k)) fun (n:Int) o=>K f o) (slc s none (some (IntKind.wrap .i64 ((↑s.len:Int)+(↑v.len:Int)))) none 1 fun p=>slc p (some (IntKind.wrap .i64 (i+(↑v.len:Int)))) none none 1 fun q=>ext Tryz.prog 176 ([.slice v.a v.len v.cap,.slice q.a q.len q.cap]) ([.one .bool]) w fun (r:Bool) t=>cond (!r) (slc p (some (IntKind.wrap .i64 (i+(↑v.len:Int)))) none none 1 fun u=>slc p (some i) none none 1 fun x=>run [.one (.int .i64)] ((Builtin.copy_ (#[92,92]) 3 (#[.slice u.a u.len u.cap,.slice x.a x.len x.cap])).run Tryz.prog (World.drew t)) fun (y:Int) z=>slc p (some i) none none 1 fun A=>run [.one (.int .i64)] ((Builtin.copy_ (#[92,92]) 3 (#[.slice A.a A.len A.cap,.slice v.a v.len v.cap])).run Tryz.prog z) fun (B:Int) C=>K p C) (slc p (some (↑s.len:Int)) none none 1 fun D=>run [.one (.int .i64)] ((Builtin.copy_ (#[92,92]) 3 (#[.slice D.a D.len D.cap,.slice v.a v.len v.cap])).run Tryz.prog t) fun (E:Int) F=>slc p (some i) none none 1 fun G=>call Tryz.prog 177 ([.slice G.a G.len G.cap,.int .i64 (↑v.len:Int)]) [] F fun (H:PUnit) I=>K p I))))
def qku:List Ann:=[.n,.n,.n,.n,.n,.n,.n,.n,.n,.n,.n,.n,.n,.n,.n,.o [[0,1,2,3,4,5,6,7,8]],.n,.n,.n,.n,.n,.o [[0,1,2,3,4,5,6,7,8]],.n,.n,.n,.n,.n]
theorem qhQ {s i v w K} (hF:qdD s i v K w):call Tryz.prog 140 [.slice s.a s.len s.cap,.int .i64 i,.slice v.a v.len v.cap] [.one .slice] w K:=qad (an:=qku) Tryz.func140 hF
def qdR (s:Sl) (i:Int) (j:Int) (K:Sl->World->Prop) (w:World):Prop:=slc s (some i) (some j) (some (↑s.len:Int)) 1 fun b=>cond (i==j) (K s w) (slc s none (some i) none 1 fun c=>slc s (some j) none none 1 fun d=>run [.one .slice] ((Builtin.append_ (#[22,22]) 22 (#[.slice c.a c.len c.cap,.slice d.a d.len d.cap])).run Tryz.prog (World.drew w)) fun e f=>slc e (some (↑e.len:Int)) (some (↑s.len:Int)) none 1 fun g=>run [] ((Builtin.clear_ #[22] 0 (#[.slice g.a g.len g.cap])).run Tryz.prog f) fun (h:PUnit) k=>K e k)
def qjI:List Ann:=[.n,.n,.n,.n,.n,.n,.n,.o [[0,1,2,3,4,5,6,7]],.n,.n]
theorem qhF {s i j w K} (hF:qdR s i j K w):call Tryz.prog 141 [.slice s.a s.len s.cap,.int .i64 i,.int .i64 j] [.one .slice] w K:=qad (an:=qjI) Tryz.func141 hF
def qdX (s:Sl) (i:Int) (j:Int) (K:Sl->World->Prop) (w:World):Prop:=slc s (some i) (some j) (some (↑s.len:Int)) 1 fun b=>cond (i==j) (K s w) (slc s none (some i) none 1 fun c=>slc s (some j) none none 1 fun d=>run [.one .slice] ((Builtin.append_ (#[92,92]) 92 (#[.slice c.a c.len c.cap,.slice d.a d.len d.cap])).run Tryz.prog (World.drew w)) fun e f=>slc e (some (↑e.len:Int)) (some (↑s.len:Int)) none 1 fun g=>run [] ((Builtin.clear_ #[92] 0 (#[.slice g.a g.len g.cap])).run Tryz.prog f) fun (h:PUnit) k=>K e k)
def qj6:List Ann:=[.n,.n,.n,.n,.n,.n,.n,.o [[0,1,2,3,4,5,6,7]],.n,.n]
theorem qhP {s i j w K} (hF:qdX s i j K w):call Tryz.prog 214 [.slice s.a s.len s.cap,.int .i64 i,.int .i64 j] [.one .slice] w K:=qad (an:=qj6) Tryz.func214 hF
def qeQ (slices:Sl) (K:Sl->World->Prop) (w:World):Prop:=loop (Int×Int) (fun b (c:Int×Int) d=>cond (decide (c.snd<(↑slices.len:Int))) (join (Int) (fun e=>idx slices c.snd 1 fun f=>ld .slice f d fun g=>cond (decide (IntKind.wrap .i64 (c.fst+(↑g.len:Int))<0)) (False) (e (IntKind.wrap .i64 (c.fst+(↑g.len:Int))) d)) fun (h:Int) i=>b ((h,IntKind.wrap .i64 (c.snd+1))) i) (call Tryz.prog 210 ([.slice none 0 0,.int .i64 c.fst]) ([.one .slice]) d fun j k=>loop (Sl×Int) (fun l (m:Sl×Int) n=>cond (decide (m.snd<(↑slices.len:Int))) (idx slices m.snd 1 fun o=>ld .slice o n fun p=>run [.one .slice] ((Builtin.append_ (#[23,23]) 23 (#[.slice m.fst.a m.fst.len m.fst.cap,.slice p.a p.len p.cap])).run Tryz.prog n) fun q r=>l ((q,IntKind.wrap .i64 (m.snd+1))) r) (K m.fst n)) ((j,0)) k)) ((0,0)) w
def qkQ:List Ann:=[.n,.n,.n,.n,.l [(3,.one (.int .i64)),(11,.one (.int .i64))],.n,.n,.j [(3,.one (.int .i64))],.n,.n,.n,.n,.n,.n,.l [(6,.one .slice),(27,.one (.int .i64))],.n,.n,.n,.n,.n]
theorem qiD {slices w K} (hF:qeQ slices K w):call Tryz.prog 170 [.slice slices.a slices.len slices.cap] [.one .slice] w K:=qad (an:=qkQ) Tryz.func170 hF
def qgs (s:Sl) (n:Int) (K:Sl->World->Prop) (w:World):Prop:=join (PUnit) (fun b=>cond (decide (n<0)) (False) (b () w)) fun (c:PUnit) d=>join (Sl) (fun e=>cond (decide (IntKind.wrap .i64 (n-IntKind.wrap .i64 ((↑s.cap:Int)-(↑s.len:Int)))>0)) (slc s none (some (↑s.cap:Int)) none 1 fun f=>run [.one .slice] ((Builtin.append_ (#[23,3]) 23 (#[.slice f.a f.len f.cap,.int .i64 (IntKind.wrap .i64 (n-IntKind.wrap .i64 ((↑s.cap:Int)-(↑s.len:Int))))])).run Tryz.prog d) fun g h=>slc g none (some (↑s.len:Int)) none 1 fun i=>e i h) (e s d)) fun j k=>K j k
def qmH:List Ann:=[.n,.j [],.n,.j [(0,.one .slice)],.n,.n,.n]
theorem qkS {s n w K} (hF:qgs s n K w):call Tryz.prog 210 [.slice s.a s.len s.cap,.int .i64 n] [.one .slice] w K:=qad (an:=qmH) Tryz.func210 hF
def qjm (k:Int) (v:Int) (K:(Int×Int)->World->Prop) (w:World):Prop:=join (Bool) (fun a=>cond (decide (k<1)) (a true w) (cond (decide (k>24)) (a true w) (cond (decide (v<0)) (a true w) (a (decide (v>108)) w)))) fun (b:Bool) c=>cond b (K ((0,0)) c) (chk (IntKind.wrap .i64 (k+v)≠0)<|chk (IntKind.wrap .i64 (4+k)≠0)<|K ((IntKind.wrap .i64 (Int.tdiv 498 (IntKind.wrap .i64 (k+v))),IntKind.wrap .i64 (Int.tdiv (IntKind.wrap .i64 (498+k)) (IntKind.wrap .i64 (4+k))))) (World.drew c))
def qqc:List Ann:=[.n,.n,.j [(20,.one .bool)],.n,.n,.n,.o [[0,1,2,3,4,5,6,7,8,9,10,11,12]]]
theorem qmR {k v w K} (hF:qjm k v K w):call Tryz.prog 64 [.int .i64 k,.int .i64 v] [.one (.int .i64),.one (.int .i64)] w K:=qad (an:=qqc) Tryz.func64 hF
def qkl (l:Sl) (n:Int) (K:Bool->World->Prop) (w:World):Prop:=new (Obj.cells #[.int .i64 n] 3) w fun b c=>call Tryz.prog 216 ([.slice l.a l.len l.cap,Value.func (Fn.func 217) #[] #[.pointer (some ⟨b,0,none⟩)]]) ([.one .bool]) c fun (d:Bool) e=>K (!d) e
def qpH:List Ann:=[.n,.n]
theorem qm9 {l n w K} (hF:qkl l n K w):call Tryz.prog 184 [.slice l.a l.len l.cap,.int .i64 n] [.one .bool] w K:=qad (an:=qpH) Tryz.func184 hF
def qfJ (b:Sl) (cap0:Addr) (K:Bool->World->Prop) (w:World):Prop:=ld (.int .i64) cap0 w fun (a:Int)=>K (!(↑b.len:Int)==a) w
def qmo:List Ann:=[.n,.n]
theorem qjj {b cap0 w K} (hF:qfJ b cap0 K w):call Tryz.prog 217 [.slice b.a b.len b.cap,.pointer (some cap0)] [.one .bool] w K:=qad (an:=qmo) Tryz.func217 hF
def qhX (l:Sl) (K:Bool->World->Prop) (w:World):Prop:=loop (Int) (fun b (c:Int) d=>cond (decide (c<(↑l.len:Int))) (idx l (IntKind.wrap .i64 (c-1)) 1 fun e=>ld .slice e (World.drew d) fun f=>idx l c 1 fun g=>ld .slice g (World.drew d) fun h=>call Tryz.prog 111 ([.slice f.a f.len f.cap,.slice h.a h.len h.cap]) ([.one (.int .i64)]) (World.drew d) fun (i:Int) j=>cond (decide (i>=0)) (K false j) (b (IntKind.wrap .i64 (c+1)) j)) (K true d)) 1 w
def qoF:List Ann:=[.n,.n,.n,.l [(3,.one (.int .i64))],.n,.n,.n,.n,.o [[0,1,2,3,4,5,6,7,8,9,10]],.n,.n]
theorem ql9 {l w K} (hF:qhX l K w):call Tryz.prog 185 [.slice l.a l.len l.cap] [.one .bool] w K:=qad (an:=qoF) Tryz.func185 hF
def qil (n0:Bool) (n1:Sl) (n2:Sl) (n3:Sl) (k:Int) (v:Int) (K:Bool->World->Prop) (w:World):Prop:=new (Obj.cells #[.bool n0,.slice n1.a n1.len n1.cap,.slice n2.a n2.len n2.cap,.slice n3.a n3.len n3.cap] 143) w fun b c=>call Tryz.prog 64 ([.int .i64 k,.int .i64 v]) ([.one (.int .i64),.one (.int .i64)]) c fun (d:Int×Int) e=>join (Bool) (fun f=>ld .slice ⟨b,1,none⟩ e fun g=>call Tryz.prog 184 ([.slice g.a g.len g.cap,.int .i64 k]) ([.one .bool]) e fun (h:Bool) i=>cond (!h) (f true i) (ld .slice ⟨b,2,none⟩ i fun j=>call Tryz.prog 184 ([.slice j.a j.len j.cap,.int .i64 v]) ([.one .bool]) i fun (l:Bool) m=>cond (!l) (f true m) (ld .slice ⟨b,1,none⟩ m fun n=>call Tryz.prog 185 ([.slice n.a n.len n.cap]) ([.one .bool]) m fun (o:Bool) p=>f (!o) p))) fun (q:Bool) r=>cond q (K false r) (ld .bool ⟨b,0,none⟩ r fun (s:Bool)=>cond s (ld .slice ⟨b,3,none⟩ r fun t=>cond ((↑t.len:Int)==0) (ld .slice ⟨b,1,none⟩ r fun u=>cond (decide ((↑u.len:Int)>=1)) (ld .slice ⟨b,1,none⟩ r fun x=>cond (decide ((↑x.len:Int)<=d.fst)) (ld .slice ⟨b,2,none⟩ r fun y=>ld .slice ⟨b,1,none⟩ r fun z=>K ((↑y.len:Int)==(↑z.len:Int)) r) (K false r)) (K false r)) (K false r)) (ld .slice ⟨b,3,none⟩ r fun A=>call Tryz.prog 186 ([.slice A.a A.len A.cap,Value.func (Fn.func 187) #[] #[]]) ([.one .bool]) r fun (B:Bool) C=>cond B (K false C) (ld .slice ⟨b,2,none⟩ C fun D=>cond ((↑D.len:Int)==0) (ld .slice ⟨b,3,none⟩ C fun E=>cond (decide ((↑E.len:Int)>=2)) (ld .slice ⟨b,3,none⟩ C fun F=>cond (decide ((↑F.len:Int)<=d.snd)) (ld .slice ⟨b,1,none⟩ C fun G=>ld .slice ⟨b,3,none⟩ C fun H=>K ((↑G.len:Int)==IntKind.wrap .i64 ((↑H.len:Int)-1)) C) (K false C)) (K false C)) (K false C))))
def qoE:List Ann:=[.n,.n,.n,.j [(32,.one .bool)],.n,.n,.n,.n,.n,.n,.n,.n]
theorem qmp {n0 n1 n2 n3 k v w K} (hF:qil n0 n1 n2 n3 k v K w):call Tryz.prog 147 [.agg #[.bool n0,.slice n1.a n1.len n1.cap,.slice n2.a n2.len n2.cap,.slice n3.a n3.len n3.cap],.int .i64 k,.int .i64 v] [.one .bool] w K:=qad (an:=qoE) Tryz.func147 hF
def qek (x:Int) (K:Bool->World->Prop) (w:World):Prop:=K (decide (x<2)) w
def qkv:List Ann:=[.n,.n]
theorem qiJ {x w K} (hF:qek x K w):call Tryz.prog 187 [.int .u32 x] [.one .bool] w K:=qad (an:=qkv) Tryz.func187 hF
def qim (n0:Bool) (n1:Sl) (n2:Sl) (n3:Sl) (k:Int) (v:Int) (K:(Int×Sl×Int)->World->Prop) (w:World):Prop:=new (Obj.cells #[.bool n0,.slice n1.a n1.len n1.cap,.slice n2.a n2.len n2.cap,.slice n3.a n3.len n3.cap] 143) w fun b c=>ldA (qaa) ⟨b,0,none⟩ c fun (d:Bool×Sl×Sl×Sl)=>call Tryz.prog 147 ([.agg (List.toArray (HL.mk qaa d)),.int .i64 k,.int .i64 v]) ([.one .bool]) c fun (e:Bool) f=>cond (!e) (K ((0,{ a:=none,len:=0,cap:=0 },1)) f) (ld .bool ⟨b,0,none⟩ f fun (g:Bool)=>cond g (ld .slice ⟨b,1,none⟩ f fun h=>ld .slice ⟨b,1,none⟩ f fun i=>new (Obj.cells #[.int .u8 (IntKind.wrap .u8 (Int.fdiv ((↑h.len:Int)) (2^8))),.int .u8 (IntKind.wrap .u8 (↑i.len:Int))] 5) f fun j l=>ld .slice ⟨b,1,none⟩ l fun m=>loop (Sl×Int) (fun n (o:Sl×Int) p=>cond (decide (o.snd<(↑m.len:Int))) (idx m o.snd 1 fun q=>ld .slice q p fun r=>ld .slice ⟨b,2,none⟩ (World.drew p) fun s=>idx s o.snd 1 fun t=>ld .slice t (World.drew p) fun u=>run [.one .slice] ((Builtin.append_ (#[23,23]) 23 (#[.slice o.fst.a o.fst.len o.fst.cap,.slice r.a r.len r.cap])).run Tryz.prog (World.drew p)) fun x y=>held [fun z=>World.cell? z t=some (.slice u.a u.len u.cap),fun A=>World.cell? A ⟨b,2,none⟩=some (.slice s.a s.len s.cap)] y<|run [.one .slice] ((Builtin.append_ (#[23,23]) 23 (#[.slice x.a x.len x.cap,.slice u.a u.len u.cap])).run Tryz.prog y) fun B C=>n ((B,IntKind.wrap .i64 (o.snd+1))) C) (K ((3,o.fst,0)) p)) (({ a:=some ⟨j,0,none⟩,len:=2,cap:=2 },0)) l) (ld .slice ⟨b,3,none⟩ f fun D=>ld .slice ⟨b,3,none⟩ f fun E=>new (Obj.cells #[.int .u8 (IntKind.wrap .u8 (Int.fdiv ((↑D.len:Int)) (2^8))),.int .u8 (IntKind.wrap .u8 (↑E.len:Int))] 5) f fun F G=>ld .slice ⟨b,3,none⟩ G fun H=>loop (Sl×Int) (fun I (J:Sl×Int) L=>cond (decide (J.snd<(↑H.len:Int))) (idx H J.snd 1 fun M=>ld (.int .u32) M L fun (N:Int)=>new (Obj.cells #[.int .u8 (IntKind.wrap .u8 (Int.fdiv N (2^24))),.int .u8 (IntKind.wrap .u8 (Int.fdiv N (2^16))),.int .u8 (IntKind.wrap .u8 (Int.fdiv N (2^8))),.int .u8 (IntKind.wrap .u8 N)] 5) L fun O P=>run [.one .slice] ((Builtin.append_ (#[23,23]) 23 (#[.slice J.fst.a J.fst.len J.fst.cap,.slice (some ⟨O,0,none⟩) 4 4])).run Tryz.prog P) fun Q R=>I ((Q,IntKind.wrap .i64 (J.snd+1))) R) (ld .slice ⟨b,1,none⟩ L fun S=>call Tryz.prog 170 ([.slice S.a S.len S.cap]) ([.one .slice]) L fun T U=>run [.one .slice] ((Builtin.append_ (#[23,23]) 23 (#[.slice J.fst.a J.fst.len J.fst.cap,.slice T.a T.len T.cap])).run Tryz.prog U) fun V W=>K ((4,V,0)) W)) (({ a:=some ⟨F,0,none⟩,len:=2,cap:=2 },0)) G))
def qoz:List Ann:=[.n,.n,.n,.n,.n,.n,.n,.n,.n,.l [(9,.one .slice),(35,.one (.int .i64))],.n,.n,.n,.n,.o [[0,1,3,4,5,6,7,2,8,9]],.n,.n,.n,.n,.l [(12,.one .slice),(64,.one (.int .i64))],.n,.n,.n,.n,.n]
theorem ql6 {n0 n1 n2 n3 k v w K} (hF:qim n0 n1 n2 n3 k v K w):call Tryz.prog 135 [.agg #[.bool n0,.slice n1.a n1.len n1.cap,.slice n2.a n2.len n2.cap,.slice n3.a n3.len n3.cap],.int .i64 k,.int .i64 v] [.one (.int .u8),.one .slice,.one (.int .i64)] w K:=qad (an:=qoz) Tryz.func135 hF
def qec (b:Sl) (K:Value->World->Prop) (w:World):Prop:=new (Obj.cells #[.slice b.a b.len b.cap] 23) w fun c d=>K (Value.func (Fn.func 215) #[] #[.pointer (some ⟨c,0,none⟩)]) d
def qn6:List Ann:=[.n,.n]
theorem qfI {b w K} (hF:qec b K w):call Tryz.prog 183 [.slice b.a b.len b.cap] [.one .any] w K:=qad (an:=qn6) Tryz.func183 hF
def qev (n:Int) (cap0:Addr) (K:Sl->World->Prop) (w:World):Prop:=ld .slice cap0 w fun b=>slc b none (some n) none 1 fun c=>call Tryz.prog 123 ([.slice c.a c.len c.cap]) ([.one .slice]) w fun d e=>ld .slice cap0 e fun f=>slc f (some n) none none 1 fun g=>st cap0 ([.slice g.a g.len g.cap]) e fun h=>K d h
def qkN:List Ann:=[.n,.n,.n,.n]
theorem qiK {n cap0 w K} (hF:qev n cap0 K w):call Tryz.prog 215 [.int .i64 n,.pointer (some cap0)] [.one .slice] w K:=qad (an:=qkN) Tryz.func215 hF
def qjy (body:Sl) (count:Int) (k:Int) (v:Int) (K:((Bool×Sl×Sl×Sl)×Bool)->World->Prop) (w:World):Prop:=new (Obj.cells #[.bool false,.slice none 0 0,.slice none 0 0,.slice none 0 0] 143) w fun b c=>cond (!(↑body.len:Int)==IntKind.wrap .i64 (count*IntKind.wrap .i64 (k+v))) (st ⟨b,0,none⟩ ([.bool false,.slice none 0 0,.slice none 0 0,.slice none 0 0]) c fun d=>ldA (qaa) ⟨b,0,none⟩ d fun (e:Bool×Sl×Sl×Sl)=>K ((e,false)) d) (new (Obj.cells #[.bool false,.slice none 0 0,.slice none 0 0,.slice none 0 0] 143) c fun f g=>st ⟨f,0,none⟩ ([.bool true,.slice none 0 0,.slice none 0 0,.slice none 0 0]) g fun h=>call Tryz.prog 183 ([.slice body.a body.len body.cap]) ([.one .any]) h fun (i:Value) j=>loop (Int) (fun l (m:Int) n=>cond (decide (m<count)) (ld .slice ⟨f,1,none⟩ (World.drew n) fun o=>callV Tryz.prog i ([.int .i64 k]) ([.one .slice]) (World.drew n) fun p q=>held [fun r=>World.cell? r ⟨f,1,none⟩=some (.slice o.a o.len o.cap)] q<|new (Obj.cells #[.slice p.a p.len p.cap] 23) q fun s t=>held [fun u=>World.cell? u ⟨f,1,none⟩=some (.slice o.a o.len o.cap)] t<|run [.one .slice] ((Builtin.append_ (#[22,22]) 22 (#[.slice o.a o.len o.cap,.slice (some ⟨s,0,none⟩) 1 1])).run Tryz.prog t) fun x y=>st ⟨f,1,none⟩ ([.slice x.a x.len x.cap]) y fun z=>ld .slice ⟨f,2,none⟩ (World.drew z) fun A=>callV Tryz.prog i ([.int .i64 v]) ([.one .slice]) (World.drew z) fun B C=>held [fun D=>World.cell? D ⟨f,2,none⟩=some (.slice A.a A.len A.cap)] C<|new (Obj.cells #[.slice B.a B.len B.cap] 23) C fun E F=>held [fun G=>World.cell? G ⟨f,2,none⟩=some (.slice A.a A.len A.cap)] F<|run [.one .slice] ((Builtin.append_ (#[22,22]) 22 (#[.slice A.a A.len A.cap,.slice (some ⟨E,0,none⟩) 1 1])).run Tryz.prog F) fun H I=>st ⟨f,2,none⟩ ([.slice H.a H.len H.cap]) I fun J=>l (IntKind.wrap .i64 (m+1)) J) (ldA (qaa) ⟨f,0,none⟩ n fun (L:Bool×Sl×Sl×Sl)=>st ⟨b,0,none⟩ (HL.mk qaa L) n fun M=>ldA (qaa) ⟨b,0,none⟩ M fun (N:Bool×Sl×Sl×Sl)=>K ((N,true)) M)) 0 j)
def qp0:List Ann:=[.n,.n,.n,.n,.n,.n,.n,.n,.l [(25,.one (.int .i64))],.n,.n,.n,.n,.o [[0,1,2,3,4,5,6,7,8]],.o [[0,1,2,3,4,5,6,7,8]],.n]
theorem qnX {body count k v w K} (hF:qjy body count k v K w):call Tryz.prog 145 [.slice body.a body.len body.cap,.int .i64 count,.int .i64 k,.int .i64 v] [.agg [.bool,.slice,.slice,.slice],.one .bool] w K:=qad (an:=qp0) Tryz.func145 hF
def qic (body:Sl) (count:Int) (k:Int) (K:((Bool×Sl×Sl×Sl)×Bool)->World->Prop) (w:World):Prop:=new (Obj.cells #[.bool false,.slice none 0 0,.slice none 0 0,.slice none 0 0] 143) w fun b c=>join (Bool) (fun d=>cond (decide (count<1)) (d true c) (d (!(↑body.len:Int)==IntKind.wrap .i64 (IntKind.wrap .i64 (count*4)+IntKind.wrap .i64 (IntKind.wrap .i64 (count-1)*k))) c)) fun (e:Bool) f=>cond e (st ⟨b,0,none⟩ ([.bool false,.slice none 0 0,.slice none 0 0,.slice none 0 0]) f fun g=>ldA (qaa) ⟨b,0,none⟩ g fun (h:Bool×Sl×Sl×Sl)=>K ((h,false)) g) (new (Obj.cells #[.bool false,.slice none 0 0,.slice none 0 0,.slice none 0 0] 143) f fun i j=>call Tryz.prog 183 ([.slice body.a body.len body.cap]) ([.one .any]) j fun (l:Value) m=>loop (Int) (fun n (o:Int) p=>cond (decide (o<count)) (callV Tryz.prog l ([.int .i64 4]) ([.one .slice]) p fun q r=>ld .slice ⟨i,3,none⟩ (World.drew r) fun s=>idx q 0 1 fun t=>ld (.int .u8) t (World.drew r) fun (u:Int)=>idx q 1 1 fun v=>ld (.int .u8) v (World.drew r) fun (x:Int)=>idx q 2 1 fun y=>ld (.int .u8) y (World.drew r) fun (z:Int)=>idx q 3 1 fun A=>ld (.int .u8) A (World.drew r) fun (B:Int)=>new (Obj.cells #[.int .u32 (bits BinOp.or IntKind.u32 (bits BinOp.or IntKind.u32 (bits BinOp.or IntKind.u32 (IntKind.wrap .u32 (IntKind.wrap .u32 u*2^24)) (IntKind.wrap .u32 (IntKind.wrap .u32 x*2^16))) (IntKind.wrap .u32 (IntKind.wrap .u32 z*2^8))) (IntKind.wrap .u32 B))] 37) (World.drew r) fun C D=>held [fun E=>World.cell? E ⟨i,3,none⟩=some (.slice s.a s.len s.cap)] D<|run [.one .slice] ((Builtin.append_ (#[92,92]) 92 (#[.slice s.a s.len s.cap,.slice (some ⟨C,0,none⟩) 1 1])).run Tryz.prog D) fun F G=>st ⟨i,3,none⟩ ([.slice F.a F.len F.cap]) G fun H=>n (IntKind.wrap .i64 (o+1)) H) (loop (Int) (fun I (J:Int) L=>cond (decide (J<IntKind.wrap .i64 (count-1))) (ld .slice ⟨i,1,none⟩ (World.drew L) fun M=>callV Tryz.prog l ([.int .i64 k]) ([.one .slice]) (World.drew L) fun N O=>held [fun P=>World.cell? P ⟨i,1,none⟩=some (.slice M.a M.len M.cap)] O<|new (Obj.cells #[.slice N.a N.len N.cap] 23) O fun Q R=>held [fun S=>World.cell? S ⟨i,1,none⟩=some (.slice M.a M.len M.cap)] R<|run [.one .slice] ((Builtin.append_ (#[22,22]) 22 (#[.slice M.a M.len M.cap,.slice (some ⟨Q,0,none⟩) 1 1])).run Tryz.prog R) fun T U=>st ⟨i,1,none⟩ ([.slice T.a T.len T.cap]) U fun V=>I (IntKind.wrap .i64 (J+1)) V) (ldA (qaa) ⟨i,0,none⟩ L fun (W:Bool×Sl×Sl×Sl)=>st ⟨b,0,none⟩ (HL.mk qaa W) L fun X=>ldA (qaa) ⟨b,0,none⟩ X fun (Y:Bool×Sl×Sl×Sl)=>K ((Y,true)) X)) 0 p)) 0 m)
def qoH:List Ann:=[.n,.n,.j [(24,.one .bool)],.n,.n,.n,.n,.n,.l [(29,.one (.int .i64))],.n,.n,.n,.n,.o [[0,1,2,3,4,5,6,7,8,9,10,11,12,13,14,15,16,17,18,19,20,21,22,23,24,25,26,27]],.n,.n,.l [(63,.one (.int .i64))],.n,.n,.n,.o [[0,1,2,3,4,5,6,7,8]],.n]
theorem ql3 {body count k w K} (hF:qic body count k K w):call Tryz.prog 146 [.slice body.a body.len body.cap,.int .i64 count,.int .i64 k] [.agg [.bool,.slice,.slice,.slice],.one .bool] w K:=qad (an:=qoH) Tryz.func146 hF
def qjT (kind:Int) (body:Sl) (k:Int) (v:Int) (K:((Bool×Sl×Sl×Sl)×Int)->World->Prop) (w:World):Prop:=new (Obj.cells #[.bool false,.slice none 0 0,.slice none 0 0,.slice none 0 0] 143) w fun b c=>call Tryz.prog 64 ([.int .i64 k,.int .i64 v]) ([.one (.int .i64),.one (.int .i64)]) c fun (d:Int×Int) e=>join (Bool) (fun f=>cond (d.fst==0) (f true e) (cond (decide ((↑body.len:Int)<2)) (f true e) (f (decide ((↑body.len:Int)>500)) e))) fun (g:Bool) h=>cond g (st ⟨b,0,none⟩ ([.bool false,.slice none 0 0,.slice none 0 0,.slice none 0 0]) h fun i=>ldA (qaa) ⟨b,0,none⟩ i fun (j:Bool×Sl×Sl×Sl)=>K ((j,2)) i) (idx body 0 1 fun l=>ld (.int .u8) l (World.drew h) fun (m:Int)=>idx body 1 1 fun n=>ld (.int .u8) n (World.drew h) fun (o:Int)=>new (Obj.cells #[.bool false,.slice none 0 0,.slice none 0 0,.slice none 0 0] 143) (World.drew h) fun p q=>join (Bool) (fun r=>cond (kind==3) (slc body (some 2) none none 1 fun s=>call Tryz.prog 145 ([.slice s.a s.len s.cap,.int .i64 (bits BinOp.or IntKind.i64 (IntKind.wrap .i64 (IntKind.wrap .i64 m*2^8)) (IntKind.wrap .i64 o)),.int .i64 k,.int .i64 v]) ([.agg qaa,.one .bool]) q fun (t:(Bool×Sl×Sl×Sl)×Bool) u=>st ⟨p,0,none⟩ (HL.mk qaa t.fst) u fun x=>r t.snd x) (cond (kind==4) (slc body (some 2) none none 1 fun y=>call Tryz.prog 146 ([.slice y.a y.len y.cap,.int .i64 (bits BinOp.or IntKind.i64 (IntKind.wrap .i64 (IntKind.wrap .i64 m*2^8)) (IntKind.wrap .i64 o)),.int .i64 k]) ([.agg qaa,.one .bool]) q fun (z:(Bool×Sl×Sl×Sl)×Bool) A=>st ⟨p,0,none⟩ (HL.mk qaa z.fst) A fun B=>r z.snd B) (r false q))) fun (C:Bool) D=>join (Bool) (fun E=>cond (!C) (E true D) (ldA (qaa) ⟨p,0,none⟩ D fun (F:Bool×Sl×Sl×Sl)=>call Tryz.prog 147 ([.agg (List.toArray (HL.mk qaa F)),.int .i64 k,.int .i64 v]) ([.one .bool]) D fun (G:Bool) H=>E (!G) H)) fun (I:Bool) J=>cond I (st ⟨b,0,none⟩ ([.bool false,.slice none 0 0,.slice none 0 0,.slice none 0 0]) J fun L=>ldA (qaa) ⟨b,0,none⟩ L fun (M:Bool×Sl×Sl×Sl)=>K ((M,2)) L) (ldA (qaa) ⟨p,0,none⟩ J fun (N:Bool×Sl×Sl×Sl)=>st ⟨b,0,none⟩ (HL.mk qaa N) J fun O=>ldA (qaa) ⟨b,0,none⟩ O fun (P:Bool×Sl×Sl×Sl)=>K ((P,0)) O))
def qp6:List Ann:=[.n,.n,.n,.j [(32,.one .bool)],.n,.n,.o [[0,1,2,3,4,5,6,7,8,9,10]],.n,.n,.j [(14,.one .bool)],.n,.n,.n,.n,.j [(74,.one .bool)],.n,.n]
theorem qng {kind body k v w K} (hF:qjT kind body k v K w):call Tryz.prog 112 [.int .u8 kind,.slice body.a body.len body.cap,.int .i64 k,.int .i64 v] [.agg [.bool,.slice,.slice,.slice],.one (.int .i64)] w K:=qad (an:=qp6) Tryz.func112 hF
def qix (n0:Bool) (n1:Sl) (n2:Sl) (n3:Sl) (k:Sl) (K:(Int×Bool)->World->Prop) (w:World):Prop:=new (Obj.cells #[.bool n0,.slice n1.a n1.len n1.cap,.slice n2.a n2.len n2.cap,.slice n3.a n3.len n3.cap] 143) w fun b c=>new (Obj.cells #[.slice k.a k.len k.cap] 23) c fun d e=>ld .slice ⟨b,1,none⟩ e fun f=>call Tryz.prog 119 ([.int .i64 (↑f.len:Int),Value.func (Fn.func 120) #[] #[.pointer (some ⟨d,0,none⟩),.pointer (some ⟨b,0,none⟩)]]) ([.one (.int .i64),.one .bool]) e fun (g:Int×Bool) h=>K g h
def qoB:List Ann:=[.n,.n]
theorem qmk {n0 n1 n2 n3 k w K} (hF:qix n0 n1 n2 n3 k K w):call Tryz.prog 84 [.agg #[.bool n0,.slice n1.a n1.len n1.cap,.slice n2.a n2.len n2.cap,.slice n3.a n3.len n3.cap],.slice k.a k.len k.cap] [.one (.int .i64),.one .bool] w K:=qad (an:=qoB) Tryz.func84 hF
def qeI (i:Int) (cap0:Addr) (cap1:Addr) (K:Int->World->Prop) (w:World):Prop:=ld .slice cap0 (World.drew w) fun b=>ld .slice ⟨cap1.block,cap1.off+1,none⟩ (World.drew w) fun c=>idx c i 1 fun d=>ld .slice d (World.drew w) fun e=>call Tryz.prog 111 ([.slice b.a b.len b.cap,.slice e.a e.len e.cap]) ([.one (.int .i64)]) (World.drew w) fun (f:Int) g=>K f g
def qk7:List Ann:=[.n,.n,.o [[0,1,2,3,4,5,6,7]]]
theorem qi5 {i cap0 cap1 w K} (hF:qeI i cap0 cap1 K w):call Tryz.prog 120 [.int .i64 i,.pointer (some cap0),.pointer (some cap1)] [.one (.int .i64)] w K:=qad (an:=qk7) Tryz.func120 hF
def qlX (n0:Bool) (n1:Sl) (n2:Sl) (n3:Sl) (k:Sl) (K:Int->World->Prop) (w:World):Prop:=new (Obj.cells #[.bool n0,.slice n1.a n1.len n1.cap,.slice n2.a n2.len n2.cap,.slice n3.a n3.len n3.cap] 143) w fun b c=>new (Obj.cells #[.slice k.a k.len k.cap] 23) c fun d e=>ld .slice ⟨b,1,none⟩ e fun f=>call Tryz.prog 117 ([.int .i64 (↑f.len:Int),Value.func (Fn.func 118) #[] #[.pointer (some ⟨d,0,none⟩),.pointer (some ⟨b,0,none⟩)]]) ([.one (.int .i64)]) e fun (g:Int) h=>K g h
def qru:List Ann:=[.n,.n]
theorem qod {n0 n1 n2 n3 k w K} (hF:qlX n0 n1 n2 n3 k K w):call Tryz.prog 83 [.agg #[.bool n0,.slice n1.a n1.len n1.cap,.slice n2.a n2.len n2.cap,.slice n3.a n3.len n3.cap],.slice k.a k.len k.cap] [.one (.int .i64)] w K:=qad (an:=qru) Tryz.func83 hF
def qgV (i:Int) (cap0:Addr) (cap1:Addr) (K:Bool->World->Prop) (w:World):Prop:=ld .slice cap0 (World.drew w) fun b=>ld .slice ⟨cap1.block,cap1.off+1,none⟩ (World.drew w) fun c=>idx c i 1 fun d=>ld .slice d (World.drew w) fun e=>call Tryz.prog 111 ([.slice b.a b.len b.cap,.slice e.a e.len e.cap]) ([.one (.int .i64)]) (World.drew w) fun (f:Int) g=>K (decide (f<0)) g
def qm0:List Ann:=[.n,.n,.o [[0,1,2,3,4,5,6,7,8]]]
theorem qkK {i cap0 cap1 w K} (hF:qgV i cap0 cap1 K w):call Tryz.prog 118 [.int .i64 i,.pointer (some cap0),.pointer (some cap1)] [.one .bool] w K:=qad (an:=qm0) Tryz.func118 hF
def qiy (t:Int) (K:(Int×Int)->World->Prop) (w:World):Prop:=cond (t==0) (K ((16,88)) w) (cond (t==1) (K ((16,108)) w) (cond (t==2) (K ((16,1)) w) (cond (t==3) (K ((16,16)) w) (join (Bool) (fun a=>cond (t==4) (a (t==4) w) (a (t==5) w)) fun (b:Bool) c=>cond b (K ((24,16)) c) (cond (t==6) (K ((24,65)) c) (cond (t==7) (K ((1,8)) c) (K ((0,0)) c)))))))
def qox:List Ann:=[.n,.n,.n,.n,.n,.n,.n,.n,.n,.n,.n,.j [(13,.one .bool)],.n,.n,.n,.n,.n,.n,.n]
theorem qma {t w K} (hF:qiy t K w):call Tryz.prog 63 [.int .i64 t] [.one (.int .i64),.one (.int .i64)] w K:=qad (an:=qox) Tryz.func63 hF
def qdj (s0:Int) (s1:Int) (s2:Int) (s3:Int) (n0:Bool) (n1:Sl) (n2:Sl) (n3:Sl) (K:(Int×Int)->World->Prop) (w:World):Prop:=new (Obj.cells #[.int .i64 s0,.int .i64 s1,.int .i64 s2,.int .i64 s3] 112) w fun b c=>new (Obj.cells #[.bool n0,.slice n1.a n1.len n1.cap,.slice n2.a n2.len n2.cap,.slice n3.a n3.len n3.cap] 143) c fun d e=>ld .bool ⟨d,0,none⟩ e fun (f:Bool)=>cond f (ld .slice ⟨d,1,none⟩ (World.drew e) fun g=>ld (.int .i64) ⟨b,2,none⟩ (World.drew e) fun (h:Int)=>K (((↑g.len:Int),h)) (World.drew e)) (ld .slice ⟨d,3,none⟩ (World.drew e) fun i=>ld (.int .i64) ⟨b,3,none⟩ (World.drew e) fun (j:Int)=>K (((↑i.len:Int),j)) (World.drew e))
def qiG:List Ann:=[.n,.n,.n,.n,.o [[0,1,2,3,4,5,6]],.n,.o [[0,1,2,3,4,5,6]]]
theorem qgM {s0 s1 s2 s3 n0 n1 n2 n3 w K} (hF:qdj s0 s1 s2 s3 n0 n1 n2 n3 K w):call Tryz.prog 174 [.agg #[.int .i64 s0,.int .i64 s1,.int .i64 s2,.int .i64 s3],.agg #[.bool n0,.slice n1.a n1.len n1.cap,.slice n2.a n2.len n2.cap,.slice n3.a n3.len n3.cap]] [.one (.int .i64),.one (.int .i64)] w K:=qad (an:=qiG) Tryz.func174 hF
def qdP (s0:Int) (s1:Int) (s2:Int) (s3:Int) (n0:Bool) (n1:Sl) (n2:Sl) (n3:Sl) (K:Bool->World->Prop) (w:World):Prop:=new (Obj.cells #[.int .i64 s0,.int .i64 s1,.int .i64 s2,.int .i64 s3] 112) w fun b c=>new (Obj.cells #[.bool n0,.slice n1.a n1.len n1.cap,.slice n2.a n2.len n2.cap,.slice n3.a n3.len n3.cap] 143) c fun d e=>ldA (qa2) ⟨b,0,none⟩ e fun (f:Int×Int×Int×Int)=>ldA (qaa) ⟨d,0,none⟩ e fun (g:Bool×Sl×Sl×Sl)=>call Tryz.prog 174 ([.agg (List.toArray (HL.mk qa2 f)),.agg (List.toArray (HL.mk qaa g))]) ([.one (.int .i64),.one (.int .i64)]) e fun (h:Int×Int) i=>K (decide (h.fst<IntKind.wrap .i64 (Int.tdiv h.snd 2))) i
def qjv:List Ann:=[.n,.n,.n]
theorem qhB {s0 s1 s2 s3 n0 n1 n2 n3 w K} (hF:qdP s0 s1 s2 s3 n0 n1 n2 n3 K w):call Tryz.prog 142 [.agg #[.int .i64 s0,.int .i64 s1,.int .i64 s2,.int .i64 s3],.agg #[.bool n0,.slice n1.a n1.len n1.cap,.slice n2.a n2.len n2.cap,.slice n3.a n3.len n3.cap]] [.one .bool] w K:=qad (an:=qjv) Tryz.func142 hF
def qcW (s0:Int) (s1:Int) (s2:Int) (s3:Int) (n0:Bool) (n1:Sl) (n2:Sl) (n3:Sl) (K:Bool->World->Prop) (w:World):Prop:=new (Obj.cells #[.int .i64 s0,.int .i64 s1,.int .i64 s2,.int .i64 s3] 112) w fun b c=>new (Obj.cells #[.bool n0,.slice n1.a n1.len n1.cap,.slice n2.a n2.len n2.cap,.slice n3.a n3.len n3.cap] 143) c fun d e=>ldA (qa2) ⟨b,0,none⟩ e fun (f:Int×Int×Int×Int)=>ldA (qaa) ⟨d,0,none⟩ e fun (g:Bool×Sl×Sl×Sl)=>call Tryz.prog 174 ([.agg (List.toArray (HL.mk qa2 f)),.agg (List.toArray (HL.mk qaa g))]) ([.one (.int .i64),.one (.int .i64)]) e fun (h:Int×Int) i=>K (decide (h.fst>IntKind.wrap .i64 (Int.tdiv h.snd 2))) i
def qhS:List Ann:=[.n,.n,.n]
theorem qf6 {s0 s1 s2 s3 n0 n1 n2 n3 w K} (hF:qcW s0 s1 s2 s3 n0 n1 n2 n3 K w):call Tryz.prog 178 [.agg #[.int .i64 s0,.int .i64 s1,.int .i64 s2,.int .i64 s3],.agg #[.bool n0,.slice n1.a n1.len n1.cap,.slice n2.a n2.len n2.cap,.slice n3.a n3.len n3.cap]] [.one .bool] w K:=qad (an:=qhS) Tryz.func178 hF
def qis (p:Option Addr) (t:Int) (key:Sl) (K:((Int×Int×Int×Int×(Option Addr)×Int)×Int)->World->Prop) (w:World):Prop:=new (Obj.cells #[.int .i64 0,.int .i64 0,.int .i64 0,.int .i64 0,.pointer none,.int .i64 0] 114) w fun a b=>call Tryz.prog 63 ([.int .i64 t]) ([.one (.int .i64),.one (.int .i64)]) b fun (c:Int×Int) d=>cond (c.fst==0) (st ⟨a,0,none⟩ ([.int .i64 0,.int .i64 0,.int .i64 0,.int .i64 0,.pointer none,.int .i64 0]) d fun e=>ldA (qaf) ⟨a,0,none⟩ e fun (f:Int×Int×Int×Int×Option Addr×Int)=>K ((f,4)) e) (cond (!(↑key.len:Int)==c.fst) (st ⟨a,0,none⟩ ([.int .i64 0,.int .i64 0,.int .i64 0,.int .i64 0,.pointer none,.int .i64 0]) d fun g=>ldA (qaf) ⟨a,0,none⟩ g fun (h:Int×Int×Int×Int×Option Addr×Int)=>K ((h,1)) g) (call Tryz.prog 64 ([.int .i64 c.fst,.int .i64 c.snd]) ([.one (.int .i64),.one (.int .i64)]) d fun (i:Int×Int) j=>st ⟨a,0,none⟩ ([.int .i64 c.fst,.int .i64 c.snd,.int .i64 i.fst,.int .i64 i.snd,.pointer p,.int .i64 t]) j fun k=>ldA (qaf) ⟨a,0,none⟩ k fun (l:Int×Int×Int×Int×Option Addr×Int)=>K ((l,0)) k))
def qn8:List Ann:=[.n,.n,.n,.n,.n,.n,.n,.n,.n]
theorem qmr {p t key w K} (hF:qis p t key K w):call Tryz.prog 59 [.pointer p,.int .i64 t,.slice key.a key.len key.cap] [.agg [.int .i64,.int .i64,.int .i64,.int .i64,.ptr,.int .i64],.one (.int .i64)] w K:=qad (an:=qn8) Tryz.func59 hF
def qd5 (w_0:Int) (w_1:Int) (w_2:Int) (w_3:Int) (w_4:Option Addr) (w_5:Int) (n:Int) (K:((Bool×Sl×Sl×Sl)×Int)->World->Prop) (w:World):Prop:=new (Obj.cells #[.int .i64 w_0,.int .i64 w_1,.int .i64 w_2,.int .i64 w_3,.pointer w_4,.int .i64 w_5] 114) w fun b w_2=>new (Obj.cells #[.bool false,.slice none 0 0,.slice none 0 0,.slice none 0 0] 143) w_2 fun c w_4=>ld .ptr ⟨b,4,none⟩ w_4 fun d=>call Tryz.prog 91 ([.pointer d,.int .u32 n]) ([.one (.int .u8),.one .slice,.one (.int .i64)]) w_4 fun (e:Int×Sl×Int) f=>cond (!e.snd.snd==0) (st ⟨c,0,none⟩ ([.bool false,.slice none 0 0,.slice none 0 0,.slice none 0 0]) f fun g=>ldA (qaa) ⟨c,0,none⟩ g fun (h:Bool×Sl×Sl×Sl)=>K ((h,e.snd.snd)) g) (ld (.int .i64) ⟨b,0,none⟩ f fun (i:Int)=>ld (.int .i64) (⟨(Addr.add ⟨b,0,none⟩ 0).block,(Addr.add ⟨b,0,none⟩ 0).off+1,none⟩) f fun (j:Int)=>call Tryz.prog 112 ([.int .u8 e.fst,.slice e.snd.fst.a e.snd.fst.len e.snd.fst.cap,.int .i64 i,.int .i64 j]) ([.agg qaa,.one (.int .i64)]) f fun (k:(Bool×Sl×Sl×Sl)×Int) l=>st ⟨c,0,none⟩ (HL.mk qaa k.fst) l fun m=>ldA (qaa) ⟨c,0,none⟩ m fun (o:Bool×Sl×Sl×Sl)=>K ((o,k.snd)) m)
def qjw:List Ann:=[.n,.n,.n,.n,.n,.n]
theorem qhA {w_0 w_1 w_2 w_3 w_4 w_5 n w K} (hF:qd5 w_0 w_1 w_2 w_3 w_4 w_5 n K w):call Tryz.prog 82 [.agg #[.int .i64 w_0,.int .i64 w_1,.int .i64 w_2,.int .i64 w_3,.pointer w_4,.int .i64 w_5],.int .u32 n] [.agg [.bool,.slice,.slice,.slice],.one (.int .i64)] w K:=qad (an:=qjw) Tryz.func82 hF
def qdv (w_0:Int) (w_1:Int) (w_2:Int) (w_3:Int) (w_4:Option Addr) (w_5:Int) (n:Int) (x0:Bool) (x1:Sl) (x2:Sl) (x3:Sl) (K:(Int×Int)->World->Prop) (w:World):Prop:=new (Obj.cells #[.int .i64 w_0,.int .i64 w_1,.int .i64 w_2,.int .i64 w_3,.pointer w_4,.int .i64 w_5] 114) w fun b w_2=>new (Obj.cells #[.bool x0,.slice x1.a x1.len x1.cap,.slice x2.a x2.len x2.cap,.slice x3.a x3.len x3.cap] 143) w_2 fun c w_4=>ldA (qaa) ⟨c,0,none⟩ w_4 fun (d:Bool×Sl×Sl×Sl)=>ld (.int .i64) ⟨b,0,none⟩ w_4 fun (e:Int)=>ld (.int .i64) (⟨(Addr.add ⟨b,0,none⟩ 0).block,(Addr.add ⟨b,0,none⟩ 0).off+1,none⟩) w_4 fun (f:Int)=>call Tryz.prog 135 ([.agg (List.toArray (HL.mk qaa d)),.int .i64 e,.int .i64 f]) ([.one (.int .u8),.one .slice,.one (.int .i64)]) w_4 fun (g:Int×Sl×Int) h=>cond (!g.snd.snd==0) (K ((0,2)) h) (join (PUnit) (fun i=>cond (!n==0) (ld .ptr ⟨b,4,none⟩ h fun j=>call Tryz.prog 136 ([.pointer j,.int .u32 n,.int .u8 g.fst,.slice g.snd.fst.a g.snd.fst.len g.snd.fst.cap]) ([.one (.int .i64)]) h fun (k:Int) l=>cond (!k==10) (K ((n,k)) l) (i () l)) (i () h)) fun (m:PUnit) o=>ld .ptr ⟨b,4,none⟩ o fun p=>call Tryz.prog 137 ([.pointer p,.int .u8 g.fst,.slice g.snd.fst.a g.snd.fst.len g.snd.fst.cap]) ([.one (.int .u32),.one (.int .i64)]) o fun (q:Int×Int) r=>join (Int) (fun s=>join (Bool) (fun t=>cond (q.snd==0) (t (!n==0) r) (t false r)) fun (u:Bool) v=>cond u (ld .ptr ⟨b,4,none⟩ v fun x=>call Tryz.prog 110 ([.pointer x,.int .u32 n]) ([.one (.int .i64)]) v fun (y:Int) z=>s y z) (s q.snd v)) fun (A:Int) B=>K ((q.fst,A)) B)
def qiX:List Ann:=[.n,.n,.n,.n,.n,.j [],.n,.n,.n,.n,.n,.j [(10,.one (.int .i64))],.j [(52,.one .bool)],.n]
theorem qgS {w_0 w_1 w_2 w_3 w_4 w_5 n x0 x1 x2 x3 w K} (hF:qdv w_0 w_1 w_2 w_3 w_4 w_5 n x0 x1 x2 x3 K w):call Tryz.prog 106 [.agg #[.int .i64 w_0,.int .i64 w_1,.int .i64 w_2,.int .i64 w_3,.pointer w_4,.int .i64 w_5],.int .u32 n,.agg #[.bool x0,.slice x1.a x1.len x1.cap,.slice x2.a x2.len x2.cap,.slice x3.a x3.len x3.cap]] [.one (.int .u32),.one (.int .i64)] w K:=qad (an:=qiX) Tryz.func106 hF
def qbO (w_0:Int) (w_1:Int) (w_2:Int) (w_3:Int) (w_4:Option Addr) (w_5:Int) (do_:Value) (K:Int->World->Prop) (w:World):Prop:=new (Obj.cells #[.int .i64 w_0,.int .i64 w_1,.int .i64 w_2,.int .i64 w_3,.pointer w_4,.int .i64 w_5] 114) w fun a w_2=>ld .ptr ⟨a,4,none⟩ (World.drew w_2) fun b=>ld .ptr ⟨a,4,none⟩ (World.drew w_2) fun c=>ld (.int .i64) ⟨a,5,none⟩ (World.drew w_2) fun (d:Int)=>call Tryz.prog 46 ([.pointer b]) ([.one (.int .i64)]) (World.drew w_2) fun (e:Int) f=>held [fun g=>World.cell? g ⟨a,5,none⟩=some (.int .i64 d),fun h=>World.cell? h ⟨a,4,none⟩=some (.pointer c)] f<|call Tryz.prog 19 ([.pointer c,.int .i64 d]) ([.agg qcd]) f fun (i:Int×Int×Int) j=>cond (decide (e>IntKind.wrap .i64 (2*IntKind.wrap .i64 i.snd.snd))) (callV Tryz.prog do_ [] ([.one (.int .i64)]) j fun (k:Int) l=>K k l) (ld .ptr ⟨a,4,none⟩ j fun m=>call Tryz.prog 104 ([.pointer m]) ([.one .ptr]) j fun n o=>callV Tryz.prog do_ [] ([.one (.int .i64)]) o fun (p:Int) q=>join (PUnit) (fun r=>join (Bool) (fun s=>cond (!p==0) (s (!Option.isNone n) q) (s false q)) fun (t:Bool) u=>cond t (ld .ptr ⟨a,4,none⟩ u fun v=>call Tryz.prog 105 ([.pointer v,.pointer n]) ([.one (.int .i64)]) u fun (x:Int) y=>r () y) (r () u)) fun (z:PUnit) A=>K p A)
def qiR:List Ann:=[.n,.n,.n,.o [[0,1,3,4,5,6,2,7,8,9,10,11]],.n,.n,.n,.j [],.j [(31,.one .bool)],.n]
theorem qcB {w_0 w_1 w_2 w_3 w_4 w_5 do_ w K} (hF:qbO w_0 w_1 w_2 w_3 w_4 w_5 do_ K w):call Tryz.prog 60 [.agg #[.int .i64 w_0,.int .i64 w_1,.int .i64 w_2,.int .i64 w_3,.pointer w_4,.int .i64 w_5],do_] [.one (.int .i64)] w K:=qad (an:=qiR) Tryz.func60 hF
def qll (p:Option Addr) (t:Int) (key:Sl) (value:Sl) (K:Int->World->Prop) (w:World):Prop:=new (Obj.cells #[.slice key.a key.len key.cap] 23) w fun b c=>new (Obj.cells #[.slice value.a value.len value.cap] 23) c fun d e=>ld .slice ⟨b,0,none⟩ e fun f=>call Tryz.prog 59 ([.pointer p,.int .i64 t,.slice f.a f.len f.cap]) ([.agg qaf,.one (.int .i64)]) e fun (g:(Int×Int×Int×Int×Option Addr×Int)×Int) h=>new (Obj.cells #[.int .i64 0,.int .i64 0,.int .i64 0,.int .i64 0,.pointer none,.int .i64 0] 114) h fun i j=>st ⟨i,0,none⟩ (HL.mk qaf g.fst) j fun k=>cond (!g.snd==0) (K g.snd k) (ld .slice ⟨d,0,none⟩ k fun l=>ld (.int .i64) (⟨(Addr.add ⟨i,0,none⟩ 0).block,(Addr.add ⟨i,0,none⟩ 0).off+1,none⟩) k fun (m:Int)=>cond (!(↑l.len:Int)==m) (K 1 k) (ldA (qaf) ⟨i,0,none⟩ k fun (n:Int×Int×Int×Int×Option Addr×Int)=>call Tryz.prog 60 ([.agg (List.toArray (HL.mk qaf n)),Value.func (Fn.func 61) #[] #[.pointer (some ⟨i,0,none⟩),.pointer (some ⟨b,0,none⟩),.pointer (some ⟨d,0,none⟩)]]) ([.one (.int .i64)]) k fun (o:Int) q=>K o q))
def qqU:List Ann:=[.n,.n,.n,.n,.n,.n,.n,.n,.n]
theorem qon {p t key value w K} (hF:qll p t key value K w):call Tryz.prog 17 [.pointer p,.int .i64 t,.slice key.a key.len key.cap,.slice value.a value.len value.cap] [.one (.int .i64)] w K:=qad (an:=qqU) Tryz.func17 hF
def qgK (cap0:Addr) (cap1:Addr) (cap2:Addr) (K:Int->World->Prop) (w:World):Prop:=ldA (qaf) cap0 w fun (b:Int×Int×Int×Int×Option Addr×Int)=>ld .slice cap1 w fun c=>ld .slice cap2 w fun d=>call Tryz.prog 62 ([.agg (List.toArray (HL.mk qaf b)),.slice c.a c.len c.cap,.slice d.a d.len d.cap]) ([.one (.int .i64)]) w fun (e:Int) f=>K e f
def qny:List Ann:=[.n,.n]
theorem qkF {cap0 cap1 cap2 w K} (hF:qgK cap0 cap1 cap2 K w):call Tryz.prog 61 [.pointer (some cap0),.pointer (some cap1),.pointer (some cap2)] [.one (.int .i64)] w K:=qad (an:=qny) Tryz.func61 hF
def qlA (p:Option Addr) (t:Int) (key:Sl) (K:Int->World->Prop) (w:World):Prop:=new (Obj.cells #[.slice key.a key.len key.cap] 23) w fun b c=>ld .slice ⟨b,0,none⟩ c fun d=>call Tryz.prog 59 ([.pointer p,.int .i64 t,.slice d.a d.len d.cap]) ([.agg qaf,.one (.int .i64)]) c fun (e:(Int×Int×Int×Int×Option Addr×Int)×Int) f=>new (Obj.cells #[.int .i64 0,.int .i64 0,.int .i64 0,.int .i64 0,.pointer none,.int .i64 0] 114) f fun g h=>st ⟨g,0,none⟩ (HL.mk qaf e.fst) h fun i=>cond (!e.snd==0) (K e.snd i) (ld .slice ⟨b,0,none⟩ i fun j=>call Tryz.prog 41 ([.pointer p,.int .i64 t,.slice j.a j.len j.cap]) ([.one .slice,.one (.int .i64)]) i fun (k:Sl×Int) l=>cond (!k.snd==0) (K k.snd l) (ldA (qaf) ⟨g,0,none⟩ l fun (m:Int×Int×Int×Int×Option Addr×Int)=>call Tryz.prog 60 ([.agg (List.toArray (HL.mk qaf m)),Value.func (Fn.func 65) #[] #[.pointer (some ⟨g,0,none⟩),.pointer (some ⟨b,0,none⟩)]]) ([.one (.int .i64)]) l fun (n:Int) o=>K n o))
def qra:List Ann:=[.n,.n,.n,.n,.n,.n,.n,.n,.n,.n]
theorem qn7 {p t key w K} (hF:qlA p t key K w):call Tryz.prog 21 [.pointer p,.int .i64 t,.slice key.a key.len key.cap] [.one (.int .i64)] w K:=qad (an:=qra) Tryz.func21 hF
def qgn (cap0:Addr) (cap1:Addr) (K:Int->World->Prop) (w:World):Prop:=ldA (qaf) cap0 w fun (b:Int×Int×Int×Int×Option Addr×Int)=>ld .slice cap1 w fun c=>call Tryz.prog 66 ([.agg (List.toArray (HL.mk qaf b)),.slice c.a c.len c.cap]) ([.one (.int .i64)]) w fun (d:Int) e=>K d e
def qnv:List Ann:=[.n,.n]
theorem qkD {cap0 cap1 w K} (hF:qgn cap0 cap1 K w):call Tryz.prog 65 [.pointer (some cap0),.pointer (some cap1)] [.one (.int .i64)] w K:=qad (an:=qnv) Tryz.func65 hF
def qcZ (w_0:Int) (w_1:Int) (w_2:Int) (w_3:Int) (w_4:Option Addr) (w_5:Int) (key:Sl) (value:Sl) (K:Int->World->Prop) (w:World):Prop:=new (Obj.cells #[.int .i64 w_0,.int .i64 w_1,.int .i64 w_2,.int .i64 w_3,.pointer w_4,.int .i64 w_5] 114) w fun b w_2=>ld .ptr ⟨b,4,none⟩ w_2 fun c=>ld (.int .i64) ⟨b,5,none⟩ w_2 fun (d:Int)=>call Tryz.prog 19 ([.pointer c,.int .i64 d]) ([.agg qcd]) w_2 fun (e:Int×Int×Int) f=>new (Obj.cells #[.int .u32 0,.int .u32 0,.int .u32 0] 39) f fun g h=>st ⟨g,0,none⟩ (HL.mk qcd e) h fun i=>ld (.int .u32) ⟨g,0,none⟩ i fun (j:Int)=>cond (j==0) (ldA (qaf) ⟨b,0,none⟩ i fun (k:Int×Int×Int×Int×Option Addr×Int)=>new (Obj.cells #[.slice key.a key.len key.cap] 23) i fun l m=>new (Obj.cells #[.slice value.a value.len value.cap] 23) m fun n o=>call Tryz.prog 106 ([.agg (List.toArray (HL.mk qaf k)),.int .u32 0,.agg #[.bool true,.slice (some ⟨l,0,none⟩) 1 1,.slice (some ⟨n,0,none⟩) 1 1,.slice none 0 0]]) ([.one (.int .u32),.one (.int .i64)]) o fun (p:Int×Int) q=>cond (!p.snd==0) (K p.snd q) (ld .ptr ⟨b,4,none⟩ q fun r=>ld (.int .i64) ⟨b,5,none⟩ q fun (s:Int)=>call Tryz.prog 107 ([.pointer r,.int .i64 s,.agg #[.int .u32 p.fst,.int .u32 1,.int .u32 1]]) ([.one (.int .i64)]) q fun (t:Int) u=>K t u)) (ldA (qaf) ⟨b,0,none⟩ i fun (v:Int×Int×Int×Int×Option Addr×Int)=>ld (.int .u32) ⟨g,0,none⟩ i fun (x:Int)=>call Tryz.prog 108 ([.agg (List.toArray (HL.mk qaf v)),.int .u32 x,.slice key.a key.len key.cap,.slice value.a value.len value.cap]) ([.agg qaF,.one (.int .i64)]) i fun (y:(Int×Bool×Sl×Int)×Int) z=>new (Obj.cells #[.int .u32 0,.bool false,.slice none 0 0,.int .u32 0] 192) z fun A B=>st ⟨A,0,none⟩ (HL.mk qaF y.fst) B fun C=>cond (!y.snd==0) (K y.snd C) (ld (.int .u32) ⟨A,0,none⟩ C fun (D:Int)=>st ⟨g,0,none⟩ ([.int .u32 D]) C fun E=>join (PUnit) (fun F=>ld .bool ⟨A,1,none⟩ E fun (G:Bool)=>cond G (ld (.int .u32) ⟨g,1,none⟩ E fun (H:Int)=>st ⟨g,1,none⟩ ([.int .u32 (IntKind.wrap .u32 (H+1))]) E fun I=>F () I) (F () E)) fun (J:PUnit) L=>join (PUnit) (fun M=>ld (.int .u32) ⟨A,3,none⟩ L fun (N:Int)=>cond (!N==0) (ldA (qaf) ⟨b,0,none⟩ L fun (O:Int×Int×Int×Int×Option Addr×Int)=>ld .slice ⟨A,2,none⟩ L fun P=>new (Obj.cells #[.slice P.a P.len P.cap] 23) L fun Q R=>ld (.int .u32) ⟨A,0,none⟩ R fun (S:Int)=>ld (.int .u32) ⟨A,3,none⟩ R fun (T:Int)=>new (Obj.cells #[.int .u32 S,.int .u32 T] 37) R fun U V=>call Tryz.prog 106 ([.agg (List.toArray (HL.mk qaf O)),.int .u32 0,.agg #[.bool false,.slice (some ⟨Q,0,none⟩) 1 1,.slice none 0 0,.slice (some ⟨U,0,none⟩) 2 2]]) ([.one (.int .u32),.one (.int .i64)]) V fun (W:Int×Int) X=>cond (!W.snd==0) (K W.snd X) (ld (.int .u32) ⟨g,2,none⟩ X fun (Y:Int)=>st ⟨g,0,none⟩ ([.int .u32 W.fst]) X fun Z=>st ⟨g,2,none⟩ ([.int .u32 (IntKind.wrap .u32 (Y+1))]) Z fun aa=>M () aa)) (M () L)) fun (ab:PUnit) ac=>ld .ptr ⟨b,4,none⟩ ac fun ad=>ld (.int .i64) ⟨b,5,none⟩ ac fun (ae:Int)=>ldA (qcd) ⟨g,0,none⟩ ac fun (af:Int×Int×Int)=>call Tryz.prog 107 ([.pointer ad,.int .i64 ae,.agg (List.toArray (HL.mk qcd af))]) ([.one (.int .i64)]) ac fun (ag:Int) ah=>K ag ah))
def qhH:List Ann:=[.n,.n,.n,.n,.n,.n,.n,.n,.n,.n,.n,.n,.n,.n,.j [],.n,.j [],.n,.n,.n,.n,.n,.n]
theorem qfX {w_0 w_1 w_2 w_3 w_4 w_5 key value w K} (hF:qcZ w_0 w_1 w_2 w_3 w_4 w_5 key value K w):call Tryz.prog 62 [.agg #[.int .i64 w_0,.int .i64 w_1,.int .i64 w_2,.int .i64 w_3,.pointer w_4,.int .i64 w_5],.slice key.a key.len key.cap,.slice value.a value.len value.cap] [.one (.int .i64)] w K:=qad (an:=qhH) Tryz.func62 hF
def qcY (w_0:Int) (w_1:Int) (w_2:Int) (w_3:Int) (w_4:Option Addr) (w_5:Int) (key:Sl) (K:Int->World->Prop) (w:World):Prop:=new (Obj.cells #[.int .i64 w_0,.int .i64 w_1,.int .i64 w_2,.int .i64 w_3,.pointer w_4,.int .i64 w_5] 114) w fun b w_2=>ld .ptr ⟨b,4,none⟩ w_2 fun c=>ld (.int .i64) ⟨b,5,none⟩ w_2 fun (d:Int)=>call Tryz.prog 19 ([.pointer c,.int .i64 d]) ([.agg qcd]) w_2 fun (e:Int×Int×Int) f=>new (Obj.cells #[.int .u32 0,.int .u32 0,.int .u32 0] 39) f fun g h=>st ⟨g,0,none⟩ (HL.mk qcd e) h fun i=>ldA (qaf) ⟨b,0,none⟩ i fun (j:Int×Int×Int×Int×Option Addr×Int)=>ld (.int .u32) ⟨g,0,none⟩ i fun (k:Int)=>call Tryz.prog 109 ([.agg (List.toArray (HL.mk qaf j)),.int .u32 k,.slice key.a key.len key.cap]) ([.agg qaa,.one (.int .i64)]) i fun (l:(Bool×Sl×Sl×Sl)×Int) m=>new (Obj.cells #[.bool false,.slice none 0 0,.slice none 0 0,.slice none 0 0] 143) m fun n o=>st ⟨n,0,none⟩ (HL.mk qaa l.fst) o fun p=>cond (!l.snd==0) (K l.snd p) (ld (.int .u32) ⟨g,1,none⟩ p fun (q:Int)=>st ⟨g,1,none⟩ ([.int .u32 (IntKind.wrap .u32 (q-1))]) p fun r=>join (Int) (fun s=>join (Bool) (fun t=>ld .bool ⟨n,0,none⟩ r fun (u:Bool)=>cond u (ld .slice ⟨n,1,none⟩ r fun v=>t ((↑v.len:Int)==0) r) (t false r)) fun (x:Bool) y=>cond x (ld .ptr ⟨b,4,none⟩ y fun z=>ld (.int .u32) ⟨g,0,none⟩ y fun (A:Int)=>call Tryz.prog 110 ([.pointer z,.int .u32 A]) ([.one (.int .i64)]) y fun (B:Int) C=>st ⟨g,0,none⟩ ([.int .u32 0,.int .u32 0,.int .u32 0]) C fun D=>s B D) (join (Bool) (fun E=>ld .bool ⟨n,0,none⟩ y fun (F:Bool)=>cond (!F) (ld .slice ⟨n,3,none⟩ y fun G=>E ((↑G.len:Int)==1) y) (E false y)) fun (H:Bool) I=>cond H (ld .ptr ⟨b,4,none⟩ I fun J=>ld (.int .u32) ⟨g,0,none⟩ I fun (L:Int)=>call Tryz.prog 110 ([.pointer J,.int .u32 L]) ([.one (.int .i64)]) I fun (M:Int) N=>ld .slice ⟨n,3,none⟩ (World.drew N) fun O=>idx O 0 1 fun P=>ld (.int .u32) P (World.drew N) fun (Q:Int)=>ld (.int .u32) ⟨g,2,none⟩ (World.drew N) fun (R:Int)=>st ⟨g,0,none⟩ ([.int .u32 Q]) (World.drew N) fun S=>st ⟨g,2,none⟩ ([.int .u32 (IntKind.wrap .u32 (R-1))]) S fun T=>s M T) (ldA (qaf) ⟨b,0,none⟩ I fun (U:Int×Int×Int×Int×Option Addr×Int)=>ld (.int .u32) ⟨g,0,none⟩ I fun (V:Int)=>ldA (qaa) ⟨n,0,none⟩ I fun (W:Bool×Sl×Sl×Sl)=>call Tryz.prog 106 ([.agg (List.toArray (HL.mk qaf U)),.int .u32 V,.agg (List.toArray (HL.mk qaa W))]) ([.one (.int .u32),.one (.int .i64)]) I fun (X:Int×Int) Y=>st ⟨g,0,none⟩ ([.int .u32 X.fst]) Y fun Z=>s X.snd Z))) fun (aa:Int) ab=>cond (!aa==0) (K aa ab) (ld .ptr ⟨b,4,none⟩ ab fun ac=>ld (.int .i64) ⟨b,5,none⟩ ab fun (ad:Int)=>ldA (qcd) ⟨g,0,none⟩ ab fun (ae:Int×Int×Int)=>call Tryz.prog 107 ([.pointer ac,.int .i64 ad,.agg (List.toArray (HL.mk qcd ae))]) ([.one (.int .i64)]) ab fun (af:Int) ag=>K af ag))
def qhy:List Ann:=[.n,.n,.n,.n,.n,.n,.n,.j [(7,.one (.int .i64))],.j [(37,.one .bool)],.j [(52,.one .bool)],.n,.o [[0,1,2,3,4,5,6,7,8,9,10]],.n,.n,.n,.n]
theorem qf4 {w_0 w_1 w_2 w_3 w_4 w_5 key w K} (hF:qcY w_0 w_1 w_2 w_3 w_4 w_5 key K w):call Tryz.prog 66 [.agg #[.int .i64 w_0,.int .i64 w_1,.int .i64 w_2,.int .i64 w_3,.pointer w_4,.int .i64 w_5],.slice key.a key.len key.cap] [.one (.int .i64)] w K:=qad (an:=qhy) Tryz.func66 hF
def qeT (w_0:Int) (w_1:Int) (w_2:Int) (w_3:Int) (w_4:Option Addr) (w_5:Int) (at_:Int) (key:Sl) (value:Sl) (K:((Int×Bool×Sl×Int)×Int)->World->Prop) (w:World):Prop:=new (Obj.cells #[.int .i64 w_0,.int .i64 w_1,.int .i64 w_2,.int .i64 w_3,.pointer w_4,.int .i64 w_5] 114) w fun b w_2=>new (Obj.cells #[.int .u32 0,.bool false,.slice none 0 0,.int .u32 0] 192) w_2 fun c w_4=>ldA (qaf) ⟨b,0,none⟩ w_4 fun (d:Int×Int×Int×Int×Option Addr×Int)=>call Tryz.prog 82 ([.agg (List.toArray (HL.mk qaf d)),.int .u32 at_]) ([.agg qaa,.one (.int .i64)]) w_4 fun (e:(Bool×Sl×Sl×Sl)×Int) f=>new (Obj.cells #[.bool false,.slice none 0 0,.slice none 0 0,.slice none 0 0] 143) f fun g h=>st ⟨g,0,none⟩ (HL.mk qaa e.fst) h fun i=>cond (!e.snd==0) (st ⟨c,0,none⟩ ([.int .u32 0,.bool false,.slice none 0 0,.int .u32 0]) i fun j=>ldA (qaF) ⟨c,0,none⟩ j fun (k:Int×Bool×Sl×Int)=>K ((k,e.snd)) j) (ld .bool ⟨g,0,none⟩ i fun (l:Bool)=>cond l (ldA (qaa) ⟨g,0,none⟩ i fun (m:Bool×Sl×Sl×Sl)=>call Tryz.prog 84 ([.agg (List.toArray (HL.mk qaa m)),.slice key.a key.len key.cap]) ([.one (.int .i64),.one .bool]) i fun (n:Int×Bool) o=>join (PUnit) (fun p=>cond n.snd (ld .slice ⟨g,2,none⟩ o fun q=>idx q n.fst 1 fun r=>st r ([.slice value.a value.len value.cap]) o fun s=>p () s) ((ld .slice ⟨g,1,none⟩ (World.drew o) fun t=>ld .slice ⟨g,2,none⟩ (World.drew o) fun u=>new (Obj.cells #[.slice key.a key.len key.cap] 23) (World.drew o) fun v x=>held [fun y=>World.cell? y ⟨g,2,none⟩=some (.slice u.a u.len u.cap),fun z=>World.cell? z ⟨g,1,none⟩=some (.slice t.a t.len t.cap)] x<|call Tryz.prog 138 ([.slice t.a t.len t.cap,.int .i64 n.fst,.slice (some ⟨v,0,none⟩) 1 1]) ([.one .slice]) x fun A B=>held [fun C=>World.cell? C ⟨g,2,none⟩=some (.slice u.a u.len u.cap)] B<|new (Obj.cells #[.slice value.a value.len value.cap] 23) B fun D E=>held [fun F=>World.cell? F ⟨g,2,none⟩=some (.slice u.a u.len u.cap),fun G=>World.cell? G ⟨g,1,none⟩=some (.slice t.a t.len t.cap)] E<|call Tryz.prog 138 ([.slice u.a u.len u.cap,.int .i64 n.fst,.slice (some ⟨D,0,none⟩) 1 1]) ([.one .slice]) E fun H I=>st ⟨g,1,none⟩ ([.slice A.a A.len A.cap]) I fun J=>st ⟨g,2,none⟩ ([.slice H.a H.len H.cap]) J fun L=>p () L)/\((ld .slice ⟨g,1,none⟩ (World.drew o) fun M=>ld .slice ⟨g,2,none⟩ (World.drew o) fun N=>new (Obj.cells #[.slice key.a key.len key.cap] 23) (World.drew o) fun O P=>held [fun Q=>World.cell? Q ⟨g,2,none⟩=some (.slice N.a N.len N.cap),fun R=>World.cell? R ⟨g,1,none⟩=some (.slice M.a M.len M.cap)] P<|new (Obj.cells #[.slice value.a value.len value.cap] 23) P fun S T=>held [fun U=>World.cell? U ⟨g,2,none⟩=some (.slice N.a N.len N.cap),fun V=>World.cell? V ⟨g,1,none⟩=some (.slice M.a M.len M.cap)] T<|call Tryz.prog 138 ([.slice M.a M.len M.cap,.int .i64 n.fst,.slice (some ⟨O,0,none⟩) 1 1]) ([.one .slice]) T fun W X=>held [fun Y=>World.cell? Y ⟨g,2,none⟩=some (.slice N.a N.len N.cap)] X<|call Tryz.prog 138 ([.slice N.a N.len N.cap,.int .i64 n.fst,.slice (some ⟨S,0,none⟩) 1 1]) ([.one .slice]) X fun Z aa=>st ⟨g,1,none⟩ ([.slice W.a W.len W.cap]) aa fun ab=>st ⟨g,2,none⟩ ([.slice Z.a Z.len Z.cap]) ab fun ac=>p () ac)/\(ld .slice ⟨g,1,none⟩ (World.drew o) fun ad=>ld .slice ⟨g,2,none⟩ (World.drew o) fun ae=>new (Obj.cells #[.slice value.a value.len value.cap] 23) (World.drew o) fun af ag=>held [fun ah=>World.cell? ah ⟨g,2,none⟩=some (.slice ae.a ae.len ae.cap),fun ai=>World.cell? ai ⟨g,1,none⟩=some (.slice ad.a ad.len ad.cap)] ag<|new (Obj.cells #[.slice key.a key.len key.cap] 23) ag fun aj ak=>held [fun al=>World.cell? al ⟨g,2,none⟩=some (.slice ae.a ae.len ae.cap),fun am=>World.cell? am ⟨g,1,none⟩=some (.slice ad.a ad.len ad.cap)] ak<|call Tryz.prog 138 ([.slice ad.a ad.len ad.cap,.int .i64 n.fst,.slice (some ⟨aj,0,none⟩) 1 1]) ([.one .slice]) ak fun an ao=>held [fun ap=>World.cell? ap ⟨g,2,none⟩=some (.slice ae.a ae.len ae.cap)] ao<|call Tryz.prog 138 ([.slice ae.a ae.len ae.cap,.int .i64 n.fst,.slice (some ⟨af,0,none⟩) 1 1]) ([.one .slice]) ao fun aq ar=>st ⟨g,1,none⟩ ([.slice an.a an.len an.cap]) ar fun au=>st ⟨g,2,none⟩ ([.slice aq.a aq.len aq.cap]) au fun av=>p () av)))) fun (aw:PUnit) ax=>ldA (qaf) ⟨b,0,none⟩ ax fun (ay:Int×Int×Int×Int×Option Addr×Int)=>ldA (qaa) ⟨g,0,none⟩ ax fun (az:Bool×Sl×Sl×Sl)=>call Tryz.prog 139 ([.agg (List.toArray (HL.mk qaf ay)),.int .u32 at_,.agg (List.toArray (HL.mk qaa az)),.bool !n.snd]) ([.agg qaF,.one (.int .i64)]) ax fun (aA:(Int×Bool×Sl×Int)×Int) aB=>st ⟨c,0,none⟩ (HL.mk qaF aA.fst) aB fun aC=>ldA (qaF) ⟨c,0,none⟩ aC fun (aD:Int×Bool×Sl×Int)=>K ((aD,aA.snd)) aC) (ldA (qaa) ⟨g,0,none⟩ i fun (aE:Bool×Sl×Sl×Sl)=>call Tryz.prog 83 ([.agg (List.toArray (HL.mk qaa aE)),.slice key.a key.len key.cap]) ([.one (.int .i64)]) i fun (aF:Int) aG=>(ldA (qaf) ⟨b,0,none⟩ (World.drew aG) fun (aH:Int×Int×Int×Int×Option Addr×Int)=>ld .slice ⟨g,3,none⟩ (World.drew aG) fun aI=>idx aI aF 1 fun aJ=>ld (.int .u32) aJ (World.drew aG) fun (aL:Int)=>call Tryz.prog 108 ([.agg (List.toArray (HL.mk qaf aH)),.int .u32 aL,.slice key.a key.len key.cap,.slice value.a value.len value.cap]) ([.agg qaF,.one (.int .i64)]) (World.drew aG) fun (aM:(Int×Bool×Sl×Int)×Int) aN=>new (Obj.cells #[.int .u32 0,.bool false,.slice none 0 0,.int .u32 0] 192) aN fun aO aP=>held [fun aQ=>World.cell? aQ aJ=some (.int .u32 aL),fun aR=>World.cell? aR ⟨g,3,none⟩=some (.slice aI.a aI.len aI.cap),fun aS=>cellsAt aS ⟨b,0,none⟩ 0 (HL.mk qaf aH)] aP<|st ⟨aO,0,none⟩ (HL.mk qaF aM.fst) aP fun aT=>cond (!aM.snd==0) (st ⟨c,0,none⟩ ([.int .u32 0,.bool false,.slice none 0 0,.int .u32 0]) aT fun aU=>ldA (qaF) ⟨c,0,none⟩ aU fun (aV:Int×Bool×Sl×Int)=>K ((aV,aM.snd)) aU) (join (Bool) (fun aW=>ld (.int .u32) ⟨aO,0,none⟩ (World.drew aT) fun (aX:Int)=>ld .slice ⟨g,3,none⟩ (World.drew aT) fun aY=>idx aY aF 1 fun aZ=>ld (.int .u32) aZ (World.drew aT) fun (ba:Int)=>cond (aX==ba) (ld (.int .u32) ⟨aO,3,none⟩ (World.drew aT) fun (bb:Int)=>aW (bb==0) (World.drew aT)) (aW false (World.drew aT))) fun (bc:Bool) bd=>cond bc (ld .bool ⟨aO,1,none⟩ bd fun (be:Bool)=>st ⟨c,0,none⟩ ([.int .u32 at_,.bool be,.slice none 0 0,.int .u32 0]) bd fun bf=>ldA (qaF) ⟨c,0,none⟩ bf fun (bg:Int×Bool×Sl×Int)=>K ((bg,0)) bf) (ld .slice ⟨g,3,none⟩ bd fun bh=>ld (.int .u32) ⟨aO,0,none⟩ bd fun (bi:Int)=>idx bh aF 1 fun bj=>st bj ([.int .u32 bi]) bd fun bk=>join (PUnit) (fun bl=>ld (.int .u32) ⟨aO,3,none⟩ bk fun (bm:Int)=>cond (!bm==0) ((ld .slice ⟨g,3,none⟩ (World.drew bk) fun bn=>ld (.int .u32) ⟨aO,3,none⟩ (World.drew bk) fun (bo:Int)=>ld .slice ⟨g,1,none⟩ (World.drew bk) fun bp=>ld .slice ⟨aO,2,none⟩ (World.drew bk) fun bq=>new (Obj.cells #[.int .u32 bo] 37) (World.drew bk) fun br bs=>held [fun bt=>World.cell? bt ⟨aO,2,none⟩=some (.slice bq.a bq.len bq.cap),fun bu=>World.cell? bu ⟨g,1,none⟩=some (.slice bp.a bp.len bp.cap),fun bv=>World.cell? bv ⟨g,3,none⟩=some (.slice bn.a bn.len bn.cap)] bs<|call Tryz.prog 140 ([.slice bn.a bn.len bn.cap,.int .i64 (IntKind.wrap .i64 (aF+1)),.slice (some ⟨br,0,none⟩) 1 1]) ([.one .slice]) bs fun bw bx=>held [fun bz=>World.cell? bz ⟨aO,2,none⟩=some (.slice bq.a bq.len bq.cap),fun bA=>World.cell? bA ⟨g,1,none⟩=some (.slice bp.a bp.len bp.cap)] bx<|new (Obj.cells #[.slice bq.a bq.len bq.cap] 23) bx fun bB bC=>held [fun bD=>World.cell? bD ⟨g,1,none⟩=some (.slice bp.a bp.len bp.cap),fun bE=>World.cell? bE ⟨aO,3,none⟩=some (.int .u32 bo),fun bF=>World.cell? bF ⟨g,3,none⟩=some (.slice bn.a bn.len bn.cap)] bC<|call Tryz.prog 138 ([.slice bp.a bp.len bp.cap,.int .i64 aF,.slice (some ⟨bB,0,none⟩) 1 1]) ([.one .slice]) bC fun bG bH=>st ⟨g,3,none⟩ ([.slice bw.a bw.len bw.cap]) bH fun bI=>st ⟨g,1,none⟩ ([.slice bG.a bG.len bG.cap]) bI fun bJ=>bl () bJ)/\((ld .slice ⟨g,3,none⟩ (World.drew bk) fun bL=>ld (.int .u32) ⟨aO,3,none⟩ (World.drew bk) fun (bM:Int)=>ld .slice ⟨g,1,none⟩ (World.drew bk) fun bN=>ld .slice ⟨aO,2,none⟩ (World.drew bk) fun bO=>new (Obj.cells #[.int .u32 bM] 37) (World.drew bk) fun bP bQ=>held [fun bR=>World.cell? bR ⟨aO,2,none⟩=some (.slice bO.a bO.len bO.cap),fun bS=>World.cell? bS ⟨g,1,none⟩=some (.slice bN.a bN.len bN.cap),fun bT=>World.cell? bT ⟨g,3,none⟩=some (.slice bL.a bL.len bL.cap)] bQ<|new (Obj.cells #[.slice bO.a bO.len bO.cap] 23) bQ fun bU bV=>held [fun bW=>World.cell? bW ⟨g,1,none⟩=some (.slice bN.a bN.len bN.cap),fun bX=>World.cell? bX ⟨aO,3,none⟩=some (.int .u32 bM),fun bY=>World.cell? bY ⟨g,3,none⟩=some (.slice bL.a bL.len bL.cap)] bV<|call Tryz.prog 140 ([.slice bL.a bL.len bL.cap,.int .i64 (IntKind.wrap .i64 (aF+1)),.slice (some ⟨bP,0,none⟩) 1 1]) ([.one .slice]) bV fun bZ ca=>held [fun cb=>World.cell? cb ⟨aO,2,none⟩=some (.slice bO.a bO.len bO.cap),fun cc=>World.cell? cc ⟨g,1,none⟩=some (.slice bN.a bN.len bN.cap)] ca<|call Tryz.prog 138 ([.slice bN.a bN.len bN.cap,.int .i64 aF,.slice (some ⟨bU,0,none⟩) 1 1]) ([.one .slice]) ca fun cd ce=>st ⟨g,3,none⟩ ([.slice bZ.a bZ.len bZ.cap]) ce fun cf=>st ⟨g,1,none⟩ ([.slice cd.a cd.len cd.cap]) cf fun cg=>bl () cg)/\(ld .slice ⟨g,3,none⟩ (World.drew bk) fun ch=>ld (.int .u32) ⟨aO,3,none⟩ (World.drew bk) fun (ci:Int)=>ld .slice ⟨g,1,none⟩ (World.drew bk) fun cj=>ld .slice ⟨aO,2,none⟩ (World.drew bk) fun ck=>new (Obj.cells #[.slice ck.a ck.len ck.cap] 23) (World.drew bk) fun cl cm=>held [fun cn=>World.cell? cn ⟨g,1,none⟩=some (.slice cj.a cj.len cj.cap),fun co=>World.cell? co ⟨aO,3,none⟩=some (.int .u32 ci),fun cp=>World.cell? cp ⟨g,3,none⟩=some (.slice ch.a ch.len ch.cap)] cm<|new (Obj.cells #[.int .u32 ci] 37) cm fun cq cr=>held [fun cs=>World.cell? cs ⟨aO,2,none⟩=some (.slice ck.a ck.len ck.cap),fun ct=>World.cell? ct ⟨g,1,none⟩=some (.slice cj.a cj.len cj.cap),fun cu=>World.cell? cu ⟨g,3,none⟩=some (.slice ch.a ch.len ch.cap)] cr<|call Tryz.prog 140 ([.slice ch.a ch.len ch.cap,.int .i64 (IntKind.wrap .i64 (aF+1)),.slice (some ⟨cq,0,none⟩) 1 1]) ([.one .slice]) cr fun cv cw=>held [fun cx=>World.cell? cx ⟨aO,2,none⟩=some (.slice ck.a ck.len ck.cap),fun cy=>World.cell? cy ⟨g,1,none⟩=some (.slice cj.a cj.len cj.cap)] cw<|call Tryz.prog 138 ([.slice cj.a cj.len cj.cap,.int .i64 aF,.slice (some ⟨cl,0,none⟩) 1 1]) ([.one .slice]) cw fun cz cA=>st ⟨g,3,none⟩ ([.slice cv.a cv.len cv.cap]) cA fun cB=>st ⟨g,1,none⟩ ([.slice cz.a cz.len cz.cap]) cB fun cC=>bl () cC))) (bl () bk)) fun (cD:PUnit) cE=>ldA (qaf) ⟨b,0,none⟩ cE fun (cF:Int×Int×Int×Int×Option Addr×Int)=>ldA (qaa) ⟨g,0,none⟩ cE fun (cG:Bool×Sl×Sl×Sl)=>ld .bool ⟨aO,1,none⟩ cE fun (cH:Bool)=>call Tryz.prog 139 ([.agg (List.toArray (HL.mk qaf cF)),.int .u32 at_,.agg (List.toArray (HL.mk qaa cG)),.bool cH]) ([.agg qaF,.one (.int .i64)]) cE fun (cI:(Int×Bool×Sl×Int)×Int) cJ=>st ⟨c,0,none⟩ (HL.mk qaF cI.fst) cJ fun cL=>ldA (qaF) ⟨c,0,none⟩ cL fun (cM:Int×Bool×Sl×Int)=>K ((cM,cI.snd)) cL)))/\(ldA (qaf) ⟨b,0,none⟩ (World.drew aG) fun (cN:Int×Int×Int×Int×Option Addr×Int)=>ld .slice ⟨g,3,none⟩ (World.drew aG) fun cO=>idx cO aF 1 fun cP=>ld (.int .u32) cP (World.drew aG) fun (cQ:Int)=>new (Obj.cells #[.int .u32 0,.bool false,.slice none 0 0,.int .u32 0] 192) (World.drew aG) fun cR cS=>held [fun cT=>World.cell? cT cP=some (.int .u32 cQ),fun cU=>World.cell? cU ⟨g,3,none⟩=some (.slice cO.a cO.len cO.cap),fun cV=>cellsAt cV ⟨b,0,none⟩ 0 (HL.mk qaf cN)] cS<|call Tryz.prog 108 ([.agg (List.toArray (HL.mk qaf cN)),.int .u32 cQ,.slice key.a key.len key.cap,.slice value.a value.len value.cap]) ([.agg qaF,.one (.int .i64)]) cS fun (cW:(Int×Bool×Sl×Int)×Int) cX=>st ⟨cR,0,none⟩ (HL.mk qaF cW.fst) cX fun cY=>cond (!cW.snd==0) (st ⟨c,0,none⟩ ([.int .u32 0,.bool false,.slice none 0 0,.int .u32 0]) cY fun cZ=>ldA (qaF) ⟨c,0,none⟩ cZ fun (da:Int×Bool×Sl×Int)=>K ((da,cW.snd)) cZ) (join (Bool) (fun db=>ld (.int .u32) ⟨cR,0,none⟩ (World.drew cY) fun (dc:Int)=>ld .slice ⟨g,3,none⟩ (World.drew cY) fun dd=>idx dd aF 1 fun de=>ld (.int .u32) de (World.drew cY) fun (df:Int)=>cond (dc==df) (ld (.int .u32) ⟨cR,3,none⟩ (World.drew cY) fun (dg:Int)=>db (dg==0) (World.drew cY)) (db false (World.drew cY))) fun (dh:Bool) di=>cond dh (ld .bool ⟨cR,1,none⟩ di fun (dj:Bool)=>st ⟨c,0,none⟩ ([.int .u32 at_,.bool dj,.slice none 0 0,.int .u32 0]) di fun dk=>ldA (qaF) ⟨c,0,none⟩ dk fun (dl:Int×Bool×Sl×Int)=>K ((dl,0)) dk) (ld .slice ⟨g,3,none⟩ di fun dm=>ld (.int .u32) ⟨cR,0,none⟩ di fun (dn:Int)=>idx dm aF 1 fun dp=>st dp ([.int .u32 dn]) di fun dq=>join (PUnit) (fun dr=>ld (.int .u32) ⟨cR,3,none⟩ dq fun (ds:Int)=>cond (!ds==0) ((ld .slice ⟨g,3,none⟩ (World.drew dq) fun dt=>ld (.int .u32) ⟨cR,3,none⟩ (World.drew dq) fun (du:Int)=>ld .slice ⟨g,1,none⟩ (World.drew dq) fun dv=>ld .slice ⟨cR,2,none⟩ (World.drew dq) fun dw=>new (Obj.cells #[.int .u32 du] 37) (World.drew dq) fun dx dy=>held [fun dz=>World.cell? dz ⟨cR,2,none⟩=some (.slice dw.a dw.len dw.cap),fun dA=>World.cell? dA ⟨g,1,none⟩=some (.slice dv.a dv.len dv.cap),fun dB=>World.cell? dB ⟨g,3,none⟩=some (.slice dt.a dt.len dt.cap)] dy<|call Tryz.prog 140 ([.slice dt.a dt.len dt.cap,.int .i64 (IntKind.wrap .i64 (aF+1)),.slice (some ⟨dx,0,none⟩) 1 1]) ([.one .slice]) dy fun dC dD=>held [fun dE=>World.cell? dE ⟨cR,2,none⟩=some (.slice dw.a dw.len dw.cap),fun dF=>World.cell? dF ⟨g,1,none⟩=some (.slice dv.a dv.len dv.cap)] dD<|new (Obj.cells #[.slice dw.a dw.len dw.cap] 23) dD fun dG dH=>held [fun dI=>World.cell? dI ⟨g,1,none⟩=some (.slice dv.a dv.len dv.cap),fun dJ=>World.cell? dJ ⟨cR,3,none⟩=some (.int .u32 du),fun dL=>World.cell? dL ⟨g,3,none⟩=some (.slice dt.a dt.len dt.cap)] dH<|call Tryz.prog 138 ([.slice dv.a dv.len dv.cap,.int .i64 aF,.slice (some ⟨dG,0,none⟩) 1 1]) ([.one .slice]) dH fun dM dN=>st ⟨g,3,none⟩ ([.slice dC.a dC.len dC.cap]) dN fun dO=>st ⟨g,1,none⟩ ([.slice dM.a dM.len dM.cap]) dO fun dP=>dr () dP)/\((ld .slice ⟨g,3,none⟩ (World.drew dq) fun dQ=>ld (.int .u32) ⟨cR,3,none⟩ (World.drew dq) fun (dR:Int)=>ld .slice ⟨g,1,none⟩ (World.drew dq) fun dS=>ld .slice ⟨cR,2,none⟩ (World.drew dq) fun dT=>new (Obj.cells #[.int .u32 dR] 37) (World.drew dq) fun dU dV=>held [fun dW=>World.cell? dW ⟨cR,2,none⟩=some (.slice dT.a dT.len dT.cap),fun dX=>World.cell? dX ⟨g,1,none⟩=some (.slice dS.a dS.len dS.cap),fun dY=>World.cell? dY ⟨g,3,none⟩=some (.slice dQ.a dQ.len dQ.cap)] dV<|new (Obj.cells #[.slice dT.a dT.len dT.cap] 23) dV fun dZ ea=>held [fun eb=>World.cell? eb ⟨g,1,none⟩=some (.slice dS.a dS.len dS.cap),fun ec=>World.cell? ec ⟨cR,3,none⟩=some (.int .u32 dR),fun ed=>World.cell? ed ⟨g,3,none⟩=some (.slice dQ.a dQ.len dQ.cap)] ea<|call Tryz.prog 140 ([.slice dQ.a dQ.len dQ.cap,.int .i64 (IntKind.wrap .i64 (aF+1)),.slice (some ⟨dU,0,none⟩) 1 1]) ([.one .slice]) ea fun ee ef=>held [fun eg=>World.cell? eg ⟨cR,2,none⟩=some (.slice dT.a dT.len dT.cap),fun eh=>World.cell? eh ⟨g,1,none⟩=some (.slice dS.a dS.len dS.cap)] ef<|call Tryz.prog 138 ([.slice dS.a dS.len dS.cap,.int .i64 aF,.slice (some ⟨dZ,0,none⟩) 1 1]) ([.one .slice]) ef fun ei ej=>st ⟨g,3,none⟩ ([.slice ee.a ee.len ee.cap]) ej fun ek=>st ⟨g,1,none⟩ ([.slice ei.a ei.len ei.cap]) ek fun el=>dr () el)/\(ld .slice ⟨g,3,none⟩ (World.drew dq) fun em=>ld (.int .u32) ⟨cR,3,none⟩ (World.drew dq) fun (en:Int)=>ld .slice ⟨g,1,none⟩ (World.drew dq) fun eo=>ld .slice ⟨cR,2,none⟩ (World.drew dq) fun ep=>new (Obj.cells #[.slice ep.a ep.len ep.cap] 23) (World.drew dq) fun eq er=>held [fun es=>World.cell? es ⟨g,1,none⟩=some (.slice eo.a eo.len eo.cap),fun et=>World.cell? et ⟨cR,3,none⟩=some (.int .u32 en),fun eu=>World.cell? eu ⟨g,3,none⟩=some (.slice em.a em.len em.cap)] er<|new (Obj.cells #[.int .u32 en] 37) er fun ev ew=>held [fun ex=>World.cell? ex ⟨cR,2,none⟩=some (.slice ep.a ep.len ep.cap),fun ey=>World.cell? ey ⟨g,1,none⟩=some (.slice eo.a eo.len eo.cap),fun ez=>World.cell? ez ⟨g,3,none⟩=some (.slice em.a em.len em.cap)] ew<|call Tryz.prog 140 ([.slice em.a em.len em.cap,.int .i64 (IntKind.wrap .i64 (aF+1)),.slice (some ⟨ev,0,none⟩) 1 1]) ([.one .slice]) ew fun eA eB=>held [fun eC=>World.cell? eC ⟨cR,2,none⟩=some (.slice ep.a ep.len ep.cap),fun eD=>World.cell? eD ⟨g,1,none⟩=some (.slice eo.a eo.len eo.cap)] eB<|call Tryz.prog 138 ([.slice eo.a eo.len eo.cap,.int .i64 aF,.slice (some ⟨eq,0,none⟩) 1 1]) ([.one .slice]) eB fun eE eF=>st ⟨g,3,none⟩ ([.slice eA.a eA.len eA.cap]) eF fun eG=>st ⟨g,1,none⟩ ([.slice eE.a eE.len eE.cap]) eG fun eH=>dr () eH))) (dr () dq)) fun (eI:PUnit) eJ=>ldA (qaf) ⟨b,0,none⟩ eJ fun (eL:Int×Int×Int×Int×Option Addr×Int)=>ldA (qaa) ⟨g,0,none⟩ eJ fun (eM:Bool×Sl×Sl×Sl)=>ld .bool ⟨cR,1,none⟩ eJ fun (eN:Bool)=>call Tryz.prog 139 ([.agg (List.toArray (HL.mk qaf eL)),.int .u32 at_,.agg (List.toArray (HL.mk qaa eM)),.bool eN]) ([.agg qaF,.one (.int .i64)]) eJ fun (eO:(Int×Bool×Sl×Int)×Int) eP=>st ⟨c,0,none⟩ (HL.mk qaF eO.fst) eP fun eQ=>ldA (qaF) ⟨c,0,none⟩ eQ fun (eR:Int×Bool×Sl×Int)=>K ((eR,eO.snd)) eQ)))))
def qla:List Ann:=[.n,.n,.n,.n,.n,.n,.n,.n,.j [],.n,.o [[0,1,2,3,6,7,8,9,4,5,12,10,11,13,14,15],[0,1,2,3,6,7,8,9,4,10,5,12,11,13,14,15],[0,1,2,3,6,7,8,9,10,4,5,12,11,13,14,15]],.n,.n,.n,.o [[0,1,2,3,4,5,6,7,8,9,10,11,12,13,14],[0,1,2,3,4,5,6,7,12,8,9,10,11,13,14]],.n,.n,.n,.n,.j [(93,.one .bool)],.o [[0,1,2,3,4,5,6,7,8,9,10,11,12]],.n,.n,.j [],.n,.o [[0,1,2,3,4,5,8,9,10,11,12,6,7,15,13,14,16,17,18],[0,1,2,3,4,5,8,9,10,11,12,6,13,7,15,14,16,17,18],[0,1,2,3,4,5,8,9,10,11,12,13,6,7,15,14,16,17,18]],.n]
theorem qiT {w_0 w_1 w_2 w_3 w_4 w_5 at_ key value w K} (hF:qeT w_0 w_1 w_2 w_3 w_4 w_5 at_ key value K w):call Tryz.prog 108 [.agg #[.int .i64 w_0,.int .i64 w_1,.int .i64 w_2,.int .i64 w_3,.pointer w_4,.int .i64 w_5],.int .u32 at_,.slice key.a key.len key.cap,.slice value.a value.len value.cap] [.agg [.int .u32,.bool,.slice,.int .u32],.one (.int .i64)] w K:=qad (an:=qla) Tryz.func108 hF
def qeM (w_0:Int) (w_1:Int) (w_2:Int) (w_3:Int) (w_4:Option Addr) (w_5:Int) (at_:Int) (key:Sl) (K:((Bool×Sl×Sl×Sl)×Int)->World->Prop) (w:World):Prop:=new (Obj.cells #[.int .i64 w_0,.int .i64 w_1,.int .i64 w_2,.int .i64 w_3,.pointer w_4,.int .i64 w_5] 114) w fun b w_2=>new (Obj.cells #[.bool false,.slice none 0 0,.slice none 0 0,.slice none 0 0] 143) w_2 fun c w_4=>ldA (qaf) ⟨b,0,none⟩ w_4 fun (d:Int×Int×Int×Int×Option Addr×Int)=>call Tryz.prog 82 ([.agg (List.toArray (HL.mk qaf d)),.int .u32 at_]) ([.agg qaa,.one (.int .i64)]) w_4 fun (e:(Bool×Sl×Sl×Sl)×Int) f=>new (Obj.cells #[.bool false,.slice none 0 0,.slice none 0 0,.slice none 0 0] 143) f fun g h=>st ⟨g,0,none⟩ (HL.mk qaa e.fst) h fun i=>cond (!e.snd==0) (st ⟨c,0,none⟩ ([.bool false,.slice none 0 0,.slice none 0 0,.slice none 0 0]) i fun j=>ldA (qaa) ⟨c,0,none⟩ j fun (k:Bool×Sl×Sl×Sl)=>K ((k,e.snd)) j) (ld .bool ⟨g,0,none⟩ i fun (l:Bool)=>cond l (ldA (qaa) ⟨g,0,none⟩ i fun (m:Bool×Sl×Sl×Sl)=>call Tryz.prog 84 ([.agg (List.toArray (HL.mk qaa m)),.slice key.a key.len key.cap]) ([.one (.int .i64),.one .bool]) i fun (n:Int×Bool) o=>cond (!n.snd) (st ⟨c,0,none⟩ ([.bool false,.slice none 0 0,.slice none 0 0,.slice none 0 0]) o fun p=>ldA (qaa) ⟨c,0,none⟩ p fun (q:Bool×Sl×Sl×Sl)=>K ((q,5)) p) (ld .slice ⟨g,1,none⟩ (World.drew o) fun r=>ld .slice ⟨g,2,none⟩ (World.drew o) fun s=>call Tryz.prog 141 ([.slice r.a r.len r.cap,.int .i64 n.fst,.int .i64 (IntKind.wrap .i64 (n.fst+1))]) ([.one .slice]) (World.drew o) fun t u=>held [fun v=>World.cell? v ⟨g,2,none⟩=some (.slice s.a s.len s.cap)] u<|call Tryz.prog 141 ([.slice s.a s.len s.cap,.int .i64 n.fst,.int .i64 (IntKind.wrap .i64 (n.fst+1))]) ([.one .slice]) u fun x y=>st ⟨g,1,none⟩ ([.slice t.a t.len t.cap]) y fun z=>st ⟨g,2,none⟩ ([.slice x.a x.len x.cap]) z fun A=>ldA (qaa) ⟨g,0,none⟩ A fun (B:Bool×Sl×Sl×Sl)=>st ⟨c,0,none⟩ (HL.mk qaa B) A fun C=>ldA (qaa) ⟨c,0,none⟩ C fun (D:Bool×Sl×Sl×Sl)=>K ((D,0)) C)) (ldA (qaa) ⟨g,0,none⟩ i fun (E:Bool×Sl×Sl×Sl)=>call Tryz.prog 83 ([.agg (List.toArray (HL.mk qaa E)),.slice key.a key.len key.cap]) ([.one (.int .i64)]) i fun (F:Int) G=>(ldA (qaf) ⟨b,0,none⟩ (World.drew G) fun (H:Int×Int×Int×Int×Option Addr×Int)=>ld .slice ⟨g,3,none⟩ (World.drew G) fun I=>idx I F 1 fun J=>ld (.int .u32) J (World.drew G) fun (L:Int)=>call Tryz.prog 109 ([.agg (List.toArray (HL.mk qaf H)),.int .u32 L,.slice key.a key.len key.cap]) ([.agg qaa,.one (.int .i64)]) (World.drew G) fun (M:(Bool×Sl×Sl×Sl)×Int) N=>new (Obj.cells #[.bool false,.slice none 0 0,.slice none 0 0,.slice none 0 0] 143) N fun O P=>held [fun Q=>World.cell? Q J=some (.int .u32 L),fun R=>World.cell? R ⟨g,3,none⟩=some (.slice I.a I.len I.cap),fun S=>cellsAt S ⟨b,0,none⟩ 0 (HL.mk qaf H)] P<|st ⟨O,0,none⟩ (HL.mk qaa M.fst) P fun T=>cond (!M.snd==0) (st ⟨c,0,none⟩ ([.bool false,.slice none 0 0,.slice none 0 0,.slice none 0 0]) T fun U=>ldA (qaa) ⟨c,0,none⟩ U fun (V:Bool×Sl×Sl×Sl)=>K ((V,M.snd)) U) (ldA (qa2) ⟨b,0,none⟩ T fun (W:Int×Int×Int×Int)=>ldA (qaa) ⟨O,0,none⟩ T fun (X:Bool×Sl×Sl×Sl)=>call Tryz.prog 142 ([.agg (List.toArray (HL.mk qa2 W)),.agg (List.toArray (HL.mk qaa X))]) ([.one .bool]) T fun (Y:Bool) Z=>cond (!Y) (ld .slice ⟨g,3,none⟩ (World.drew Z) fun aa=>ldA (qaf) ⟨b,0,none⟩ (World.drew Z) fun (ab:Int×Int×Int×Int×Option Addr×Int)=>ld .slice ⟨g,3,none⟩ (World.drew Z) fun ac=>idx ac F 1 fun ad=>ld (.int .u32) ad (World.drew Z) fun (ae:Int)=>ldA (qaa) ⟨O,0,none⟩ (World.drew Z) fun (af:Bool×Sl×Sl×Sl)=>call Tryz.prog 106 ([.agg (List.toArray (HL.mk qaf ab)),.int .u32 ae,.agg (List.toArray (HL.mk qaa af))]) ([.one (.int .u32),.one (.int .i64)]) (World.drew Z) fun (ag:Int×Int) ah=>held [fun ai=>World.cell? ai ⟨g,3,none⟩=some (.slice aa.a aa.len aa.cap)] ah<|idx aa F 1 fun aj=>st aj ([.int .u32 ag.fst]) ah fun ak=>ldA (qaa) ⟨g,0,none⟩ ak fun (al:Bool×Sl×Sl×Sl)=>st ⟨c,0,none⟩ (HL.mk qaa al) ak fun am=>ldA (qaa) ⟨c,0,none⟩ am fun (an:Bool×Sl×Sl×Sl)=>K ((an,ag.snd)) am) (cond (decide (F>0)) (ldA (qaf) ⟨b,0,none⟩ Z fun (ao:Int×Int×Int×Int×Option Addr×Int)=>ldA (qaa) ⟨g,0,none⟩ Z fun (ap:Bool×Sl×Sl×Sl)=>ldA (qaa) ⟨O,0,none⟩ Z fun (aq:Bool×Sl×Sl×Sl)=>call Tryz.prog 143 ([.agg (List.toArray (HL.mk qaf ao)),.agg (List.toArray (HL.mk qaa ap)),.int .i64 (IntKind.wrap .i64 (F-1)),.int .i64 F,.agg (List.toArray (HL.mk qaa aq))]) ([.agg qaa,.one (.int .i64)]) Z fun (ar:(Bool×Sl×Sl×Sl)×Int) au=>st ⟨c,0,none⟩ (HL.mk qaa ar.fst) au fun av=>ldA (qaa) ⟨c,0,none⟩ av fun (aw:Bool×Sl×Sl×Sl)=>K ((aw,ar.snd)) av) (ldA (qaf) ⟨b,0,none⟩ Z fun (ax:Int×Int×Int×Int×Option Addr×Int)=>ldA (qaa) ⟨g,0,none⟩ Z fun (ay:Bool×Sl×Sl×Sl)=>ldA (qaa) ⟨O,0,none⟩ Z fun (az:Bool×Sl×Sl×Sl)=>call Tryz.prog 143 ([.agg (List.toArray (HL.mk qaf ax)),.agg (List.toArray (HL.mk qaa ay)),.int .i64 (IntKind.wrap .i64 (F+1)),.int .i64 F,.agg (List.toArray (HL.mk qaa az))]) ([.agg qaa,.one (.int .i64)]) Z fun (aA:(Bool×Sl×Sl×Sl)×Int) aB=>st ⟨c,0,none⟩ (HL.mk qaa aA.fst) aB fun aC=>ldA (qaa) ⟨c,0,none⟩ aC fun (aD:Bool×Sl×Sl×Sl)=>K ((aD,aA.snd)) aC))))/\(ldA (qaf) ⟨b,0,none⟩ (World.drew G) fun (aE:Int×Int×Int×Int×Option Addr×Int)=>ld .slice ⟨g,3,none⟩ (World.drew G) fun aF=>idx aF F 1 fun aG=>ld (.int .u32) aG (World.drew G) fun (aH:Int)=>new (Obj.cells #[.bool false,.slice none 0 0,.slice none 0 0,.slice none 0 0] 143) (World.drew G) fun aI aJ=>held [fun aL=>World.cell? aL aG=some (.int .u32 aH),fun aM=>World.cell? aM ⟨g,3,none⟩=some (.slice aF.a aF.len aF.cap),fun aN=>cellsAt aN ⟨b,0,none⟩ 0 (HL.mk qaf aE)] aJ<|call Tryz.prog 109 ([.agg (List.toArray (HL.mk qaf aE)),.int .u32 aH,.slice key.a key.len key.cap]) ([.agg qaa,.one (.int .i64)]) aJ fun (aO:(Bool×Sl×Sl×Sl)×Int) aP=>st ⟨aI,0,none⟩ (HL.mk qaa aO.fst) aP fun aQ=>cond (!aO.snd==0) (st ⟨c,0,none⟩ ([.bool false,.slice none 0 0,.slice none 0 0,.slice none 0 0]) aQ fun aR=>ldA (qaa) ⟨c,0,none⟩ aR fun (aS:Bool×Sl×Sl×Sl)=>K ((aS,aO.snd)) aR) (ldA (qa2) ⟨b,0,none⟩ aQ fun (aT:Int×Int×Int×Int)=>ldA (qaa) ⟨aI,0,none⟩ aQ fun (aU:Bool×Sl×Sl×Sl)=>call Tryz.prog 142 ([.agg (List.toArray (HL.mk qa2 aT)),.agg (List.toArray (HL.mk qaa aU))]) ([.one .bool]) aQ fun (aV:Bool) aW=>cond (!aV) (ld .slice ⟨g,3,none⟩ (World.drew aW) fun aX=>ldA (qaf) ⟨b,0,none⟩ (World.drew aW) fun (aY:Int×Int×Int×Int×Option Addr×Int)=>ld .slice ⟨g,3,none⟩ (World.drew aW) fun aZ=>idx aZ F 1 fun ba=>ld (.int .u32) ba (World.drew aW) fun (bb:Int)=>ldA (qaa) ⟨aI,0,none⟩ (World.drew aW) fun (bc:Bool×Sl×Sl×Sl)=>call Tryz.prog 106 ([.agg (List.toArray (HL.mk qaf aY)),.int .u32 bb,.agg (List.toArray (HL.mk qaa bc))]) ([.one (.int .u32),.one (.int .i64)]) (World.drew aW) fun (bd:Int×Int) be=>held [fun bf=>World.cell? bf ⟨g,3,none⟩=some (.slice aX.a aX.len aX.cap)] be<|idx aX F 1 fun bg=>st bg ([.int .u32 bd.fst]) be fun bh=>ldA (qaa) ⟨g,0,none⟩ bh fun (bi:Bool×Sl×Sl×Sl)=>st ⟨c,0,none⟩ (HL.mk qaa bi) bh fun bj=>ldA (qaa) ⟨c,0,none⟩ bj fun (bk:Bool×Sl×Sl×Sl)=>K ((bk,bd.snd)) bj) (cond (decide (F>0)) (ldA (qaf) ⟨b,0,none⟩ aW fun (bl:Int×Int×Int×Int×Option Addr×Int)=>ldA (qaa) ⟨g,0,none⟩ aW fun (bm:Bool×Sl×Sl×Sl)=>ldA (qaa) ⟨aI,0,none⟩ aW fun (bn:Bool×Sl×Sl×Sl)=>call Tryz.prog 143 ([.agg (List.toArray (HL.mk qaf bl)),.agg (List.toArray (HL.mk qaa bm)),.int .i64 (IntKind.wrap .i64 (F-1)),.int .i64 F,.agg (List.toArray (HL.mk qaa bn))]) ([.agg qaa,.one (.int .i64)]) aW fun (bo:(Bool×Sl×Sl×Sl)×Int) bp=>st ⟨c,0,none⟩ (HL.mk qaa bo.fst) bp fun bq=>ldA (qaa) ⟨c,0,none⟩ bq fun (br:Bool×Sl×Sl×Sl)=>K ((br,bo.snd)) bq) (ldA (qaf) ⟨b,0,none⟩ aW fun (bs:Int×Int×Int×Int×Option Addr×Int)=>ldA (qaa) ⟨g,0,none⟩ aW fun (bt:Bool×Sl×Sl×Sl)=>ldA (qaa) ⟨aI,0,none⟩ aW fun (bu:Bool×Sl×Sl×Sl)=>call Tryz.prog 143 ([.agg (List.toArray (HL.mk qaf bs)),.agg (List.toArray (HL.mk qaa bt)),.int .i64 (IntKind.wrap .i64 (F+1)),.int .i64 F,.agg (List.toArray (HL.mk qaa bu))]) ([.agg qaa,.one (.int .i64)]) aW fun (bv:(Bool×Sl×Sl×Sl)×Int) bw=>st ⟨c,0,none⟩ (HL.mk qaa bv.fst) bw fun bx=>ldA (qaa) ⟨c,0,none⟩ bx fun (bz:Bool×Sl×Sl×Sl)=>K ((bz,bv.snd)) bx))))))
def qlf:List Ann:=[.n,.n,.n,.n,.n,.n,.n,.n,.n,.n,.n,.n,.o [[0,1,2,3,4,6,7,8,9,10,5,12,11,13,14,15]],.n,.n,.n,.o [[0,1,2,3,4,5,6,7,8,9,10,11,12,13],[0,1,2,3,4,5,6,11,7,8,9,10,12,13]],.n,.n,.n,.n,.n,.n,.o [[0,1,2,3,4,5,6,7,8,9,10,11,12,13,14,15,16]],.n,.n,.n,.n,.n]
theorem qi6 {w_0 w_1 w_2 w_3 w_4 w_5 at_ key w K} (hF:qeM w_0 w_1 w_2 w_3 w_4 w_5 at_ key K w):call Tryz.prog 109 [.agg #[.int .i64 w_0,.int .i64 w_1,.int .i64 w_2,.int .i64 w_3,.pointer w_4,.int .i64 w_5],.int .u32 at_,.slice key.a key.len key.cap] [.agg [.bool,.slice,.slice,.slice],.one (.int .i64)] w K:=qad (an:=qlf) Tryz.func109 hF
def qdl (w_0:Int) (w_1:Int) (w_2:Int) (w_3:Int) (w_4:Option Addr) (w_5:Int) (at_:Int) (n0:Bool) (n1:Sl) (n2:Sl) (n3:Sl) (fresh:Bool) (K:((Int×Bool×Sl×Int)×Int)->World->Prop) (w:World):Prop:=new (Obj.cells #[.int .i64 w_0,.int .i64 w_1,.int .i64 w_2,.int .i64 w_3,.pointer w_4,.int .i64 w_5] 114) w fun b w_2=>new (Obj.cells #[.bool n0,.slice n1.a n1.len n1.cap,.slice n2.a n2.len n2.cap,.slice n3.a n3.len n3.cap] 143) w_2 fun c w_4=>new (Obj.cells #[.int .u32 0,.bool false,.slice none 0 0,.int .u32 0] 192) w_4 fun d e=>new (Obj.cells #[.int .u32 0,.bool false,.slice none 0 0,.int .u32 0] 192) e fun f g=>st ⟨f,0,none⟩ ([.int .u32 0,.bool fresh,.slice none 0 0,.int .u32 0]) g fun h=>ldA (qa2) ⟨b,0,none⟩ h fun (i:Int×Int×Int×Int)=>ldA (qaa) ⟨c,0,none⟩ h fun (j:Bool×Sl×Sl×Sl)=>call Tryz.prog 174 ([.agg (List.toArray (HL.mk qa2 i)),.agg (List.toArray (HL.mk qaa j))]) ([.one (.int .i64),.one (.int .i64)]) h fun (k:Int×Int) l=>join (PUnit) (fun m=>cond (decide (k.fst>k.snd)) (ldA (qaa) ⟨c,0,none⟩ l fun (n:Bool×Sl×Sl×Sl)=>call Tryz.prog 175 ([.agg (List.toArray (HL.mk qaa n)),.int .i64 (IntKind.wrap .i64 (Int.tdiv k.fst 2))]) ([.agg qaa,.agg qaa,.one .slice]) l fun (o:(Bool×Sl×Sl×Sl)×(Bool×Sl×Sl×Sl)×Sl) p=>new (Obj.cells #[.bool false,.slice none 0 0,.slice none 0 0,.slice none 0 0] 143) p fun q r=>new (Obj.cells #[.bool false,.slice none 0 0,.slice none 0 0,.slice none 0 0] 143) r fun s t=>st ⟨q,0,none⟩ (HL.mk qaa o.fst) t fun u=>st ⟨s,0,none⟩ (HL.mk qaa o.snd.fst) u fun v=>ldA (qaf) ⟨b,0,none⟩ v fun (x:Int×Int×Int×Int×Option Addr×Int)=>ldA (qaa) ⟨s,0,none⟩ v fun (y:Bool×Sl×Sl×Sl)=>call Tryz.prog 106 ([.agg (List.toArray (HL.mk qaf x)),.int .u32 0,.agg (List.toArray (HL.mk qaa y))]) ([.one (.int .u32),.one (.int .i64)]) v fun (z:Int×Int) A=>cond (!z.snd==0) (st ⟨d,0,none⟩ ([.int .u32 0,.bool false,.slice none 0 0,.int .u32 0]) A fun B=>ldA (qaF) ⟨d,0,none⟩ B fun (C:Int×Bool×Sl×Int)=>K ((C,z.snd)) B) (ldA (qaa) ⟨q,0,none⟩ A fun (D:Bool×Sl×Sl×Sl)=>st ⟨c,0,none⟩ (HL.mk qaa D) A fun E=>st ⟨f,3,none⟩ ([.int .u32 z.fst]) E fun F=>st ⟨f,2,none⟩ ([.slice o.snd.snd.a o.snd.snd.len o.snd.snd.cap]) F fun G=>m () G)) (m () l)) fun (H:PUnit) I=>ldA (qaf) ⟨b,0,none⟩ I fun (J:Int×Int×Int×Int×Option Addr×Int)=>ldA (qaa) ⟨c,0,none⟩ I fun (L:Bool×Sl×Sl×Sl)=>call Tryz.prog 106 ([.agg (List.toArray (HL.mk qaf J)),.int .u32 at_,.agg (List.toArray (HL.mk qaa L))]) ([.one (.int .u32),.one (.int .i64)]) I fun (M:Int×Int) N=>st ⟨f,0,none⟩ ([.int .u32 M.fst]) N fun O=>ldA (qaF) ⟨f,0,none⟩ O fun (P:Int×Bool×Sl×Int)=>st ⟨d,0,none⟩ (HL.mk qaF P) O fun Q=>ldA (qaF) ⟨d,0,none⟩ Q fun (R:Int×Bool×Sl×Int)=>K ((R,M.snd)) Q
def qjf:List Ann:=[.n,.n,.n,.j [],.n,.n,.n,.n,.n,.n,.n,.n,.n]
theorem qgj {w_0 w_1 w_2 w_3 w_4 w_5 at_ n0 n1 n2 n3 fresh w K} (hF:qdl w_0 w_1 w_2 w_3 w_4 w_5 at_ n0 n1 n2 n3 fresh K w):call Tryz.prog 139 [.agg #[.int .i64 w_0,.int .i64 w_1,.int .i64 w_2,.int .i64 w_3,.pointer w_4,.int .i64 w_5],.int .u32 at_,.agg #[.bool n0,.slice n1.a n1.len n1.cap,.slice n2.a n2.len n2.cap,.slice n3.a n3.len n3.cap],.bool fresh] [.agg [.int .u32,.bool,.slice,.int .u32],.one (.int .i64)] w K:=qad (an:=qjf) Tryz.func139 hF
def qgv (n0:Bool) (n1:Sl) (n2:Sl) (n3:Sl) (mid:Int) (K:((Bool×Sl×Sl×Sl)×(Bool×Sl×Sl×Sl)×Sl)->World->Prop) (w:World):Prop:=new (Obj.cells #[.bool n0,.slice n1.a n1.len n1.cap,.slice n2.a n2.len n2.cap,.slice n3.a n3.len n3.cap] 143) w fun b c=>new (Obj.cells #[.bool false,.slice none 0 0,.slice none 0 0,.slice none 0 0] 143) c fun d e=>new (Obj.cells #[.bool false,.slice none 0 0,.slice none 0 0,.slice none 0 0] 143) e fun f g=>(ldA (qaa) ⟨b,0,none⟩ (World.drew g) fun (h:Bool×Sl×Sl×Sl)=>ldA (qaa) ⟨b,0,none⟩ (World.drew g) fun (i:Bool×Sl×Sl×Sl)=>new (Obj.cells #[.bool false,.slice none 0 0,.slice none 0 0,.slice none 0 0] 143) (World.drew g) fun j k=>held [fun l=>cellsAt l ⟨b,0,none⟩ 0 (HL.mk qaa i),fun m=>cellsAt m ⟨b,0,none⟩ 0 (HL.mk qaa h)] k<|new (Obj.cells #[.bool false,.slice none 0 0,.slice none 0 0,.slice none 0 0] 143) k fun n o=>held [fun p=>cellsAt p ⟨b,0,none⟩ 0 (HL.mk qaa i),fun q=>cellsAt q ⟨b,0,none⟩ 0 (HL.mk qaa h)] o<|st ⟨j,0,none⟩ (HL.mk qaa h) o fun r=>held [fun s=>cellsAt s ⟨b,0,none⟩ 0 (HL.mk qaa i)] r<|st ⟨n,0,none⟩ (HL.mk qaa i) r fun t=>ld .bool ⟨b,0,none⟩ t fun (u:Bool)=>cond u (ld .slice ⟨b,1,none⟩ (World.drew t) fun v=>slc v none (some mid) (some mid) 1 fun x=>ld .slice ⟨b,2,none⟩ (World.drew t) fun y=>slc y none (some mid) (some mid) 1 fun z=>st ⟨j,1,none⟩ ([.slice x.a x.len x.cap]) (World.drew t) fun A=>held [fun B=>World.cell? B ⟨b,2,none⟩=some (.slice y.a y.len y.cap)] A<|st ⟨j,2,none⟩ ([.slice z.a z.len z.cap]) A fun C=>ld .slice ⟨b,1,none⟩ (World.drew C) fun D=>slc D (some mid) none none 1 fun E=>ld .slice ⟨b,2,none⟩ (World.drew C) fun F=>slc F (some mid) none none 1 fun G=>st ⟨n,1,none⟩ ([.slice E.a E.len E.cap]) (World.drew C) fun H=>held [fun I=>World.cell? I ⟨b,2,none⟩=some (.slice F.a F.len F.cap)] H<|st ⟨n,2,none⟩ ([.slice G.a G.len G.cap]) H fun J=>ldA (qaa) ⟨j,0,none⟩ (World.drew J) fun (L:Bool×Sl×Sl×Sl)=>ldA (qaa) ⟨n,0,none⟩ (World.drew J) fun (M:Bool×Sl×Sl×Sl)=>ld .slice ⟨b,1,none⟩ (World.drew J) fun N=>idx N mid 1 fun O=>ld .slice O (World.drew J) fun P=>st ⟨d,0,none⟩ (HL.mk qaa L) (World.drew J) fun Q=>held [fun R=>World.cell? R O=some (.slice P.a P.len P.cap),fun S=>World.cell? S ⟨b,1,none⟩=some (.slice N.a N.len N.cap),fun T=>cellsAt T ⟨n,0,none⟩ 0 (HL.mk qaa M)] Q<|st ⟨f,0,none⟩ (HL.mk qaa M) Q fun U=>held [fun V=>World.cell? V O=some (.slice P.a P.len P.cap),fun W=>World.cell? W ⟨b,1,none⟩=some (.slice N.a N.len N.cap)] U<|ldA (qaa) ⟨d,0,none⟩ U fun (X:Bool×Sl×Sl×Sl)=>ldA (qaa) ⟨f,0,none⟩ U fun (Y:Bool×Sl×Sl×Sl)=>K ((X,Y,P)) U) (ld .slice ⟨b,3,none⟩ (World.drew t) fun Z=>slc Z none (some mid) (some mid) 1 fun aa=>ld .slice ⟨b,1,none⟩ (World.drew t) fun ab=>slc ab none (some (IntKind.wrap .i64 (mid-1))) (some (IntKind.wrap .i64 (mid-1))) 1 fun ac=>st ⟨j,3,none⟩ ([.slice aa.a aa.len aa.cap]) (World.drew t) fun ad=>held [fun ae=>World.cell? ae ⟨b,1,none⟩=some (.slice ab.a ab.len ab.cap)] ad<|st ⟨j,1,none⟩ ([.slice ac.a ac.len ac.cap]) ad fun af=>ld .slice ⟨b,3,none⟩ (World.drew af) fun ag=>slc ag (some mid) none none 1 fun ah=>ld .slice ⟨b,1,none⟩ (World.drew af) fun ai=>slc ai (some mid) none none 1 fun aj=>st ⟨n,3,none⟩ ([.slice ah.a ah.len ah.cap]) (World.drew af) fun ak=>held [fun al=>World.cell? al ⟨b,1,none⟩=some (.slice ai.a ai.len ai.cap)] ak<|st ⟨n,1,none⟩ ([.slice aj.a aj.len aj.cap]) ak fun am=>ldA (qaa) ⟨j,0,none⟩ (World.drew am) fun (an:Bool×Sl×Sl×Sl)=>ldA (qaa) ⟨n,0,none⟩ (World.drew am) fun (ao:Bool×Sl×Sl×Sl)=>ld .slice ⟨b,1,none⟩ (World.drew am) fun ap=>idx ap (IntKind.wrap .i64 (mid-1)) 1 fun aq=>ld .slice aq (World.drew am) fun ar=>st ⟨d,0,none⟩ (HL.mk qaa an) (World.drew am) fun au=>held [fun av=>World.cell? av aq=some (.slice ar.a ar.len ar.cap),fun aw=>World.cell? aw ⟨b,1,none⟩=some (.slice ap.a ap.len ap.cap),fun ax=>cellsAt ax ⟨n,0,none⟩ 0 (HL.mk qaa ao)] au<|st ⟨f,0,none⟩ (HL.mk qaa ao) au fun ay=>held [fun az=>World.cell? az aq=some (.slice ar.a ar.len ar.cap),fun aA=>World.cell? aA ⟨b,1,none⟩=some (.slice ap.a ap.len ap.cap)] ay<|ldA (qaa) ⟨d,0,none⟩ ay fun (aB:Bool×Sl×Sl×Sl)=>ldA (qaa) ⟨f,0,none⟩ ay fun (aC:Bool×Sl×Sl×Sl)=>K ((aB,aC,ar)) ay))/\(ldA (qaa) ⟨b,0,none⟩ (World.drew g) fun (aD:Bool×Sl×Sl×Sl)=>ldA (qaa) ⟨b,0,none⟩ (World.drew g) fun (aE:Bool×Sl×Sl×Sl)=>new (Obj.cells #[.bool false,.slice none 0 0,.slice none 0 0,.slice none 0 0] 143) (World.drew g) fun aF aG=>held [fun aH=>cellsAt aH ⟨b,0,none⟩ 0 (HL.mk qaa aE),fun aI=>cellsAt aI ⟨b,0,none⟩ 0 (HL.mk qaa aD)] aG<|new (Obj.cells #[.bool false,.slice none 0 0,.slice none 0 0,.slice none 0 0] 143) aG fun aJ aL=>held [fun aM=>cellsAt aM ⟨b,0,none⟩ 0 (HL.mk qaa aE),fun aN=>cellsAt aN ⟨b,0,none⟩ 0 (HL.mk qaa aD)] aL<|st ⟨aJ,0,none⟩ (HL.mk qaa aD) aL fun aO=>held [fun aP=>cellsAt aP ⟨b,0,none⟩ 0 (HL.mk qaa aE)] aO<|st ⟨aF,0,none⟩ (HL.mk qaa aE) aO fun aQ=>ld .bool ⟨b,0,none⟩ aQ fun (aR:Bool)=>cond aR (ld .slice ⟨b,1,none⟩ (World.drew aQ) fun aS=>slc aS none (some mid) (some mid) 1 fun aT=>ld .slice ⟨b,2,none⟩ (World.drew aQ) fun aU=>slc aU none (some mid) (some mid) 1 fun aV=>st ⟨aJ,1,none⟩ ([.slice aT.a aT.len aT.cap]) (World.drew aQ) fun aW=>held [fun aX=>World.cell? aX ⟨b,2,none⟩=some (.slice aU.a aU.len aU.cap)] aW<|st ⟨aJ,2,none⟩ ([.slice aV.a aV.len aV.cap]) aW fun aY=>ld .slice ⟨b,1,none⟩ (World.drew aY) fun aZ=>slc aZ (some mid) none none 1 fun ba=>ld .slice ⟨b,2,none⟩ (World.drew aY) fun bb=>slc bb (some mid) none none 1 fun bc=>st ⟨aF,1,none⟩ ([.slice ba.a ba.len ba.cap]) (World.drew aY) fun bd=>held [fun be=>World.cell? be ⟨b,2,none⟩=some (.slice bb.a bb.len bb.cap)] bd<|st ⟨aF,2,none⟩ ([.slice bc.a bc.len bc.cap]) bd fun bf=>ldA (qaa) ⟨aJ,0,none⟩ (World.drew bf) fun (bg:Bool×Sl×Sl×Sl)=>ldA (qaa) ⟨aF,0,none⟩ (World.drew bf) fun (bh:Bool×Sl×Sl×Sl)=>ld .slice ⟨b,1,none⟩ (World.drew bf) fun bi=>idx bi mid 1 fun bj=>ld .slice bj (World.drew bf) fun bk=>st ⟨d,0,none⟩ (HL.mk qaa bg) (World.drew bf) fun bl=>held [fun bm=>World.cell? bm bj=some (.slice bk.a bk.len bk.cap),fun bn=>World.cell? bn ⟨b,1,none⟩=some (.slice bi.a bi.len bi.cap),fun bo=>cellsAt bo ⟨aF,0,none⟩ 0 (HL.mk qaa bh)] bl<|st ⟨f,0,none⟩ (HL.mk qaa bh) bl fun bp=>held [fun bq=>World.cell? bq bj=some (.slice bk.a bk.len bk.cap),fun br=>World.cell? br ⟨b,1,none⟩=some (.slice bi.a bi.len bi.cap)] bp<|ldA (qaa) ⟨d,0,none⟩ bp fun (bs:Bool×Sl×Sl×Sl)=>ldA (qaa) ⟨f,0,none⟩ bp fun (bt:Bool×Sl×Sl×Sl)=>K ((bs,bt,bk)) bp) (ld .slice ⟨b,3,none⟩ (World.drew aQ) fun bu=>slc bu none (some mid) (some mid) 1 fun bv=>ld .slice ⟨b,1,none⟩ (World.drew aQ) fun bw=>slc bw none (some (IntKind.wrap .i64 (mid-1))) (some (IntKind.wrap .i64 (mid-1))) 1 fun bx=>st ⟨aJ,3,none⟩ ([.slice bv.a bv.len bv.cap]) (World.drew aQ) fun bz=>held [fun bA=>World.cell? bA ⟨b,1,none⟩=some (.slice bw.a bw.len bw.cap)] bz<|st ⟨aJ,1,none⟩ ([.slice bx.a bx.len bx.cap]) bz fun bB=>ld .slice ⟨b,3,none⟩ (World.drew bB) fun bC=>slc bC (some mid) none none 1 fun bD=>ld .slice ⟨b,1,none⟩ (World.drew bB) fun bE=>slc bE (some mid) none none 1 fun bF=>st ⟨aF,3,none⟩ ([.slice bD.a bD.len bD.cap]) (World.drew bB) fun bG=>held [fun bH=>World.cell? bH ⟨b,1,none⟩=some (.slice bE.a bE.len bE.cap)] bG<|st ⟨aF,1,none⟩ ([.slice bF.a bF.len bF.cap]) bG fun bI=>ldA (qaa) ⟨aJ,0,none⟩ (World.drew bI) fun (bJ:Bool×Sl×Sl×Sl)=>ldA (qaa) ⟨aF,0,none⟩ (World.drew bI) fun (bL:Bool×Sl×Sl×Sl)=>ld .slice ⟨b,1,none⟩ (World.drew bI) fun bM=>idx bM (IntKind.wrap .i64 (mid-1)) 1 fun bN=>ld .slice bN (World.drew bI) fun bO=>st ⟨d,0,none⟩ (HL.mk qaa bJ) (World.drew bI) fun bP=>held [fun bQ=>World.cell? bQ bN=some (.slice bO.a bO.len bO.cap),fun bR=>World.cell? bR ⟨b,1,none⟩=some (.slice bM.a bM.len bM.cap),fun bS=>cellsAt bS ⟨aF,0,none⟩ 0 (HL.mk qaa bL)] bP<|st ⟨f,0,none⟩ (HL.mk qaa bL) bP fun bT=>held [fun bU=>World.cell? bU bN=some (.slice bO.a bO.len bO.cap),fun bV=>World.cell? bV ⟨b,1,none⟩=some (.slice bM.a bM.len bM.cap)] bT<|ldA (qaa) ⟨d,0,none⟩ bT fun (bW:Bool×Sl×Sl×Sl)=>ldA (qaa) ⟨f,0,none⟩ bT fun (bX:Bool×Sl×Sl×Sl)=>K ((bW,bX,bO)) bT))
def qnb:List Ann:=[.n,.n,.o [[0,1,2,3,4,5],[0,1,3,2,4,5]],.n,.n,.n,.o [[0,1,2,3,4,5,6,7,8,9,10,11,12,13]],.n,.o [[0,1,2,3,4,5,6,7,8,9,10,11]],.n,.o [[0,1,2,3,4,5,6,7,8,9]],.n,.o [[0,1,2,3,4,5,6,7,8,9,10,11,12,13,14,15]],.n,.o [[0,1,2,3,4,5,6,7,8,9,10,11]],.n,.o [[0,1,2,3,4,5,6,7,8,9,10]]]
theorem qk1 {n0 n1 n2 n3 mid w K} (hF:qgv n0 n1 n2 n3 mid K w):call Tryz.prog 175 [.agg #[.bool n0,.slice n1.a n1.len n1.cap,.slice n2.a n2.len n2.cap,.slice n3.a n3.len n3.cap],.int .i64 mid] [.agg [.bool,.slice,.slice,.slice],.agg [.bool,.slice,.slice,.slice],.one .slice] w K:=qad (an:=qnb) Tryz.func175 hF
def qdY (w_0:Int) (w_1:Int) (w_2:Int) (w_3:Int) (w_4:Option Addr) (w_5:Int) (n0:Bool) (n1:Sl) (n2:Sl) (n3:Sl) (side:Int) (c:Int) (x0:Bool) (x1:Sl) (x2:Sl) (x3:Sl) (K:((Bool×Sl×Sl×Sl)×Int)->World->Prop) (w:World):Prop:=new (Obj.cells #[.int .i64 w_0,.int .i64 w_1,.int .i64 w_2,.int .i64 w_3,.pointer w_4,.int .i64 w_5] 114) w fun b w_2=>new (Obj.cells #[.bool n0,.slice n1.a n1.len n1.cap,.slice n2.a n2.len n2.cap,.slice n3.a n3.len n3.cap] 143) w_2 fun d w_4=>new (Obj.cells #[.bool x0,.slice x1.a x1.len x1.cap,.slice x2.a x2.len x2.cap,.slice x3.a x3.len x3.cap] 143) w_4 fun e f=>new (Obj.cells #[.bool false,.slice none 0 0,.slice none 0 0,.slice none 0 0] 143) f fun g h=>(ldA (qaf) ⟨b,0,none⟩ (World.drew h) fun (i:Int×Int×Int×Int×Option Addr×Int)=>ld .slice ⟨d,3,none⟩ (World.drew h) fun j=>idx j side 1 fun k=>ld (.int .u32) k (World.drew h) fun (l:Int)=>call Tryz.prog 82 ([.agg (List.toArray (HL.mk qaf i)),.int .u32 l]) ([.agg qaa,.one (.int .i64)]) (World.drew h) fun (m:(Bool×Sl×Sl×Sl)×Int) n=>new (Obj.cells #[.bool false,.slice none 0 0,.slice none 0 0,.slice none 0 0] 143) n fun o p=>held [fun q=>World.cell? q k=some (.int .u32 l),fun r=>World.cell? r ⟨d,3,none⟩=some (.slice j.a j.len j.cap),fun s=>cellsAt s ⟨b,0,none⟩ 0 (HL.mk qaf i)] p<|st ⟨o,0,none⟩ (HL.mk qaa m.fst) p fun t=>cond (!m.snd==0) (st ⟨g,0,none⟩ ([.bool false,.slice none 0 0,.slice none 0 0,.slice none 0 0]) t fun u=>ldA (qaa) ⟨g,0,none⟩ u fun (v:Bool×Sl×Sl×Sl)=>K ((v,m.snd)) u) ((ldA (qaa) ⟨e,0,none⟩ (World.drew t) fun (x:Bool×Sl×Sl×Sl)=>ldA (qaa) ⟨o,0,none⟩ (World.drew t) fun (y:Bool×Sl×Sl×Sl)=>new (Obj.cells #[.bool false,.slice none 0 0,.slice none 0 0,.slice none 0 0] 143) (World.drew t) fun z A=>held [fun B=>cellsAt B ⟨o,0,none⟩ 0 (HL.mk qaa y),fun C=>cellsAt C ⟨e,0,none⟩ 0 (HL.mk qaa x)] A<|new (Obj.cells #[.bool false,.slice none 0 0,.slice none 0 0,.slice none 0 0] 143) A fun D E=>held [fun F=>cellsAt F ⟨o,0,none⟩ 0 (HL.mk qaa y),fun G=>cellsAt G ⟨e,0,none⟩ 0 (HL.mk qaa x)] E<|st ⟨z,0,none⟩ (HL.mk qaa x) E fun H=>held [fun I=>cellsAt I ⟨o,0,none⟩ 0 (HL.mk qaa y)] H<|st ⟨D,0,none⟩ (HL.mk qaa y) H fun J=>join (PUnit) (fun L=>cond (decide (side<c)) (ldA (qaa) ⟨o,0,none⟩ (World.drew J) fun (M:Bool×Sl×Sl×Sl)=>ldA (qaa) ⟨e,0,none⟩ (World.drew J) fun (N:Bool×Sl×Sl×Sl)=>st ⟨z,0,none⟩ (HL.mk qaa M) (World.drew J) fun O=>held [fun P=>cellsAt P ⟨e,0,none⟩ 0 (HL.mk qaa N)] O<|st ⟨D,0,none⟩ (HL.mk qaa N) O fun Q=>L () Q) (L () J)) fun (R:PUnit) S=>ldA (qa2) ⟨b,0,none⟩ S fun (T:Int×Int×Int×Int)=>ldA (qaa) ⟨o,0,none⟩ S fun (U:Bool×Sl×Sl×Sl)=>call Tryz.prog 178 ([.agg (List.toArray (HL.mk qa2 T)),.agg (List.toArray (HL.mk qaa U))]) ([.one .bool]) S fun (V:Bool) W=>cond (!V) (ldA (qaf) ⟨b,0,none⟩ W fun (X:Int×Int×Int×Int×Option Addr×Int)=>ldA (qaa) ⟨d,0,none⟩ W fun (Y:Bool×Sl×Sl×Sl)=>ldA (qaa) ⟨z,0,none⟩ W fun (Z:Bool×Sl×Sl×Sl)=>ldA (qaa) ⟨D,0,none⟩ W fun (aa:Bool×Sl×Sl×Sl)=>call Tryz.prog 179 ([.agg (List.toArray (HL.mk qaf X)),.agg (List.toArray (HL.mk qaa Y)),.int .i64 (if c<side then c else side),.agg (List.toArray (HL.mk qaa Z)),.agg (List.toArray (HL.mk qaa aa))]) ([.agg qaa,.one (.int .i64)]) W fun (ab:(Bool×Sl×Sl×Sl)×Int) ac=>st ⟨g,0,none⟩ (HL.mk qaa ab.fst) ac fun ad=>ldA (qaa) ⟨g,0,none⟩ ad fun (ae:Bool×Sl×Sl×Sl)=>K ((ae,ab.snd)) ad) (join (PUnit) (fun af=>cond (decide (side<c)) (ld .slice ⟨d,1,none⟩ (World.drew W) fun ag=>ldA (qaa) ⟨z,0,none⟩ (World.drew W) fun (ah:Bool×Sl×Sl×Sl)=>ldA (qaa) ⟨D,0,none⟩ (World.drew W) fun (ai:Bool×Sl×Sl×Sl)=>ld .slice ⟨d,1,none⟩ (World.drew W) fun aj=>idx aj (if c<side then c else side) 1 fun ak=>ld .slice ak (World.drew W) fun al=>call Tryz.prog 180 ([.agg (List.toArray (HL.mk qaa ah)),.agg (List.toArray (HL.mk qaa ai)),.slice al.a al.len al.cap]) ([.agg qaa,.agg qaa,.one .slice]) (World.drew W) fun (am:(Bool×Sl×Sl×Sl)×(Bool×Sl×Sl×Sl)×Sl) an=>held [fun ao=>World.cell? ao ⟨d,1,none⟩=some (.slice ag.a ag.len ag.cap)] an<|st ⟨z,0,none⟩ (HL.mk qaa am.fst) an fun ap=>held [fun aq=>World.cell? aq ⟨d,1,none⟩=some (.slice ag.a ag.len ag.cap)] ap<|st ⟨D,0,none⟩ (HL.mk qaa am.snd.fst) ap fun ar=>held [fun au=>World.cell? au ⟨d,1,none⟩=some (.slice ag.a ag.len ag.cap)] ar<|idx ag (if c<side then c else side) 1 fun av=>st av ([.slice am.snd.snd.a am.snd.snd.len am.snd.snd.cap]) ar fun aw=>af () aw) (ld .slice ⟨d,1,none⟩ (World.drew W) fun ax=>ldA (qaa) ⟨z,0,none⟩ (World.drew W) fun (ay:Bool×Sl×Sl×Sl)=>ldA (qaa) ⟨D,0,none⟩ (World.drew W) fun (az:Bool×Sl×Sl×Sl)=>ld .slice ⟨d,1,none⟩ (World.drew W) fun aA=>idx aA (if c<side then c else side) 1 fun aB=>ld .slice aB (World.drew W) fun aC=>call Tryz.prog 181 ([.agg (List.toArray (HL.mk qaa ay)),.agg (List.toArray (HL.mk qaa az)),.slice aC.a aC.len aC.cap]) ([.agg qaa,.agg qaa,.one .slice]) (World.drew W) fun (aD:(Bool×Sl×Sl×Sl)×(Bool×Sl×Sl×Sl)×Sl) aE=>held [fun aF=>World.cell? aF ⟨d,1,none⟩=some (.slice ax.a ax.len ax.cap)] aE<|st ⟨z,0,none⟩ (HL.mk qaa aD.fst) aE fun aG=>held [fun aH=>World.cell? aH ⟨d,1,none⟩=some (.slice ax.a ax.len ax.cap)] aG<|st ⟨D,0,none⟩ (HL.mk qaa aD.snd.fst) aG fun aI=>held [fun aJ=>World.cell? aJ ⟨d,1,none⟩=some (.slice ax.a ax.len ax.cap)] aI<|idx ax (if c<side then c else side) 1 fun aL=>st aL ([.slice aD.snd.snd.a aD.snd.snd.len aD.snd.snd.cap]) aI fun aM=>af () aM)) fun (aN:PUnit) aO=>ld .slice ⟨d,3,none⟩ (World.drew aO) fun aP=>ldA (qaf) ⟨b,0,none⟩ (World.drew aO) fun (aQ:Int×Int×Int×Int×Option Addr×Int)=>ld .slice ⟨d,3,none⟩ (World.drew aO) fun aR=>idx aR (if c<side then c else side) 1 fun aS=>ld (.int .u32) aS (World.drew aO) fun (aT:Int)=>ldA (qaa) ⟨z,0,none⟩ (World.drew aO) fun (aU:Bool×Sl×Sl×Sl)=>call Tryz.prog 106 ([.agg (List.toArray (HL.mk qaf aQ)),.int .u32 aT,.agg (List.toArray (HL.mk qaa aU))]) ([.one (.int .u32),.one (.int .i64)]) (World.drew aO) fun (aV:Int×Int) aW=>held [fun aX=>World.cell? aX ⟨d,3,none⟩=some (.slice aP.a aP.len aP.cap)] aW<|idx aP (if c<side then c else side) 1 fun aY=>st aY ([.int .u32 aV.fst]) aW fun aZ=>cond (!aV.snd==0) (st ⟨g,0,none⟩ ([.bool false,.slice none 0 0,.slice none 0 0,.slice none 0 0]) aZ fun ba=>ldA (qaa) ⟨g,0,none⟩ ba fun (bb:Bool×Sl×Sl×Sl)=>K ((bb,aV.snd)) ba) (ld .slice ⟨d,3,none⟩ (World.drew aZ) fun bc=>ldA (qaf) ⟨b,0,none⟩ (World.drew aZ) fun (bd:Int×Int×Int×Int×Option Addr×Int)=>ld .slice ⟨d,3,none⟩ (World.drew aZ) fun be=>idx be (IntKind.wrap .i64 ((if c<side then c else side)+1)) 1 fun bf=>ld (.int .u32) bf (World.drew aZ) fun (bg:Int)=>ldA (qaa) ⟨D,0,none⟩ (World.drew aZ) fun (bh:Bool×Sl×Sl×Sl)=>call Tryz.prog 106 ([.agg (List.toArray (HL.mk qaf bd)),.int .u32 bg,.agg (List.toArray (HL.mk qaa bh))]) ([.one (.int .u32),.one (.int .i64)]) (World.drew aZ) fun (bi:Int×Int) bj=>held [fun bk=>World.cell? bk ⟨d,3,none⟩=some (.slice bc.a bc.len bc.cap)] bj<|idx bc (IntKind.wrap .i64 ((if c<side then c else side)+1)) 1 fun bl=>st bl ([.int .u32 bi.fst]) bj fun bm=>ldA (qaa) ⟨d,0,none⟩ bm fun (bn:Bool×Sl×Sl×Sl)=>st ⟨g,0,none⟩ (HL.mk qaa bn) bm fun bo=>ldA (qaa) ⟨g,0,none⟩ bo fun (bp:Bool×Sl×Sl×Sl)=>K ((bp,bi.snd)) bo)))/\(ldA (qaa) ⟨e,0,none⟩ (World.drew t) fun (bq:Bool×Sl×Sl×Sl)=>ldA (qaa) ⟨o,0,none⟩ (World.drew t) fun (br:Bool×Sl×Sl×Sl)=>new (Obj.cells #[.bool false,.slice none 0 0,.slice none 0 0,.slice none 0 0] 143) (World.drew t) fun bs bt=>held [fun bu=>cellsAt bu ⟨o,0,none⟩ 0 (HL.mk qaa br),fun bv=>cellsAt bv ⟨e,0,none⟩ 0 (HL.mk qaa bq)] bt<|new (Obj.cells #[.bool false,.slice none 0 0,.slice none 0 0,.slice none 0 0] 143) bt fun bw bx=>held [fun bz=>cellsAt bz ⟨o,0,none⟩ 0 (HL.mk qaa br),fun bA=>cellsAt bA ⟨e,0,none⟩ 0 (HL.mk qaa bq)] bx<|st ⟨bw,0,none⟩ (HL.mk qaa bq) bx fun bB=>held [fun bC=>cellsAt bC ⟨o,0,none⟩ 0 (HL.mk qaa br)] bB<|st ⟨bs,0,none⟩ (HL.mk qaa br) bB fun bD=>join (PUnit) (fun bE=>cond (decide (side<c)) (ldA (qaa) ⟨o,0,none⟩ (World.drew bD) fun (bF:Bool×Sl×Sl×Sl)=>ldA (qaa) ⟨e,0,none⟩ (World.drew bD) fun (bG:Bool×Sl×Sl×Sl)=>st ⟨bw,0,none⟩ (HL.mk qaa bF) (World.drew bD) fun bH=>held [fun bI=>cellsAt bI ⟨e,0,none⟩ 0 (HL.mk qaa bG)] bH<|st ⟨bs,0,none⟩ (HL.mk qaa bG) bH fun bJ=>bE () bJ) (bE () bD)) fun (bL:PUnit) bM=>ldA (qa2) ⟨b,0,none⟩ bM fun (bN:Int×Int×Int×Int)=>ldA (qaa) ⟨o,0,none⟩ bM fun (bO:Bool×Sl×Sl×Sl)=>call Tryz.prog 178 ([.agg (List.toArray (HL.mk qa2 bN)),.agg (List.toArray (HL.mk qaa bO))]) ([.one .bool]) bM fun (bP:Bool) bQ=>cond (!bP) (ldA (qaf) ⟨b,0,none⟩ bQ fun (bR:Int×Int×Int×Int×Option Addr×Int)=>ldA (qaa) ⟨d,0,none⟩ bQ fun (bS:Bool×Sl×Sl×Sl)=>ldA (qaa) ⟨bw,0,none⟩ bQ fun (bT:Bool×Sl×Sl×Sl)=>ldA (qaa) ⟨bs,0,none⟩ bQ fun (bU:Bool×Sl×Sl×Sl)=>call Tryz.prog 179 ([.agg (List.toArray (HL.mk qaf bR)),.agg (List.toArray (HL.mk qaa bS)),.int .i64 (if c<side then c else side),.agg (List.toArray (HL.mk qaa bT)),.agg (List.toArray (HL.mk qaa bU))]) ([.agg qaa,.one (.int .i64)]) bQ fun (bV:(Bool×Sl×Sl×Sl)×Int) bW=>st ⟨g,0,none⟩ (HL.mk qaa bV.fst) bW fun bX=>ldA (qaa) ⟨g,0,none⟩ bX fun (bY:Bool×Sl×Sl×Sl)=>K ((bY,bV.snd)) bX) (join (PUnit) (fun bZ=>cond (decide (side<c)) (ld .slice ⟨d,1,none⟩ (World.drew bQ) fun ca=>ldA (qaa) ⟨bw,0,none⟩ (World.drew bQ) fun (cb:Bool×Sl×Sl×Sl)=>ldA (qaa) ⟨bs,0,none⟩ (World.drew bQ) fun (cc:Bool×Sl×Sl×Sl)=>ld .slice ⟨d,1,none⟩ (World.drew bQ) fun cd=>idx cd (if c<side then c else side) 1 fun ce=>ld .slice ce (World.drew bQ) fun cf=>call Tryz.prog 180 ([.agg (List.toArray (HL.mk qaa cb)),.agg (List.toArray (HL.mk qaa cc)),.slice cf.a cf.len cf.cap]) ([.agg qaa,.agg qaa,.one .slice]) (World.drew bQ) fun (cg:(Bool×Sl×Sl×Sl)×(Bool×Sl×Sl×Sl)×Sl) ch=>held [fun ci=>World.cell? ci ⟨d,1,none⟩=some (.slice ca.a ca.len ca.cap)] ch<|st ⟨bw,0,none⟩ (HL.mk qaa cg.fst) ch fun cj=>held [fun ck=>World.cell? ck ⟨d,1,none⟩=some (.slice ca.a ca.len ca.cap)] cj<|st ⟨bs,0,none⟩ (HL.mk qaa cg.snd.fst) cj fun cl=>held [fun cm=>World.cell? cm ⟨d,1,none⟩=some (.slice ca.a ca.len ca.cap)] cl<|idx ca (if c<side then c else side) 1 fun cn=>st cn ([.slice cg.snd.snd.a cg.snd.snd.len cg.snd.snd.cap]) cl fun co=>bZ () co) (ld .slice ⟨d,1,none⟩ (World.drew bQ) fun cp=>ldA (qaa) ⟨bw,0,none⟩ (World.drew bQ) fun (cq:Bool×Sl×Sl×Sl)=>ldA (qaa) ⟨bs,0,none⟩ (World.drew bQ) fun (cr:Bool×Sl×Sl×Sl)=>ld .slice ⟨d,1,none⟩ (World.drew bQ) fun cs=>idx cs (if c<side then c else side) 1 fun ct=>ld .slice ct (World.drew bQ) fun cu=>call Tryz.prog 181 ([.agg (List.toArray (HL.mk qaa cq)),.agg (List.toArray (HL.mk qaa cr)),.slice cu.a cu.len cu.cap]) ([.agg qaa,.agg qaa,.one .slice]) (World.drew bQ) fun (cv:(Bool×Sl×Sl×Sl)×(Bool×Sl×Sl×Sl)×Sl) cw=>held [fun cx=>World.cell? cx ⟨d,1,none⟩=some (.slice cp.a cp.len cp.cap)] cw<|st ⟨bw,0,none⟩ (HL.mk qaa cv.fst) cw fun cy=>held [fun cz=>World.cell? cz ⟨d,1,none⟩=some (.slice cp.a cp.len cp.cap)] cy<|st ⟨bs,0,none⟩ (HL.mk qaa cv.snd.fst) cy fun cA=>held [fun cB=>World.cell? cB ⟨d,1,none⟩=some (.slice cp.a cp.len cp.cap)] cA<|idx cp (if c<side then c else side) 1 fun cC=>st cC ([.slice cv.snd.snd.a cv.snd.snd.len cv.snd.snd.cap]) cA fun cD=>bZ () cD)) fun (cE:PUnit) cF=>ld .slice ⟨d,3,none⟩ (World.drew cF) fun cG=>ldA (qaf) ⟨b,0,none⟩ (World.drew cF) fun (cH:Int×Int×Int×Int×Option Addr×Int)=>ld .slice ⟨d,3,none⟩ (World.drew cF) fun cI=>idx cI (if c<side then c else side) 1 fun cJ=>ld (.int .u32) cJ (World.drew cF) fun (cL:Int)=>ldA (qaa) ⟨bw,0,none⟩ (World.drew cF) fun (cM:Bool×Sl×Sl×Sl)=>call Tryz.prog 106 ([.agg (List.toArray (HL.mk qaf cH)),.int .u32 cL,.agg (List.toArray (HL.mk qaa cM))]) ([.one (.int .u32),.one (.int .i64)]) (World.drew cF) fun (cN:Int×Int) cO=>held [fun cP=>World.cell? cP ⟨d,3,none⟩=some (.slice cG.a cG.len cG.cap)] cO<|idx cG (if c<side then c else side) 1 fun cQ=>st cQ ([.int .u32 cN.fst]) cO fun cR=>cond (!cN.snd==0) (st ⟨g,0,none⟩ ([.bool false,.slice none 0 0,.slice none 0 0,.slice none 0 0]) cR fun cS=>ldA (qaa) ⟨g,0,none⟩ cS fun (cT:Bool×Sl×Sl×Sl)=>K ((cT,cN.snd)) cS) (ld .slice ⟨d,3,none⟩ (World.drew cR) fun cU=>ldA (qaf) ⟨b,0,none⟩ (World.drew cR) fun (cV:Int×Int×Int×Int×Option Addr×Int)=>ld .slice ⟨d,3,none⟩ (World.drew cR) fun cW=>idx cW (IntKind.wrap .i64 ((if c<side then c else side)+1)) 1 fun cX=>ld (.int .u32) cX (World.drew cR) fun (cY:Int)=>ldA (qaa) ⟨bs,0,none⟩ (World.drew cR) fun (cZ:Bool×Sl×Sl×Sl)=>call Tryz.prog 106 ([.agg (List.toArray (HL.mk qaf cV)),.int .u32 cY,.agg (List.toArray (HL.mk qaa cZ))]) ([.one (.int .u32),.one (.int .i64)]) (World.drew cR) fun (da:Int×Int) db=>held [fun dc=>World.cell? dc ⟨d,3,none⟩=some (.slice cU.a cU.len cU.cap)] db<|idx cU (IntKind.wrap .i64 ((if c<side then c else side)+1)) 1 fun dd=>st dd ([.int .u32 da.fst]) db fun de=>ldA (qaa) ⟨d,0,none⟩ de fun (df:Bool×Sl×Sl×Sl)=>st ⟨g,0,none⟩ (HL.mk qaa df) de fun dg=>ldA (qaa) ⟨g,0,none⟩ dg fun (dh:Bool×Sl×Sl×Sl)=>K ((dh,da.snd)) dg)))))/\(ldA (qaf) ⟨b,0,none⟩ (World.drew h) fun (di:Int×Int×Int×Int×Option Addr×Int)=>ld .slice ⟨d,3,none⟩ (World.drew h) fun dj=>idx dj side 1 fun dk=>ld (.int .u32) dk (World.drew h) fun (dl:Int)=>new (Obj.cells #[.bool false,.slice none 0 0,.slice none 0 0,.slice none 0 0] 143) (World.drew h) fun dm dn=>held [fun dp=>World.cell? dp dk=some (.int .u32 dl),fun dq=>World.cell? dq ⟨d,3,none⟩=some (.slice dj.a dj.len dj.cap),fun dr=>cellsAt dr ⟨b,0,none⟩ 0 (HL.mk qaf di)] dn<|call Tryz.prog 82 ([.agg (List.toArray (HL.mk qaf di)),.int .u32 dl]) ([.agg qaa,.one (.int .i64)]) dn fun (ds:(Bool×Sl×Sl×Sl)×Int) dt=>st ⟨dm,0,none⟩ (HL.mk qaa ds.fst) dt fun du=>cond (!ds.snd==0) (st ⟨g,0,none⟩ ([.bool false,.slice none 0 0,.slice none 0 0,.slice none 0 0]) du fun dv=>ldA (qaa) ⟨g,0,none⟩ dv fun (dw:Bool×Sl×Sl×Sl)=>K ((dw,ds.snd)) dv) ((ldA (qaa) ⟨e,0,none⟩ (World.drew du) fun (dx:Bool×Sl×Sl×Sl)=>ldA (qaa) ⟨dm,0,none⟩ (World.drew du) fun (dy:Bool×Sl×Sl×Sl)=>new (Obj.cells #[.bool false,.slice none 0 0,.slice none 0 0,.slice none 0 0] 143) (World.drew du) fun dz dA=>held [fun dB=>cellsAt dB ⟨dm,0,none⟩ 0 (HL.mk qaa dy),fun dC=>cellsAt dC ⟨e,0,none⟩ 0 (HL.mk qaa dx)] dA<|new (Obj.cells #[.bool false,.slice none 0 0,.slice none 0 0,.slice none 0 0] 143) dA fun dD dE=>held [fun dF=>cellsAt dF ⟨dm,0,none⟩ 0 (HL.mk qaa dy),fun dG=>cellsAt dG ⟨e,0,none⟩ 0 (HL.mk qaa dx)] dE<|st ⟨dz,0,none⟩ (HL.mk qaa dx) dE fun dH=>held [fun dI=>cellsAt dI ⟨dm,0,none⟩ 0 (HL.mk qaa dy)] dH<|st ⟨dD,0,none⟩ (HL.mk qaa dy) dH fun dJ=>join (PUnit) (fun dL=>cond (decide (side<c)) (ldA (qaa) ⟨dm,0,none⟩ (World.drew dJ) fun (dM:Bool×Sl×Sl×Sl)=>ldA (qaa) ⟨e,0,none⟩ (World.drew dJ) fun (dN:Bool×Sl×Sl×Sl)=>st ⟨dz,0,none⟩ (HL.mk qaa dM) (World.drew dJ) fun dO=>held [fun dP=>cellsAt dP ⟨e,0,none⟩ 0 (HL.mk qaa dN)] dO<|st ⟨dD,0,none⟩ (HL.mk qaa dN) dO fun dQ=>dL () dQ) (dL () dJ)) fun (dR:PUnit) dS=>ldA (qa2) ⟨b,0,none⟩ dS fun (dT:Int×Int×Int×Int)=>ldA (qaa) ⟨dm,0,none⟩ dS fun (dU:Bool×Sl×Sl×Sl)=>call Tryz.prog 178 ([.agg (List.toArray (HL.mk qa2 dT)),.agg (List.toArray (HL.mk qaa dU))]) ([.one .bool]) dS fun (dV:Bool) dW=>cond (!dV) (ldA (qaf) ⟨b,0,none⟩ dW fun (dX:Int×Int×Int×Int×Option Addr×Int)=>ldA (qaa) ⟨d,0,none⟩ dW fun (dY:Bool×Sl×Sl×Sl)=>ldA (qaa) ⟨dz,0,none⟩ dW fun (dZ:Bool×Sl×Sl×Sl)=>ldA (qaa) ⟨dD,0,none⟩ dW fun (ea:Bool×Sl×Sl×Sl)=>call Tryz.prog 179 ([.agg (List.toArray (HL.mk qaf dX)),.agg (List.toArray (HL.mk qaa dY)),.int .i64 (if c<side then c else side),.agg (List.toArray (HL.mk qaa dZ)),.agg (List.toArray (HL.mk qaa ea))]) ([.agg qaa,.one (.int .i64)]) dW fun (eb:(Bool×Sl×Sl×Sl)×Int) ec=>st ⟨g,0,none⟩ (HL.mk qaa eb.fst) ec fun ed=>ldA (qaa) ⟨g,0,none⟩ ed fun (ee:Bool×Sl×Sl×Sl)=>K ((ee,eb.snd)) ed) (join (PUnit) (fun ef=>cond (decide (side<c)) (ld .slice ⟨d,1,none⟩ (World.drew dW) fun eg=>ldA (qaa) ⟨dz,0,none⟩ (World.drew dW) fun (eh:Bool×Sl×Sl×Sl)=>ldA (qaa) ⟨dD,0,none⟩ (World.drew dW) fun (ei:Bool×Sl×Sl×Sl)=>ld .slice ⟨d,1,none⟩ (World.drew dW) fun ej=>idx ej (if c<side then c else side) 1 fun ek=>ld .slice ek (World.drew dW) fun el=>call Tryz.prog 180 ([.agg (List.toArray (HL.mk qaa eh)),.agg (List.toArray (HL.mk qaa ei)),.slice el.a el.len el.cap]) ([.agg qaa,.agg qaa,.one .slice]) (World.drew dW) fun (em:(Bool×Sl×Sl×Sl)×(Bool×Sl×Sl×Sl)×Sl) en=>held [fun eo=>World.cell? eo ⟨d,1,none⟩=some (.slice eg.a eg.len eg.cap)] en<|st ⟨dz,0,none⟩ (HL.mk qaa em.fst) en fun ep=>held [fun eq=>World.cell? eq ⟨d,1,none⟩=some (.slice eg.a eg.len eg.cap)] ep<|st ⟨dD,0,none⟩ (HL.mk qaa em.snd.fst) ep fun er=>held [fun es=>World.cell? es ⟨d,1,none⟩=some (.slice eg.a eg.len eg.cap)] er<|idx eg (if c<side then c else side) 1 fun et=>st et ([.slice em.snd.snd.a em.snd.snd.len em.snd.snd.cap]) er fun eu=>ef () eu) (ld .slice ⟨d,1,none⟩ (World.drew dW) fun ev=>ldA (qaa) ⟨dz,0,none⟩ (World.drew dW) fun (ew:Bool×Sl×Sl×Sl)=>ldA (qaa) ⟨dD,0,none⟩ (World.drew dW) fun (ex:Bool×Sl×Sl×Sl)=>ld .slice ⟨d,1,none⟩ (World.drew dW) fun ey=>idx ey (if c<side then c else side) 1 fun ez=>ld .slice ez (World.drew dW) fun eA=>call Tryz.prog 181 ([.agg (List.toArray (HL.mk qaa ew)),.agg (List.toArray (HL.mk qaa ex)),.slice eA.a eA.len eA.cap]) ([.agg qaa,.agg qaa,.one .slice]) (World.drew dW) fun (eB:(Bool×Sl×Sl×Sl)×(Bool×Sl×Sl×Sl)×Sl) eC=>held [fun eD=>World.cell? eD ⟨d,1,none⟩=some (.slice ev.a ev.len ev.cap)] eC<|st ⟨dz,0,none⟩ (HL.mk qaa eB.fst) eC fun eE=>held [fun eF=>World.cell? eF ⟨d,1,none⟩=some (.slice ev.a ev.len ev.cap)] eE<|st ⟨dD,0,none⟩ (HL.mk qaa eB.snd.fst) eE fun eG=>held [fun eH=>World.cell? eH ⟨d,1,none⟩=some (.slice ev.a ev.len ev.cap)] eG<|idx ev (if c<side then c else side) 1 fun eI=>st eI ([.slice eB.snd.snd.a eB.snd.snd.len eB.snd.snd.cap]) eG fun eJ=>ef () eJ)) fun (eL:PUnit) eM=>ld .slice ⟨d,3,none⟩ (World.drew eM) fun eN=>ldA (qaf) ⟨b,0,none⟩ (World.drew eM) fun (eO:Int×Int×Int×Int×Option Addr×Int)=>ld .slice ⟨d,3,none⟩ (World.drew eM) fun eP=>idx eP (if c<side then c else side) 1 fun eQ=>ld (.int .u32) eQ (World.drew eM) fun (eR:Int)=>ldA (qaa) ⟨dz,0,none⟩ (World.drew eM) fun (eS:Bool×Sl×Sl×Sl)=>call Tryz.prog 106 ([.agg (List.toArray (HL.mk qaf eO)),.int .u32 eR,.agg (List.toArray (HL.mk qaa eS))]) ([.one (.int .u32),.one (.int .i64)]) (World.drew eM) fun (eT:Int×Int) eU=>held [fun eV=>World.cell? eV ⟨d,3,none⟩=some (.slice eN.a eN.len eN.cap)] eU<|idx eN (if c<side then c else side) 1 fun eW=>st eW ([.int .u32 eT.fst]) eU fun eX=>cond (!eT.snd==0) (st ⟨g,0,none⟩ ([.bool false,.slice none 0 0,.slice none 0 0,.slice none 0 0]) eX fun eY=>ldA (qaa) ⟨g,0,none⟩ eY fun (eZ:Bool×Sl×Sl×Sl)=>K ((eZ,eT.snd)) eY) (ld .slice ⟨d,3,none⟩ (World.drew eX) fun fa=>ldA (qaf) ⟨b,0,none⟩ (World.drew eX) fun (fb:Int×Int×Int×Int×Option Addr×Int)=>ld .slice ⟨d,3,none⟩ (World.drew eX) fun fc=>idx fc (IntKind.wrap .i64 ((if c<side then c else side)+1)) 1 fun fd=>ld (.int .u32) fd (World.drew eX) fun (fe:Int)=>ldA (qaa) ⟨dD,0,none⟩ (World.drew eX) fun (ff:Bool×Sl×Sl×Sl)=>call Tryz.prog 106 ([.agg (List.toArray (HL.mk qaf fb)),.int .u32 fe,.agg (List.toArray (HL.mk qaa ff))]) ([.one (.int .u32),.one (.int .i64)]) (World.drew eX) fun (fg:Int×Int) fh=>held [fun fi=>World.cell? fi ⟨d,3,none⟩=some (.slice fa.a fa.len fa.cap)] fh<|idx fa (IntKind.wrap .i64 ((if c<side then c else side)+1)) 1 fun fj=>st fj ([.int .u32 fg.fst]) fh fun fk=>ldA (qaa) ⟨d,0,none⟩ fk fun (fl:Bool×Sl×Sl×Sl)=>st ⟨g,0,none⟩ (HL.mk qaa fl) fk fun fm=>ldA (qaa) ⟨g,0,none⟩ fm fun (fn:Bool×Sl×Sl×Sl)=>K ((fn,fg.snd)) fm)))/\(ldA (qaa) ⟨e,0,none⟩ (World.drew du) fun (fo:Bool×Sl×Sl×Sl)=>ldA (qaa) ⟨dm,0,none⟩ (World.drew du) fun (fp:Bool×Sl×Sl×Sl)=>new (Obj.cells #[.bool false,.slice none 0 0,.slice none 0 0,.slice none 0 0] 143) (World.drew du) fun fq fr=>held [fun fs=>cellsAt fs ⟨dm,0,none⟩ 0 (HL.mk qaa fp),fun ft=>cellsAt ft ⟨e,0,none⟩ 0 (HL.mk qaa fo)] fr<|new (Obj.cells #[.bool false,.slice none 0 0,.slice none 0 0,.slice none 0 0] 143) fr fun fu fv=>held [fun fw=>cellsAt fw ⟨dm,0,none⟩ 0 (HL.mk qaa fp),fun fx=>cellsAt fx ⟨e,0,none⟩ 0 (HL.mk qaa fo)] fv<|st ⟨fu,0,none⟩ (HL.mk qaa fo) fv fun fy=>held [fun fz=>cellsAt fz ⟨dm,0,none⟩ 0 (HL.mk qaa fp)] fy<|st ⟨fq,0,none⟩ (HL.mk qaa fp) fy fun fA=>join (PUnit) (fun fB=>cond (decide (side<c)) (ldA (qaa) ⟨dm,0,none⟩ (World.drew fA) fun (fC:Bool×Sl×Sl×Sl)=>ldA (qaa) ⟨e,0,none⟩ (World.drew fA) fun (fD:Bool×Sl×Sl×Sl)=>st ⟨fu,0,none⟩ (HL.mk qaa fC) (World.drew fA) fun fE=>held [fun fF=>cellsAt fF ⟨e,0,none⟩ 0 (HL.mk qaa fD)] fE<|st ⟨fq,0,none⟩ (HL.mk qaa fD) fE fun fG=>fB () fG) (fB () fA)) fun (fH:PUnit) fI=>ldA (qa2) ⟨b,0,none⟩ fI fun (fJ:Int×Int×Int×Int)=>ldA (qaa) ⟨dm,0,none⟩ fI fun (fL:Bool×Sl×Sl×Sl)=>call Tryz.prog 178 ([.agg (List.toArray (HL.mk qa2 fJ)),.agg (List.toArray (HL.mk qaa fL))]) ([.one .bool]) fI fun (fM:Bool) fN=>cond (!fM) (ldA (qaf) ⟨b,0,none⟩ fN fun (fO:Int×Int×Int×Int×Option Addr×Int)=>ldA (qaa) ⟨d,0,none⟩ fN fun (fP:Bool×Sl×Sl×Sl)=>ldA (qaa) ⟨fu,0,none⟩ fN fun (fQ:Bool×Sl×Sl×Sl)=>ldA (qaa) ⟨fq,0,none⟩ fN fun (fR:Bool×Sl×Sl×Sl)=>call Tryz.prog 179 ([.agg (List.toArray (HL.mk qaf fO)),.agg (List.toArray (HL.mk qaa fP)),.int .i64 (if c<side then c else side),.agg (List.toArray (HL.mk qaa fQ)),.agg (List.toArray (HL.mk qaa fR))]) ([.agg qaa,.one (.int .i64)]) fN fun (fS:(Bool×Sl×Sl×Sl)×Int) fT=>st ⟨g,0,none⟩ (HL.mk qaa fS.fst) fT fun fU=>ldA (qaa) ⟨g,0,none⟩ fU fun (fV:Bool×Sl×Sl×Sl)=>K ((fV,fS.snd)) fU) (join (PUnit) (fun fW=>cond (decide (side<c)) (ld .slice ⟨d,1,none⟩ (World.drew fN) fun fX=>ldA (qaa) ⟨fu,0,none⟩ (World.drew fN) fun (fY:Bool×Sl×Sl×Sl)=>ldA (qaa) ⟨fq,0,none⟩ (World.drew fN) fun (fZ:Bool×Sl×Sl×Sl)=>ld .slice ⟨d,1,none⟩ (World.drew fN) fun ga=>idx ga (if c<side then c else side) 1 fun gb=>ld .slice gb (World.drew fN) fun gc=>call Tryz.prog 180 ([.agg (List.toArray (HL.mk qaa fY)),.agg (List.toArray (HL.mk qaa fZ)),.slice gc.a gc.len gc.cap]) ([.agg qaa,.agg qaa,.one .slice]) (World.drew fN) fun (gd:(Bool×Sl×Sl×Sl)×(Bool×Sl×Sl×Sl)×Sl) ge=>held [fun gf=>World.cell? gf ⟨d,1,none⟩=some (.slice fX.a fX.len fX.cap)] ge<|st ⟨fu,0,none⟩ (HL.mk qaa gd.fst) ge fun gg=>held [fun gh=>World.cell? gh ⟨d,1,none⟩=some (.slice fX.a fX.len fX.cap)] gg<|st ⟨fq,0,none⟩ (HL.mk qaa gd.snd.fst) gg fun gi=>held [fun gj=>World.cell? gj ⟨d,1,none⟩=some (.slice fX.a fX.len fX.cap)] gi<|idx fX (if c<side then c else side) 1 fun gk=>st gk ([.slice gd.snd.snd.a gd.snd.snd.len gd.snd.snd.cap]) gi fun gl=>fW () gl) (ld .slice ⟨d,1,none⟩ (World.drew fN) fun gm=>ldA (qaa) ⟨fu,0,none⟩ (World.drew fN) fun (gn:Bool×Sl×Sl×Sl)=>ldA (qaa) ⟨fq,0,none⟩ (World.drew fN) fun (go:Bool×Sl×Sl×Sl)=>ld .slice ⟨d,1,none⟩ (World.drew fN) fun gp=>idx gp (if c<side then c else side) 1 fun gq=>ld .slice gq (World.drew fN) fun gr=>call Tryz.prog 181 ([.agg (List.toArray (HL.mk qaa gn)),.agg (List.toArray (HL.mk qaa go)),.slice gr.a gr.len gr.cap]) ([.agg qaa,.agg qaa,.one .slice]) (World.drew fN) fun (gs:(Bool×Sl×Sl×Sl)×(Bool×Sl×Sl×Sl)×Sl) gt=>held [fun gu=>World.cell? gu ⟨d,1,none⟩=some (.slice gm.a gm.len gm.cap)] gt<|st ⟨fu,0,none⟩ (HL.mk qaa gs.fst) gt fun gv=>held [fun gw=>World.cell? gw ⟨d,1,none⟩=some (.slice gm.a gm.len gm.cap)] gv<|st ⟨fq,0,none⟩ (HL.mk qaa gs.snd.fst) gv fun gx=>held [fun gy=>World.cell? gy ⟨d,1,none⟩=some (.slice gm.a gm.len gm.cap)] gx<|idx gm (if c<side then c else side) 1 fun gz=>st gz ([.slice gs.snd.snd.a gs.snd.snd.len gs.snd.snd.cap]) gx fun gA=>fW () gA)) fun (gB:PUnit) gC=>ld .slice ⟨d,3,none⟩ (World.drew gC) fun gD=>ldA (qaf) ⟨b,0,none⟩ (World.drew gC) fun (gE:Int×Int×Int×Int×Option Addr×Int)=>ld .slice ⟨d,3,none⟩ (World.drew gC) fun gF=>idx gF (if c<side then c else side) 1 fun gG=>ld (.int .u32) gG (World.drew gC) fun (gH:Int)=>ldA (qaa) ⟨fu,0,none⟩ (World.drew gC) fun (gI:Bool×Sl×Sl×Sl)=>call Tryz.prog 106 ([.agg (List.toArray (HL.mk qaf gE)),.int .u32 gH,.agg (List.toArray (HL.mk qaa gI))]) ([.one (.int .u32),.one (.int .i64)]) (World.drew gC) fun (gJ:Int×Int) gL=>held [fun gM=>World.cell? gM ⟨d,3,none⟩=some (.slice gD.a gD.len gD.cap)] gL<|idx gD (if c<side then c else side) 1 fun gN=>st gN ([.int .u32 gJ.fst]) gL fun gO=>cond (!gJ.snd==0) (st ⟨g,0,none⟩ ([.bool false,.slice none 0 0,.slice none 0 0,.slice none 0 0]) gO fun gP=>ldA (qaa) ⟨g,0,none⟩ gP fun (gQ:Bool×Sl×Sl×Sl)=>K ((gQ,gJ.snd)) gP) (ld .slice ⟨d,3,none⟩ (World.drew gO) fun gR=>ldA (qaf) ⟨b,0,none⟩ (World.drew gO) fun (gS:Int×Int×Int×Int×Option Addr×Int)=>ld .slice ⟨d,3,none⟩ (World.drew gO) fun gT=>idx gT (IntKind.wrap .i64 ((if c<side then c else side)+1)) 1 fun gU=>ld (.int .u32) gU (World.drew gO) fun (gV:Int)=>ldA (qaa) ⟨fq,0,none⟩ (World.drew gO) fun (gW:Bool×Sl×Sl×Sl)=>call Tryz.prog 106 ([.agg (List.toArray (HL.mk qaf gS)),.int .u32 gV,.agg (List.toArray (HL.mk qaa gW))]) ([.one (.int .u32),.one (.int .i64)]) (World.drew gO) fun (gX:Int×Int) gY=>held [fun gZ=>World.cell? gZ ⟨d,3,none⟩=some (.slice gR.a gR.len gR.cap)] gY<|idx gR (IntKind.wrap .i64 ((if c<side then c else side)+1)) 1 fun ha=>st ha ([.int .u32 gX.fst]) gY fun hb=>ldA (qaa) ⟨d,0,none⟩ hb fun (hc:Bool×Sl×Sl×Sl)=>st ⟨g,0,none⟩ (HL.mk qaa hc) hb fun hd=>ldA (qaa) ⟨g,0,none⟩ hd fun (he:Bool×Sl×Sl×Sl)=>K ((he,gX.snd)) hd)))))
def qjA:List Ann:=[.n,.n,.o [[0,1,2,3,4,5,6,7,8,9,10,11,12],[0,1,2,3,4,5,10,6,7,8,9,11,12]],.n,.n,.n,.n,.n,.o [[0,1,2,3,4,5],[0,1,3,2,4,5]],.j [],.n,.o [[0,1,2,3]],.n,.n,.n,.j [],.n,.o [[0,1,2,3,4,5,6,7,8,9,10,11,12,13,14,15,16,17,18]],.o [[0,1,2,3,4,5,6,7,8,9,10,11,12,13,14,15,16,17,18]],.n,.n,.o [[0,1,2,3,4,5,6,7,8,9,10,11,12,13,14,15,16]],.n,.n,.n,.o [[0,1,2,3,4,5,6,7,8,9,10,11,12,13,14,15,16,17,18]],.n]
theorem qhI {w_0 w_1 w_2 w_3 w_4 w_5 n0 n1 n2 n3 side c x0 x1 x2 x3 w K} (hF:qdY w_0 w_1 w_2 w_3 w_4 w_5 n0 n1 n2 n3 side c x0 x1 x2 x3 K w):call Tryz.prog 143 [.agg #[.int .i64 w_0,.int .i64 w_1,.int .i64 w_2,.int .i64 w_3,.pointer w_4,.int .i64 w_5],.agg #[.bool n0,.slice n1.a n1.len n1.cap,.slice n2.a n2.len n2.cap,.slice n3.a n3.len n3.cap],.int .i64 side,.int .i64 c,.agg #[.bool x0,.slice x1.a x1.len x1.cap,.slice x2.a x2.len x2.cap,.slice x3.a x3.len x3.cap]] [.agg [.bool,.slice,.slice,.slice],.one (.int .i64)] w K:=qad (an:=qjA) Tryz.func143 hF
def qdE (w_0:Int) (w_1:Int) (w_2:Int) (w_3:Int) (w_4:Option Addr) (w_5:Int) (n0:Bool) (n1:Sl) (n2:Sl) (n3:Sl) (i:Int) (left0:Bool) (left1:Sl) (left2:Sl) (left3:Sl) (right0:Bool) (right1:Sl) (right2:Sl) (right3:Sl) (K:((Bool×Sl×Sl×Sl)×Int)->World->Prop) (w:World):Prop:=new (Obj.cells #[.int .i64 w_0,.int .i64 w_1,.int .i64 w_2,.int .i64 w_3,.pointer w_4,.int .i64 w_5] 114) w fun b w_2=>new (Obj.cells #[.bool n0,.slice n1.a n1.len n1.cap,.slice n2.a n2.len n2.cap,.slice n3.a n3.len n3.cap] 143) w_2 fun c w_4=>new (Obj.cells #[.bool left0,.slice left1.a left1.len left1.cap,.slice left2.a left2.len left2.cap,.slice left3.a left3.len left3.cap] 143) w_4 fun d e=>new (Obj.cells #[.bool right0,.slice right1.a right1.len right1.cap,.slice right2.a right2.len right2.cap,.slice right3.a right3.len right3.cap] 143) e fun f g=>new (Obj.cells #[.bool false,.slice none 0 0,.slice none 0 0,.slice none 0 0] 143) g fun h j=>join (PUnit) (fun k=>ld .bool ⟨d,0,none⟩ j fun (l:Bool)=>cond (!l) (ld .slice ⟨d,1,none⟩ (World.drew j) fun m=>ld .slice ⟨c,1,none⟩ (World.drew j) fun n=>idx n i 1 fun o=>ld .slice o (World.drew j) fun p=>new (Obj.cells #[.slice p.a p.len p.cap] 23) (World.drew j) fun q r=>held [fun s=>World.cell? s ⟨d,1,none⟩=some (.slice m.a m.len m.cap)] r<|run [.one .slice] ((Builtin.append_ (#[22,22]) 22 (#[.slice m.a m.len m.cap,.slice (some ⟨q,0,none⟩) 1 1])).run Tryz.prog r) fun t u=>st ⟨d,1,none⟩ ([.slice t.a t.len t.cap]) u fun v=>k () v) (k () j)) fun (x:PUnit) y=>ld .slice ⟨d,1,none⟩ y fun z=>ld .slice ⟨f,1,none⟩ y fun A=>run [.one .slice] ((Builtin.append_ (#[22,22]) 22 (#[.slice z.a z.len z.cap,.slice A.a A.len A.cap])).run Tryz.prog y) fun B C=>st ⟨d,1,none⟩ ([.slice B.a B.len B.cap]) C fun D=>ld .slice ⟨d,2,none⟩ D fun E=>ld .slice ⟨f,2,none⟩ D fun F=>run [.one .slice] ((Builtin.append_ (#[22,22]) 22 (#[.slice E.a E.len E.cap,.slice F.a F.len F.cap])).run Tryz.prog D) fun G H=>st ⟨d,2,none⟩ ([.slice G.a G.len G.cap]) H fun I=>ld .slice ⟨d,3,none⟩ I fun J=>ld .slice ⟨f,3,none⟩ I fun L=>run [.one .slice] ((Builtin.append_ (#[92,92]) 92 (#[.slice J.a J.len J.cap,.slice L.a L.len L.cap])).run Tryz.prog I) fun M N=>st ⟨d,3,none⟩ ([.slice M.a M.len M.cap]) N fun O=>ldA (qaf) ⟨b,0,none⟩ (World.drew O) fun (P:Int×Int×Int×Int×Option Addr×Int)=>ld .slice ⟨c,3,none⟩ (World.drew O) fun Q=>idx Q i 1 fun R=>ld (.int .u32) R (World.drew O) fun (S:Int)=>ldA (qaa) ⟨d,0,none⟩ (World.drew O) fun (T:Bool×Sl×Sl×Sl)=>call Tryz.prog 106 ([.agg (List.toArray (HL.mk qaf P)),.int .u32 S,.agg (List.toArray (HL.mk qaa T))]) ([.one (.int .u32),.one (.int .i64)]) (World.drew O) fun (U:Int×Int) V=>join (Int) (fun W=>cond (U.snd==0) (ld .ptr ⟨b,4,none⟩ (World.drew V) fun X=>ld .slice ⟨c,3,none⟩ (World.drew V) fun Y=>idx Y (IntKind.wrap .i64 (i+1)) 1 fun Z=>ld (.int .u32) Z (World.drew V) fun (aa:Int)=>call Tryz.prog 110 ([.pointer X,.int .u32 aa]) ([.one (.int .i64)]) (World.drew V) fun (ab:Int) ac=>W ab ac) (W U.snd V)) fun (ad:Int) ae=>cond (!ad==0) (st ⟨h,0,none⟩ ([.bool false,.slice none 0 0,.slice none 0 0,.slice none 0 0]) ae fun af=>ldA (qaa) ⟨h,0,none⟩ af fun (ag:Bool×Sl×Sl×Sl)=>K ((ag,ad)) af) (ld .slice ⟨c,3,none⟩ ae fun ah=>idx ah i 1 fun ai=>st ai ([.int .u32 U.fst]) ae fun aj=>ld .slice ⟨c,3,none⟩ (World.drew aj) fun ak=>ld .slice ⟨c,1,none⟩ (World.drew aj) fun al=>call Tryz.prog 214 ([.slice ak.a ak.len ak.cap,.int .i64 (IntKind.wrap .i64 (i+1)),.int .i64 (IntKind.wrap .i64 (i+2))]) ([.one .slice]) (World.drew aj) fun am an=>held [fun ao=>World.cell? ao ⟨c,1,none⟩=some (.slice al.a al.len al.cap)] an<|call Tryz.prog 141 ([.slice al.a al.len al.cap,.int .i64 i,.int .i64 (IntKind.wrap .i64 (i+1))]) ([.one .slice]) an fun ap aq=>st ⟨c,3,none⟩ ([.slice am.a am.len am.cap]) aq fun ar=>st ⟨c,1,none⟩ ([.slice ap.a ap.len ap.cap]) ar fun au=>ldA (qaa) ⟨c,0,none⟩ au fun (av:Bool×Sl×Sl×Sl)=>st ⟨h,0,none⟩ (HL.mk qaa av) au fun aw=>ldA (qaa) ⟨h,0,none⟩ aw fun (ax:Bool×Sl×Sl×Sl)=>K ((ax,0)) aw)
def qjl:List Ann:=[.n,.j [],.n,.o [[0,1,2,3,4,5,6,7,8,9,10]],.n,.n,.n,.n,.o [[0,1,2,3,4,5,6,7,8,9,10,11,12]],.j [(13,.one (.int .i64))],.n,.o [[0,1,2,3,4,5,6,7,8,9]],.n,.n,.n,.n,.n,.o [[0,1,2,3,4,5,7,8,9,10,11,6,13,12,14,15,16]],.n]
theorem qhK {w_0 w_1 w_2 w_3 w_4 w_5 n0 n1 n2 n3 i left0 left1 left2 left3 right0 right1 right2 right3 w K} (hF:qdE w_0 w_1 w_2 w_3 w_4 w_5 n0 n1 n2 n3 i left0 left1 left2 left3 right0 right1 right2 right3 K w):call Tryz.prog 179 [.agg #[.int .i64 w_0,.int .i64 w_1,.int .i64 w_2,.int .i64 w_3,.pointer w_4,.int .i64 w_5],.agg #[.bool n0,.slice n1.a n1.len n1.cap,.slice n2.a n2.len n2.cap,.slice n3.a n3.len n3.cap],.int .i64 i,.agg #[.bool left0,.slice left1.a left1.len left1.cap,.slice left2.a left2.len left2.cap,.slice left3.a left3.len left3.cap],.agg #[.bool right0,.slice right1.a right1.len right1.cap,.slice right2.a right2.len right2.cap,.slice right3.a right3.len right3.cap]] [.agg [.bool,.slice,.slice,.slice],.one (.int .i64)] w K:=qad (an:=qjl) Tryz.func179 hF
def qjx (left0:Bool) (left1:Sl) (left2:Sl) (left3:Sl) (right0:Bool) (right1:Sl) (right2:Sl) (right3:Sl) (key:Sl) (K:((Bool×Sl×Sl×Sl)×(Bool×Sl×Sl×Sl)×Sl)->World->Prop) (w:World):Prop:=new (Obj.cells #[.bool left0,.slice left1.a left1.len left1.cap,.slice left2.a left2.len left2.cap,.slice left3.a left3.len left3.cap] 143) w fun b c=>new (Obj.cells #[.bool right0,.slice right1.a right1.len right1.cap,.slice right2.a right2.len right2.cap,.slice right3.a right3.len right3.cap] 143) c fun d e=>new (Obj.cells #[.bool false,.slice none 0 0,.slice none 0 0,.slice none 0 0] 143) e fun f g=>new (Obj.cells #[.bool false,.slice none 0 0,.slice none 0 0,.slice none 0 0] 143) g fun h i=>ld .slice ⟨b,1,none⟩ i fun j=>ld .bool ⟨b,0,none⟩ i fun (k:Bool)=>cond k ((ld .slice ⟨d,1,none⟩ (World.drew i) fun l=>ld .slice ⟨b,1,none⟩ (World.drew i) fun m=>idx m (IntKind.wrap .i64 ((↑j.len:Int)-1)) 1 fun n=>ld .slice n (World.drew i) fun o=>ld .slice ⟨d,2,none⟩ (World.drew i) fun p=>ld .slice ⟨b,2,none⟩ (World.drew i) fun q=>idx q (IntKind.wrap .i64 ((↑j.len:Int)-1)) 1 fun r=>ld .slice r (World.drew i) fun s=>new (Obj.cells #[.slice o.a o.len o.cap] 23) (World.drew i) fun t u=>held [fun v=>World.cell? v r=some (.slice s.a s.len s.cap),fun x=>World.cell? x ⟨b,2,none⟩=some (.slice q.a q.len q.cap),fun y=>World.cell? y ⟨d,2,none⟩=some (.slice p.a p.len p.cap),fun z=>World.cell? z ⟨d,1,none⟩=some (.slice l.a l.len l.cap)] u<|call Tryz.prog 138 ([.slice l.a l.len l.cap,.int .i64 0,.slice (some ⟨t,0,none⟩) 1 1]) ([.one .slice]) u fun A B=>held [fun C=>World.cell? C r=some (.slice s.a s.len s.cap),fun D=>World.cell? D ⟨b,2,none⟩=some (.slice q.a q.len q.cap),fun E=>World.cell? E ⟨d,2,none⟩=some (.slice p.a p.len p.cap)] B<|new (Obj.cells #[.slice s.a s.len s.cap] 23) B fun F G=>held [fun H=>World.cell? H ⟨d,2,none⟩=some (.slice p.a p.len p.cap),fun I=>World.cell? I n=some (.slice o.a o.len o.cap),fun J=>World.cell? J ⟨b,1,none⟩=some (.slice m.a m.len m.cap),fun L=>World.cell? L ⟨d,1,none⟩=some (.slice l.a l.len l.cap)] G<|call Tryz.prog 138 ([.slice p.a p.len p.cap,.int .i64 0,.slice (some ⟨F,0,none⟩) 1 1]) ([.one .slice]) G fun M N=>st ⟨d,1,none⟩ ([.slice A.a A.len A.cap]) N fun O=>st ⟨d,2,none⟩ ([.slice M.a M.len M.cap]) O fun P=>ld .slice ⟨b,1,none⟩ (World.drew P) fun Q=>slc Q none (some (IntKind.wrap .i64 ((↑j.len:Int)-1))) none 1 fun R=>ld .slice ⟨b,2,none⟩ (World.drew P) fun S=>slc S none (some (IntKind.wrap .i64 ((↑j.len:Int)-1))) none 1 fun T=>st ⟨b,1,none⟩ ([.slice R.a R.len R.cap]) (World.drew P) fun U=>st ⟨b,2,none⟩ ([.slice T.a T.len T.cap]) U fun V=>ldA (qaa) ⟨b,0,none⟩ (World.drew V) fun (W:Bool×Sl×Sl×Sl)=>ldA (qaa) ⟨d,0,none⟩ (World.drew V) fun (X:Bool×Sl×Sl×Sl)=>ld .slice ⟨d,1,none⟩ (World.drew V) fun Y=>idx Y 0 1 fun Z=>ld .slice Z (World.drew V) fun aa=>st ⟨f,0,none⟩ (HL.mk qaa W) (World.drew V) fun ab=>held [fun ac=>World.cell? ac Z=some (.slice aa.a aa.len aa.cap),fun ad=>World.cell? ad ⟨d,1,none⟩=some (.slice Y.a Y.len Y.cap),fun ae=>cellsAt ae ⟨d,0,none⟩ 0 (HL.mk qaa X)] ab<|st ⟨h,0,none⟩ (HL.mk qaa X) ab fun af=>held [fun ag=>World.cell? ag Z=some (.slice aa.a aa.len aa.cap),fun ah=>World.cell? ah ⟨d,1,none⟩=some (.slice Y.a Y.len Y.cap)] af<|ldA (qaa) ⟨f,0,none⟩ af fun (ai:Bool×Sl×Sl×Sl)=>ldA (qaa) ⟨h,0,none⟩ af fun (aj:Bool×Sl×Sl×Sl)=>K ((ai,aj,aa)) af)/\((ld .slice ⟨d,1,none⟩ (World.drew i) fun ak=>ld .slice ⟨b,1,none⟩ (World.drew i) fun al=>idx al (IntKind.wrap .i64 ((↑j.len:Int)-1)) 1 fun am=>ld .slice am (World.drew i) fun an=>ld .slice ⟨d,2,none⟩ (World.drew i) fun ao=>ld .slice ⟨b,2,none⟩ (World.drew i) fun ap=>idx ap (IntKind.wrap .i64 ((↑j.len:Int)-1)) 1 fun aq=>ld .slice aq (World.drew i) fun ar=>new (Obj.cells #[.slice an.a an.len an.cap] 23) (World.drew i) fun au av=>held [fun aw=>World.cell? aw aq=some (.slice ar.a ar.len ar.cap),fun ax=>World.cell? ax ⟨b,2,none⟩=some (.slice ap.a ap.len ap.cap),fun ay=>World.cell? ay ⟨d,2,none⟩=some (.slice ao.a ao.len ao.cap),fun az=>World.cell? az ⟨d,1,none⟩=some (.slice ak.a ak.len ak.cap)] av<|new (Obj.cells #[.slice ar.a ar.len ar.cap] 23) av fun aA aB=>held [fun aC=>World.cell? aC ⟨d,2,none⟩=some (.slice ao.a ao.len ao.cap),fun aD=>World.cell? aD am=some (.slice an.a an.len an.cap),fun aE=>World.cell? aE ⟨b,1,none⟩=some (.slice al.a al.len al.cap),fun aF=>World.cell? aF ⟨d,1,none⟩=some (.slice ak.a ak.len ak.cap)] aB<|call Tryz.prog 138 ([.slice ak.a ak.len ak.cap,.int .i64 0,.slice (some ⟨au,0,none⟩) 1 1]) ([.one .slice]) aB fun aG aH=>held [fun aI=>World.cell? aI aq=some (.slice ar.a ar.len ar.cap),fun aJ=>World.cell? aJ ⟨b,2,none⟩=some (.slice ap.a ap.len ap.cap),fun aL=>World.cell? aL ⟨d,2,none⟩=some (.slice ao.a ao.len ao.cap)] aH<|call Tryz.prog 138 ([.slice ao.a ao.len ao.cap,.int .i64 0,.slice (some ⟨aA,0,none⟩) 1 1]) ([.one .slice]) aH fun aM aN=>st ⟨d,1,none⟩ ([.slice aG.a aG.len aG.cap]) aN fun aO=>st ⟨d,2,none⟩ ([.slice aM.a aM.len aM.cap]) aO fun aP=>ld .slice ⟨b,1,none⟩ (World.drew aP) fun aQ=>slc aQ none (some (IntKind.wrap .i64 ((↑j.len:Int)-1))) none 1 fun aR=>ld .slice ⟨b,2,none⟩ (World.drew aP) fun aS=>slc aS none (some (IntKind.wrap .i64 ((↑j.len:Int)-1))) none 1 fun aT=>st ⟨b,1,none⟩ ([.slice aR.a aR.len aR.cap]) (World.drew aP) fun aU=>st ⟨b,2,none⟩ ([.slice aT.a aT.len aT.cap]) aU fun aV=>ldA (qaa) ⟨b,0,none⟩ (World.drew aV) fun (aW:Bool×Sl×Sl×Sl)=>ldA (qaa) ⟨d,0,none⟩ (World.drew aV) fun (aX:Bool×Sl×Sl×Sl)=>ld .slice ⟨d,1,none⟩ (World.drew aV) fun aY=>idx aY 0 1 fun aZ=>ld .slice aZ (World.drew aV) fun ba=>st ⟨f,0,none⟩ (HL.mk qaa aW) (World.drew aV) fun bb=>held [fun bc=>World.cell? bc aZ=some (.slice ba.a ba.len ba.cap),fun bd=>World.cell? bd ⟨d,1,none⟩=some (.slice aY.a aY.len aY.cap),fun be=>cellsAt be ⟨d,0,none⟩ 0 (HL.mk qaa aX)] bb<|st ⟨h,0,none⟩ (HL.mk qaa aX) bb fun bf=>held [fun bg=>World.cell? bg aZ=some (.slice ba.a ba.len ba.cap),fun bh=>World.cell? bh ⟨d,1,none⟩=some (.slice aY.a aY.len aY.cap)] bf<|ldA (qaa) ⟨f,0,none⟩ bf fun (bi:Bool×Sl×Sl×Sl)=>ldA (qaa) ⟨h,0,none⟩ bf fun (bj:Bool×Sl×Sl×Sl)=>K ((bi,bj,ba)) bf)/\(ld .slice ⟨d,1,none⟩ (World.drew i) fun bk=>ld .slice ⟨b,1,none⟩ (World.drew i) fun bl=>idx bl (IntKind.wrap .i64 ((↑j.len:Int)-1)) 1 fun bm=>ld .slice bm (World.drew i) fun bn=>ld .slice ⟨d,2,none⟩ (World.drew i) fun bo=>ld .slice ⟨b,2,none⟩ (World.drew i) fun bp=>idx bp (IntKind.wrap .i64 ((↑j.len:Int)-1)) 1 fun bq=>ld .slice bq (World.drew i) fun br=>new (Obj.cells #[.slice br.a br.len br.cap] 23) (World.drew i) fun bs bt=>held [fun bu=>World.cell? bu ⟨d,2,none⟩=some (.slice bo.a bo.len bo.cap),fun bv=>World.cell? bv bm=some (.slice bn.a bn.len bn.cap),fun bw=>World.cell? bw ⟨b,1,none⟩=some (.slice bl.a bl.len bl.cap),fun bx=>World.cell? bx ⟨d,1,none⟩=some (.slice bk.a bk.len bk.cap)] bt<|new (Obj.cells #[.slice bn.a bn.len bn.cap] 23) bt fun bz bA=>held [fun bB=>World.cell? bB bq=some (.slice br.a br.len br.cap),fun bC=>World.cell? bC ⟨b,2,none⟩=some (.slice bp.a bp.len bp.cap),fun bD=>World.cell? bD ⟨d,2,none⟩=some (.slice bo.a bo.len bo.cap),fun bE=>World.cell? bE ⟨d,1,none⟩=some (.slice bk.a bk.len bk.cap)] bA<|call Tryz.prog 138 ([.slice bk.a bk.len bk.cap,.int .i64 0,.slice (some ⟨bz,0,none⟩) 1 1]) ([.one .slice]) bA fun bF bG=>held [fun bH=>World.cell? bH bq=some (.slice br.a br.len br.cap),fun bI=>World.cell? bI ⟨b,2,none⟩=some (.slice bp.a bp.len bp.cap),fun bJ=>World.cell? bJ ⟨d,2,none⟩=some (.slice bo.a bo.len bo.cap)] bG<|call Tryz.prog 138 ([.slice bo.a bo.len bo.cap,.int .i64 0,.slice (some ⟨bs,0,none⟩) 1 1]) ([.one .slice]) bG fun bL bM=>st ⟨d,1,none⟩ ([.slice bF.a bF.len bF.cap]) bM fun bN=>st ⟨d,2,none⟩ ([.slice bL.a bL.len bL.cap]) bN fun bO=>ld .slice ⟨b,1,none⟩ (World.drew bO) fun bP=>slc bP none (some (IntKind.wrap .i64 ((↑j.len:Int)-1))) none 1 fun bQ=>ld .slice ⟨b,2,none⟩ (World.drew bO) fun bR=>slc bR none (some (IntKind.wrap .i64 ((↑j.len:Int)-1))) none 1 fun bS=>st ⟨b,1,none⟩ ([.slice bQ.a bQ.len bQ.cap]) (World.drew bO) fun bT=>st ⟨b,2,none⟩ ([.slice bS.a bS.len bS.cap]) bT fun bU=>ldA (qaa) ⟨b,0,none⟩ (World.drew bU) fun (bV:Bool×Sl×Sl×Sl)=>ldA (qaa) ⟨d,0,none⟩ (World.drew bU) fun (bW:Bool×Sl×Sl×Sl)=>ld .slice ⟨d,1,none⟩ (World.drew bU) fun bX=>idx bX 0 1 fun bY=>ld .slice bY (World.drew bU) fun bZ=>st ⟨f,0,none⟩ (HL.mk qaa bV) (World.drew bU) fun ca=>held [fun cb=>World.cell? cb bY=some (.slice bZ.a bZ.len bZ.cap),fun cc=>World.cell? cc ⟨d,1,none⟩=some (.slice bX.a bX.len bX.cap),fun cd=>cellsAt cd ⟨d,0,none⟩ 0 (HL.mk qaa bW)] ca<|st ⟨h,0,none⟩ (HL.mk qaa bW) ca fun ce=>held [fun cf=>World.cell? cf bY=some (.slice bZ.a bZ.len bZ.cap),fun cg=>World.cell? cg ⟨d,1,none⟩=some (.slice bX.a bX.len bX.cap)] ce<|ldA (qaa) ⟨f,0,none⟩ ce fun (ch:Bool×Sl×Sl×Sl)=>ldA (qaa) ⟨h,0,none⟩ ce fun (ci:Bool×Sl×Sl×Sl)=>K ((ch,ci,bZ)) ce))) (ld .slice ⟨b,1,none⟩ i fun cj=>idx cj (IntKind.wrap .i64 ((↑j.len:Int)-1)) 1 fun ck=>ld .slice ck i fun cl=>(ld .slice ⟨d,1,none⟩ (World.drew i) fun cm=>ld .slice ⟨d,3,none⟩ (World.drew i) fun cn=>ld .slice ⟨b,3,none⟩ (World.drew i) fun co=>idx co (IntKind.wrap .i64 (IntKind.wrap .i64 ((↑j.len:Int)-1)+1)) 1 fun cp=>ld (.int .u32) cp (World.drew i) fun (cq:Int)=>new (Obj.cells #[.slice key.a key.len key.cap] 23) (World.drew i) fun cr cs=>held [fun ct=>World.cell? ct cp=some (.int .u32 cq),fun cu=>World.cell? cu ⟨b,3,none⟩=some (.slice co.a co.len co.cap),fun cv=>World.cell? cv ⟨d,3,none⟩=some (.slice cn.a cn.len cn.cap),fun cw=>World.cell? cw ⟨d,1,none⟩=some (.slice cm.a cm.len cm.cap)] cs<|call Tryz.prog 138 ([.slice cm.a cm.len cm.cap,.int .i64 0,.slice (some ⟨cr,0,none⟩) 1 1]) ([.one .slice]) cs fun cx cy=>held [fun cz=>World.cell? cz cp=some (.int .u32 cq),fun cA=>World.cell? cA ⟨b,3,none⟩=some (.slice co.a co.len co.cap),fun cB=>World.cell? cB ⟨d,3,none⟩=some (.slice cn.a cn.len cn.cap)] cy<|new (Obj.cells #[.int .u32 cq] 37) cy fun cC cD=>held [fun cE=>World.cell? cE ⟨d,3,none⟩=some (.slice cn.a cn.len cn.cap),fun cF=>World.cell? cF ⟨d,1,none⟩=some (.slice cm.a cm.len cm.cap)] cD<|call Tryz.prog 140 ([.slice cn.a cn.len cn.cap,.int .i64 0,.slice (some ⟨cC,0,none⟩) 1 1]) ([.one .slice]) cD fun cG cH=>st ⟨d,1,none⟩ ([.slice cx.a cx.len cx.cap]) cH fun cI=>st ⟨d,3,none⟩ ([.slice cG.a cG.len cG.cap]) cI fun cJ=>ld .slice ⟨b,1,none⟩ (World.drew cJ) fun cL=>slc cL none (some (IntKind.wrap .i64 ((↑j.len:Int)-1))) none 1 fun cM=>ld .slice ⟨b,3,none⟩ (World.drew cJ) fun cN=>slc cN none (some (IntKind.wrap .i64 (IntKind.wrap .i64 ((↑j.len:Int)-1)+1))) none 1 fun cO=>st ⟨b,1,none⟩ ([.slice cM.a cM.len cM.cap]) (World.drew cJ) fun cP=>st ⟨b,3,none⟩ ([.slice cO.a cO.len cO.cap]) cP fun cQ=>ldA (qaa) ⟨b,0,none⟩ (World.drew cQ) fun (cR:Bool×Sl×Sl×Sl)=>ldA (qaa) ⟨d,0,none⟩ (World.drew cQ) fun (cS:Bool×Sl×Sl×Sl)=>st ⟨f,0,none⟩ (HL.mk qaa cR) (World.drew cQ) fun cT=>held [fun cU=>cellsAt cU ⟨d,0,none⟩ 0 (HL.mk qaa cS)] cT<|st ⟨h,0,none⟩ (HL.mk qaa cS) cT fun cV=>ldA (qaa) ⟨f,0,none⟩ cV fun (cW:Bool×Sl×Sl×Sl)=>ldA (qaa) ⟨h,0,none⟩ cV fun (cX:Bool×Sl×Sl×Sl)=>K ((cW,cX,cl)) cV)/\((ld .slice ⟨d,1,none⟩ (World.drew i) fun cY=>ld .slice ⟨d,3,none⟩ (World.drew i) fun cZ=>ld .slice ⟨b,3,none⟩ (World.drew i) fun da=>idx da (IntKind.wrap .i64 (IntKind.wrap .i64 ((↑j.len:Int)-1)+1)) 1 fun db=>ld (.int .u32) db (World.drew i) fun (dc:Int)=>new (Obj.cells #[.slice key.a key.len key.cap] 23) (World.drew i) fun dd de=>held [fun df=>World.cell? df db=some (.int .u32 dc),fun dg=>World.cell? dg ⟨b,3,none⟩=some (.slice da.a da.len da.cap),fun dh=>World.cell? dh ⟨d,3,none⟩=some (.slice cZ.a cZ.len cZ.cap),fun di=>World.cell? di ⟨d,1,none⟩=some (.slice cY.a cY.len cY.cap)] de<|new (Obj.cells #[.int .u32 dc] 37) de fun dj dk=>held [fun dl=>World.cell? dl ⟨d,3,none⟩=some (.slice cZ.a cZ.len cZ.cap),fun dm=>World.cell? dm ⟨d,1,none⟩=some (.slice cY.a cY.len cY.cap)] dk<|call Tryz.prog 138 ([.slice cY.a cY.len cY.cap,.int .i64 0,.slice (some ⟨dd,0,none⟩) 1 1]) ([.one .slice]) dk fun dn dp=>held [fun dq=>World.cell? dq db=some (.int .u32 dc),fun dr=>World.cell? dr ⟨b,3,none⟩=some (.slice da.a da.len da.cap),fun ds=>World.cell? ds ⟨d,3,none⟩=some (.slice cZ.a cZ.len cZ.cap)] dp<|call Tryz.prog 140 ([.slice cZ.a cZ.len cZ.cap,.int .i64 0,.slice (some ⟨dj,0,none⟩) 1 1]) ([.one .slice]) dp fun dt du=>st ⟨d,1,none⟩ ([.slice dn.a dn.len dn.cap]) du fun dv=>st ⟨d,3,none⟩ ([.slice dt.a dt.len dt.cap]) dv fun dw=>ld .slice ⟨b,1,none⟩ (World.drew dw) fun dx=>slc dx none (some (IntKind.wrap .i64 ((↑j.len:Int)-1))) none 1 fun dy=>ld .slice ⟨b,3,none⟩ (World.drew dw) fun dz=>slc dz none (some (IntKind.wrap .i64 (IntKind.wrap .i64 ((↑j.len:Int)-1)+1))) none 1 fun dA=>st ⟨b,1,none⟩ ([.slice dy.a dy.len dy.cap]) (World.drew dw) fun dB=>st ⟨b,3,none⟩ ([.slice dA.a dA.len dA.cap]) dB fun dC=>ldA (qaa) ⟨b,0,none⟩ (World.drew dC) fun (dD:Bool×Sl×Sl×Sl)=>ldA (qaa) ⟨d,0,none⟩ (World.drew dC) fun (dE:Bool×Sl×Sl×Sl)=>st ⟨f,0,none⟩ (HL.mk qaa dD) (World.drew dC) fun dF=>held [fun dG=>cellsAt dG ⟨d,0,none⟩ 0 (HL.mk qaa dE)] dF<|st ⟨h,0,none⟩ (HL.mk qaa dE) dF fun dH=>ldA (qaa) ⟨f,0,none⟩ dH fun (dI:Bool×Sl×Sl×Sl)=>ldA (qaa) ⟨h,0,none⟩ dH fun (dJ:Bool×Sl×Sl×Sl)=>K ((dI,dJ,cl)) dH)/\(ld .slice ⟨d,1,none⟩ (World.drew i) fun dL=>ld .slice ⟨d,3,none⟩ (World.drew i) fun dM=>ld .slice ⟨b,3,none⟩ (World.drew i) fun dN=>idx dN (IntKind.wrap .i64 (IntKind.wrap .i64 ((↑j.len:Int)-1)+1)) 1 fun dO=>ld (.int .u32) dO (World.drew i) fun (dP:Int)=>new (Obj.cells #[.int .u32 dP] 37) (World.drew i) fun dQ dR=>held [fun dS=>World.cell? dS ⟨d,3,none⟩=some (.slice dM.a dM.len dM.cap),fun dT=>World.cell? dT ⟨d,1,none⟩=some (.slice dL.a dL.len dL.cap)] dR<|new (Obj.cells #[.slice key.a key.len key.cap] 23) dR fun dU dV=>held [fun dW=>World.cell? dW dO=some (.int .u32 dP),fun dX=>World.cell? dX ⟨b,3,none⟩=some (.slice dN.a dN.len dN.cap),fun dY=>World.cell? dY ⟨d,3,none⟩=some (.slice dM.a dM.len dM.cap),fun dZ=>World.cell? dZ ⟨d,1,none⟩=some (.slice dL.a dL.len dL.cap)] dV<|call Tryz.prog 138 ([.slice dL.a dL.len dL.cap,.int .i64 0,.slice (some ⟨dU,0,none⟩) 1 1]) ([.one .slice]) dV fun ea eb=>held [fun ec=>World.cell? ec dO=some (.int .u32 dP),fun ed=>World.cell? ed ⟨b,3,none⟩=some (.slice dN.a dN.len dN.cap),fun ee=>World.cell? ee ⟨d,3,none⟩=some (.slice dM.a dM.len dM.cap)] eb<|call Tryz.prog 140 ([.slice dM.a dM.len dM.cap,.int .i64 0,.slice (some ⟨dQ,0,none⟩) 1 1]) ([.one .slice]) eb fun ef eg=>st ⟨d,1,none⟩ ([.slice ea.a ea.len ea.cap]) eg fun eh=>st ⟨d,3,none⟩ ([.slice ef.a ef.len ef.cap]) eh fun ei=>ld .slice ⟨b,1,none⟩ (World.drew ei) fun ej=>slc ej none (some (IntKind.wrap .i64 ((↑j.len:Int)-1))) none 1 fun ek=>ld .slice ⟨b,3,none⟩ (World.drew ei) fun el=>slc el none (some (IntKind.wrap .i64 (IntKind.wrap .i64 ((↑j.len:Int)-1)+1))) none 1 fun em=>st ⟨b,1,none⟩ ([.slice ek.a ek.len ek.cap]) (World.drew ei) fun en=>st ⟨b,3,none⟩ ([.slice em.a em.len em.cap]) en fun eo=>ldA (qaa) ⟨b,0,none⟩ (World.drew eo) fun (ep:Bool×Sl×Sl×Sl)=>ldA (qaa) ⟨d,0,none⟩ (World.drew eo) fun (eq:Bool×Sl×Sl×Sl)=>st ⟨f,0,none⟩ (HL.mk qaa ep) (World.drew eo) fun er=>held [fun es=>cellsAt es ⟨d,0,none⟩ 0 (HL.mk qaa eq)] er<|st ⟨h,0,none⟩ (HL.mk qaa eq) er fun et=>ldA (qaa) ⟨f,0,none⟩ et fun (eu:Bool×Sl×Sl×Sl)=>ldA (qaa) ⟨h,0,none⟩ et fun (ev:Bool×Sl×Sl×Sl)=>K ((eu,ev,cl)) et)))
def qqq:List Ann:=[.n,.n,.n,.n,.n,.o [[0,1,2,3,4,5,6,9,10,11,12,13,14,15,7,8,18,16,17,19,20,21],[0,1,2,3,4,5,6,9,10,11,12,13,14,15,7,16,8,18,17,19,20,21],[0,1,2,3,4,5,6,9,10,11,12,13,14,15,16,7,8,18,17,19,20,21]],.n,.o [[0,1,2,3,4,5,6,7,8,9,10,11]],.n,.o [[0,1,2,3,4,5,6,7,8]],.n,.n,.o [[0,1,2,5,6,7,8,9,10,11,12,3,4,15,13,14,16,17,18],[0,1,2,5,6,7,8,9,10,11,12,3,13,4,15,14,16,17,18],[0,1,2,5,6,7,8,9,10,11,12,13,3,4,15,14,16,17,18]],.n,.o [[0,1,2,3,4,5,6,7,8,9,10,11,12]],.n,.o [[0,1,2,3,4,5]]]
theorem qnP {left0 left1 left2 left3 right0 right1 right2 right3 key w K} (hF:qjx left0 left1 left2 left3 right0 right1 right2 right3 key K w):call Tryz.prog 180 [.agg #[.bool left0,.slice left1.a left1.len left1.cap,.slice left2.a left2.len left2.cap,.slice left3.a left3.len left3.cap],.agg #[.bool right0,.slice right1.a right1.len right1.cap,.slice right2.a right2.len right2.cap,.slice right3.a right3.len right3.cap],.slice key.a key.len key.cap] [.agg [.bool,.slice,.slice,.slice],.agg [.bool,.slice,.slice,.slice],.one .slice] w K:=qad (an:=qqq) Tryz.func180 hF
def qkm (left0:Bool) (left1:Sl) (left2:Sl) (left3:Sl) (right0:Bool) (right1:Sl) (right2:Sl) (right3:Sl) (key:Sl) (K:((Bool×Sl×Sl×Sl)×(Bool×Sl×Sl×Sl)×Sl)->World->Prop) (w:World):Prop:=new (Obj.cells #[.bool left0,.slice left1.a left1.len left1.cap,.slice left2.a left2.len left2.cap,.slice left3.a left3.len left3.cap] 143) w fun b c=>new (Obj.cells #[.bool right0,.slice right1.a right1.len right1.cap,.slice right2.a right2.len right2.cap,.slice right3.a right3.len right3.cap] 143) c fun d e=>new (Obj.cells #[.bool false,.slice none 0 0,.slice none 0 0,.slice none 0 0] 143) e fun f g=>new (Obj.cells #[.bool false,.slice none 0 0,.slice none 0 0,.slice none 0 0] 143) g fun h i=>ld .bool ⟨b,0,none⟩ i fun (j:Bool)=>cond j ((ld .slice ⟨b,1,none⟩ (World.drew i) fun k=>ld .slice ⟨d,1,none⟩ (World.drew i) fun l=>idx l 0 1 fun m=>ld .slice m (World.drew i) fun n=>ld .slice ⟨b,2,none⟩ (World.drew i) fun o=>ld .slice ⟨d,2,none⟩ (World.drew i) fun p=>idx p 0 1 fun q=>ld .slice q (World.drew i) fun r=>new (Obj.cells #[.slice n.a n.len n.cap] 23) (World.drew i) fun s t=>held [fun u=>World.cell? u q=some (.slice r.a r.len r.cap),fun v=>World.cell? v ⟨d,2,none⟩=some (.slice p.a p.len p.cap),fun x=>World.cell? x ⟨b,2,none⟩=some (.slice o.a o.len o.cap),fun y=>World.cell? y ⟨b,1,none⟩=some (.slice k.a k.len k.cap)] t<|run [.one .slice] ((Builtin.append_ (#[22,22]) 22 (#[.slice k.a k.len k.cap,.slice (some ⟨s,0,none⟩) 1 1])).run Tryz.prog t) fun z A=>held [fun B=>World.cell? B q=some (.slice r.a r.len r.cap),fun C=>World.cell? C ⟨d,2,none⟩=some (.slice p.a p.len p.cap),fun D=>World.cell? D ⟨b,2,none⟩=some (.slice o.a o.len o.cap)] A<|new (Obj.cells #[.slice r.a r.len r.cap] 23) A fun E F=>held [fun G=>World.cell? G ⟨b,2,none⟩=some (.slice o.a o.len o.cap),fun H=>World.cell? H m=some (.slice n.a n.len n.cap),fun I=>World.cell? I ⟨d,1,none⟩=some (.slice l.a l.len l.cap),fun J=>World.cell? J ⟨b,1,none⟩=some (.slice k.a k.len k.cap)] F<|run [.one .slice] ((Builtin.append_ (#[22,22]) 22 (#[.slice o.a o.len o.cap,.slice (some ⟨E,0,none⟩) 1 1])).run Tryz.prog F) fun L M=>st ⟨b,1,none⟩ ([.slice z.a z.len z.cap]) M fun N=>st ⟨b,2,none⟩ ([.slice L.a L.len L.cap]) N fun O=>ld .slice ⟨d,1,none⟩ (World.drew O) fun P=>slc P (some 1) none none 1 fun Q=>ld .slice ⟨d,2,none⟩ (World.drew O) fun R=>slc R (some 1) none none 1 fun S=>st ⟨d,1,none⟩ ([.slice Q.a Q.len Q.cap]) (World.drew O) fun T=>st ⟨d,2,none⟩ ([.slice S.a S.len S.cap]) T fun U=>ldA (qaa) ⟨b,0,none⟩ (World.drew U) fun (V:Bool×Sl×Sl×Sl)=>ldA (qaa) ⟨d,0,none⟩ (World.drew U) fun (W:Bool×Sl×Sl×Sl)=>ld .slice ⟨d,1,none⟩ (World.drew U) fun X=>idx X 0 1 fun Y=>ld .slice Y (World.drew U) fun Z=>st ⟨f,0,none⟩ (HL.mk qaa V) (World.drew U) fun aa=>held [fun ab=>World.cell? ab Y=some (.slice Z.a Z.len Z.cap),fun ac=>World.cell? ac ⟨d,1,none⟩=some (.slice X.a X.len X.cap),fun ad=>cellsAt ad ⟨d,0,none⟩ 0 (HL.mk qaa W)] aa<|st ⟨h,0,none⟩ (HL.mk qaa W) aa fun ae=>held [fun af=>World.cell? af Y=some (.slice Z.a Z.len Z.cap),fun ag=>World.cell? ag ⟨d,1,none⟩=some (.slice X.a X.len X.cap)] ae<|ldA (qaa) ⟨f,0,none⟩ ae fun (ah:Bool×Sl×Sl×Sl)=>ldA (qaa) ⟨h,0,none⟩ ae fun (ai:Bool×Sl×Sl×Sl)=>K ((ah,ai,Z)) ae)/\((ld .slice ⟨b,1,none⟩ (World.drew i) fun aj=>ld .slice ⟨d,1,none⟩ (World.drew i) fun ak=>idx ak 0 1 fun al=>ld .slice al (World.drew i) fun am=>ld .slice ⟨b,2,none⟩ (World.drew i) fun an=>ld .slice ⟨d,2,none⟩ (World.drew i) fun ao=>idx ao 0 1 fun ap=>ld .slice ap (World.drew i) fun aq=>new (Obj.cells #[.slice am.a am.len am.cap] 23) (World.drew i) fun ar au=>held [fun av=>World.cell? av ap=some (.slice aq.a aq.len aq.cap),fun aw=>World.cell? aw ⟨d,2,none⟩=some (.slice ao.a ao.len ao.cap),fun ax=>World.cell? ax ⟨b,2,none⟩=some (.slice an.a an.len an.cap),fun ay=>World.cell? ay ⟨b,1,none⟩=some (.slice aj.a aj.len aj.cap)] au<|new (Obj.cells #[.slice aq.a aq.len aq.cap] 23) au fun az aA=>held [fun aB=>World.cell? aB ⟨b,2,none⟩=some (.slice an.a an.len an.cap),fun aC=>World.cell? aC al=some (.slice am.a am.len am.cap),fun aD=>World.cell? aD ⟨d,1,none⟩=some (.slice ak.a ak.len ak.cap),fun aE=>World.cell? aE ⟨b,1,none⟩=some (.slice aj.a aj.len aj.cap)] aA<|run [.one .slice] ((Builtin.append_ (#[22,22]) 22 (#[.slice aj.a aj.len aj.cap,.slice (some ⟨ar,0,none⟩) 1 1])).run Tryz.prog aA) fun aF aG=>held [fun aH=>World.cell? aH ap=some (.slice aq.a aq.len aq.cap),fun aI=>World.cell? aI ⟨d,2,none⟩=some (.slice ao.a ao.len ao.cap),fun aJ=>World.cell? aJ ⟨b,2,none⟩=some (.slice an.a an.len an.cap)] aG<|run [.one .slice] ((Builtin.append_ (#[22,22]) 22 (#[.slice an.a an.len an.cap,.slice (some ⟨az,0,none⟩) 1 1])).run Tryz.prog aG) fun aL aM=>st ⟨b,1,none⟩ ([.slice aF.a aF.len aF.cap]) aM fun aN=>st ⟨b,2,none⟩ ([.slice aL.a aL.len aL.cap]) aN fun aO=>ld .slice ⟨d,1,none⟩ (World.drew aO) fun aP=>slc aP (some 1) none none 1 fun aQ=>ld .slice ⟨d,2,none⟩ (World.drew aO) fun aR=>slc aR (some 1) none none 1 fun aS=>st ⟨d,1,none⟩ ([.slice aQ.a aQ.len aQ.cap]) (World.drew aO) fun aT=>st ⟨d,2,none⟩ ([.slice aS.a aS.len aS.cap]) aT fun aU=>ldA (qaa) ⟨b,0,none⟩ (World.drew aU) fun (aV:Bool×Sl×Sl×Sl)=>ldA (qaa) ⟨d,0,none⟩ (World.drew aU) fun (aW:Bool×Sl×Sl×Sl)=>ld .slice ⟨d,1,none⟩ (World.drew aU) fun aX=>idx aX 0 1 fun aY=>ld .slice aY (World.drew aU) fun aZ=>st ⟨f,0,none⟩ (HL.mk qaa aV) (World.drew aU) fun ba=>held [fun bb=>World.cell? bb aY=some (.slice aZ.a aZ.len aZ.cap),fun bc=>World.cell? bc ⟨d,1,none⟩=some (.slice aX.a aX.len aX.cap),fun bd=>cellsAt bd ⟨d,0,none⟩ 0 (HL.mk qaa aW)] ba<|st ⟨h,0,none⟩ (HL.mk qaa aW) ba fun be=>held [fun bf=>World.cell? bf aY=some (.slice aZ.a aZ.len aZ.cap),fun bg=>World.cell? bg ⟨d,1,none⟩=some (.slice aX.a aX.len aX.cap)] be<|ldA (qaa) ⟨f,0,none⟩ be fun (bh:Bool×Sl×Sl×Sl)=>ldA (qaa) ⟨h,0,none⟩ be fun (bi:Bool×Sl×Sl×Sl)=>K ((bh,bi,aZ)) be)/\(ld .slice ⟨b,1,none⟩ (World.drew i) fun bj=>ld .slice ⟨d,1,none⟩ (World.drew i) fun bk=>idx bk 0 1 fun bl=>ld .slice bl (World.drew i) fun bm=>ld .slice ⟨b,2,none⟩ (World.drew i) fun bn=>ld .slice ⟨d,2,none⟩ (World.drew i) fun bo=>idx bo 0 1 fun bp=>ld .slice bp (World.drew i) fun bq=>new (Obj.cells #[.slice bq.a bq.len bq.cap] 23) (World.drew i) fun br bs=>held [fun bt=>World.cell? bt ⟨b,2,none⟩=some (.slice bn.a bn.len bn.cap),fun bu=>World.cell? bu bl=some (.slice bm.a bm.len bm.cap),fun bv=>World.cell? bv ⟨d,1,none⟩=some (.slice bk.a bk.len bk.cap),fun bw=>World.cell? bw ⟨b,1,none⟩=some (.slice bj.a bj.len bj.cap)] bs<|new (Obj.cells #[.slice bm.a bm.len bm.cap] 23) bs fun bx bz=>held [fun bA=>World.cell? bA bp=some (.slice bq.a bq.len bq.cap),fun bB=>World.cell? bB ⟨d,2,none⟩=some (.slice bo.a bo.len bo.cap),fun bC=>World.cell? bC ⟨b,2,none⟩=some (.slice bn.a bn.len bn.cap),fun bD=>World.cell? bD ⟨b,1,none⟩=some (.slice bj.a bj.len bj.cap)] bz<|run [.one .slice] ((Builtin.append_ (#[22,22]) 22 (#[.slice bj.a bj.len bj.cap,.slice (some ⟨bx,0,none⟩) 1 1])).run Tryz.prog bz) fun bE bF=>held [fun bG=>World.cell? bG bp=some (.slice bq.a bq.len bq.cap),fun bH=>World.cell? bH ⟨d,2,none⟩=some (.slice bo.a bo.len bo.cap),fun bI=>World.cell? bI ⟨b,2,none⟩=some (.slice bn.a bn.len bn.cap)] bF<|run [.one .slice] ((Builtin.append_ (#[22,22]) 22 (#[.slice bn.a bn.len bn.cap,.slice (some ⟨br,0,none⟩) 1 1])).run Tryz.prog bF) fun bJ bL=>st ⟨b,1,none⟩ ([.slice bE.a bE.len bE.cap]) bL fun bM=>st ⟨b,2,none⟩ ([.slice bJ.a bJ.len bJ.cap]) bM fun bN=>ld .slice ⟨d,1,none⟩ (World.drew bN) fun bO=>slc bO (some 1) none none 1 fun bP=>ld .slice ⟨d,2,none⟩ (World.drew bN) fun bQ=>slc bQ (some 1) none none 1 fun bR=>st ⟨d,1,none⟩ ([.slice bP.a bP.len bP.cap]) (World.drew bN) fun bS=>st ⟨d,2,none⟩ ([.slice bR.a bR.len bR.cap]) bS fun bT=>ldA (qaa) ⟨b,0,none⟩ (World.drew bT) fun (bU:Bool×Sl×Sl×Sl)=>ldA (qaa) ⟨d,0,none⟩ (World.drew bT) fun (bV:Bool×Sl×Sl×Sl)=>ld .slice ⟨d,1,none⟩ (World.drew bT) fun bW=>idx bW 0 1 fun bX=>ld .slice bX (World.drew bT) fun bY=>st ⟨f,0,none⟩ (HL.mk qaa bU) (World.drew bT) fun bZ=>held [fun ca=>World.cell? ca bX=some (.slice bY.a bY.len bY.cap),fun cb=>World.cell? cb ⟨d,1,none⟩=some (.slice bW.a bW.len bW.cap),fun cc=>cellsAt cc ⟨d,0,none⟩ 0 (HL.mk qaa bV)] bZ<|st ⟨h,0,none⟩ (HL.mk qaa bV) bZ fun cd=>held [fun ce=>World.cell? ce bX=some (.slice bY.a bY.len bY.cap),fun cf=>World.cell? cf ⟨d,1,none⟩=some (.slice bW.a bW.len bW.cap)] cd<|ldA (qaa) ⟨f,0,none⟩ cd fun (cg:Bool×Sl×Sl×Sl)=>ldA (qaa) ⟨h,0,none⟩ cd fun (ch:Bool×Sl×Sl×Sl)=>K ((cg,ch,bY)) cd))) (ld .slice ⟨d,1,none⟩ i fun ci=>idx ci 0 1 fun cj=>ld .slice cj i fun ck=>(ld .slice ⟨b,1,none⟩ (World.drew i) fun cl=>ld .slice ⟨b,3,none⟩ (World.drew i) fun cm=>ld .slice ⟨d,3,none⟩ (World.drew i) fun cn=>idx cn 0 1 fun co=>ld (.int .u32) co (World.drew i) fun (cp:Int)=>new (Obj.cells #[.slice key.a key.len key.cap] 23) (World.drew i) fun cq cr=>held [fun cs=>World.cell? cs co=some (.int .u32 cp),fun ct=>World.cell? ct ⟨d,3,none⟩=some (.slice cn.a cn.len cn.cap),fun cu=>World.cell? cu ⟨b,3,none⟩=some (.slice cm.a cm.len cm.cap),fun cv=>World.cell? cv ⟨b,1,none⟩=some (.slice cl.a cl.len cl.cap)] cr<|run [.one .slice] ((Builtin.append_ (#[22,22]) 22 (#[.slice cl.a cl.len cl.cap,.slice (some ⟨cq,0,none⟩) 1 1])).run Tryz.prog cr) fun cw cx=>held [fun cy=>World.cell? cy co=some (.int .u32 cp),fun cz=>World.cell? cz ⟨d,3,none⟩=some (.slice cn.a cn.len cn.cap),fun cA=>World.cell? cA ⟨b,3,none⟩=some (.slice cm.a cm.len cm.cap)] cx<|new (Obj.cells #[.int .u32 cp] 37) cx fun cB cC=>held [fun cD=>World.cell? cD ⟨b,3,none⟩=some (.slice cm.a cm.len cm.cap),fun cE=>World.cell? cE ⟨b,1,none⟩=some (.slice cl.a cl.len cl.cap)] cC<|run [.one .slice] ((Builtin.append_ (#[92,92]) 92 (#[.slice cm.a cm.len cm.cap,.slice (some ⟨cB,0,none⟩) 1 1])).run Tryz.prog cC) fun cF cG=>st ⟨b,1,none⟩ ([.slice cw.a cw.len cw.cap]) cG fun cH=>st ⟨b,3,none⟩ ([.slice cF.a cF.len cF.cap]) cH fun cI=>ld .slice ⟨d,1,none⟩ (World.drew cI) fun cJ=>slc cJ (some 1) none none 1 fun cL=>ld .slice ⟨d,3,none⟩ (World.drew cI) fun cM=>slc cM (some 1) none none 1 fun cN=>st ⟨d,1,none⟩ ([.slice cL.a cL.len cL.cap]) (World.drew cI) fun cO=>st ⟨d,3,none⟩ ([.slice cN.a cN.len cN.cap]) cO fun cP=>ldA (qaa) ⟨b,0,none⟩ (World.drew cP) fun (cQ:Bool×Sl×Sl×Sl)=>ldA (qaa) ⟨d,0,none⟩ (World.drew cP) fun (cR:Bool×Sl×Sl×Sl)=>st ⟨f,0,none⟩ (HL.mk qaa cQ) (World.drew cP) fun cS=>held [fun cT=>cellsAt cT ⟨d,0,none⟩ 0 (HL.mk qaa cR)] cS<|st ⟨h,0,none⟩ (HL.mk qaa cR) cS fun cU=>ldA (qaa) ⟨f,0,none⟩ cU fun (cV:Bool×Sl×Sl×Sl)=>ldA (qaa) ⟨h,0,none⟩ cU fun (cW:Bool×Sl×Sl×Sl)=>K ((cV,cW,ck)) cU)/\((ld .slice ⟨b,1,none⟩ (World.drew i) fun cX=>ld .slice ⟨b,3,none⟩ (World.drew i) fun cY=>ld .slice ⟨d,3,none⟩ (World.drew i) fun cZ=>idx cZ 0 1 fun da=>ld (.int .u32) da (World.drew i) fun (db:Int)=>new (Obj.cells #[.slice key.a key.len key.cap] 23) (World.drew i) fun dc dd=>held [fun de=>World.cell? de da=some (.int .u32 db),fun df=>World.cell? df ⟨d,3,none⟩=some (.slice cZ.a cZ.len cZ.cap),fun dg=>World.cell? dg ⟨b,3,none⟩=some (.slice cY.a cY.len cY.cap),fun dh=>World.cell? dh ⟨b,1,none⟩=some (.slice cX.a cX.len cX.cap)] dd<|new (Obj.cells #[.int .u32 db] 37) dd fun di dj=>held [fun dk=>World.cell? dk ⟨b,3,none⟩=some (.slice cY.a cY.len cY.cap),fun dl=>World.cell? dl ⟨b,1,none⟩=some (.slice cX.a cX.len cX.cap)] dj<|run [.one .slice] ((Builtin.append_ (#[22,22]) 22 (#[.slice cX.a cX.len cX.cap,.slice (some ⟨dc,0,none⟩) 1 1])).run Tryz.prog dj) fun dm dn=>held [fun dp=>World.cell? dp da=some (.int .u32 db),fun dq=>World.cell? dq ⟨d,3,none⟩=some (.slice cZ.a cZ.len cZ.cap),fun dr=>World.cell? dr ⟨b,3,none⟩=some (.slice cY.a cY.len cY.cap)] dn<|run [.one .slice] ((Builtin.append_ (#[92,92]) 92 (#[.slice cY.a cY.len cY.cap,.slice (some ⟨di,0,none⟩) 1 1])).run Tryz.prog dn) fun ds dt=>st ⟨b,1,none⟩ ([.slice dm.a dm.len dm.cap]) dt fun du=>st ⟨b,3,none⟩ ([.slice ds.a ds.len ds.cap]) du fun dv=>ld .slice ⟨d,1,none⟩ (World.drew dv) fun dw=>slc dw (some 1) none none 1 fun dx=>ld .slice ⟨d,3,none⟩ (World.drew dv) fun dy=>slc dy (some 1) none none 1 fun dz=>st ⟨d,1,none⟩ ([.slice dx.a dx.len dx.cap]) (World.drew dv) fun dA=>st ⟨d,3,none⟩ ([.slice dz.a dz.len dz.cap]) dA fun dB=>ldA (qaa) ⟨b,0,none⟩ (World.drew dB) fun (dC:Bool×Sl×Sl×Sl)=>ldA (qaa) ⟨d,0,none⟩ (World.drew dB) fun (dD:Bool×Sl×Sl×Sl)=>st ⟨f,0,none⟩ (HL.mk qaa dC) (World.drew dB) fun dE=>held [fun dF=>cellsAt dF ⟨d,0,none⟩ 0 (HL.mk qaa dD)] dE<|st ⟨h,0,none⟩ (HL.mk qaa dD) dE fun dG=>ldA (qaa) ⟨f,0,none⟩ dG fun (dH:Bool×Sl×Sl×Sl)=>ldA (qaa) ⟨h,0,none⟩ dG fun (dI:Bool×Sl×Sl×Sl)=>K ((dH,dI,ck)) dG)/\(ld .slice ⟨b,1,none⟩ (World.drew i) fun dJ=>ld .slice ⟨b,3,none⟩ (World.drew i) fun dL=>ld .slice ⟨d,3,none⟩ (World.drew i) fun dM=>idx dM 0 1 fun dN=>ld (.int .u32) dN (World.drew i) fun (dO:Int)=>new (Obj.cells #[.int .u32 dO] 37) (World.drew i) fun dP dQ=>held [fun dR=>World.cell? dR ⟨b,3,none⟩=some (.slice dL.a dL.len dL.cap),fun dS=>World.cell? dS ⟨b,1,none⟩=some (.slice dJ.a dJ.len dJ.cap)] dQ<|new (Obj.cells #[.slice key.a key.len key.cap] 23) dQ fun dT dU=>held [fun dV=>World.cell? dV dN=some (.int .u32 dO),fun dW=>World.cell? dW ⟨d,3,none⟩=some (.slice dM.a dM.len dM.cap),fun dX=>World.cell? dX ⟨b,3,none⟩=some (.slice dL.a dL.len dL.cap),fun dY=>World.cell? dY ⟨b,1,none⟩=some (.slice dJ.a dJ.len dJ.cap)] dU<|run [.one .slice] ((Builtin.append_ (#[22,22]) 22 (#[.slice dJ.a dJ.len dJ.cap,.slice (some ⟨dT,0,none⟩) 1 1])).run Tryz.prog dU) fun dZ ea=>held [fun eb=>World.cell? eb dN=some (.int .u32 dO),fun ec=>World.cell? ec ⟨d,3,none⟩=some (.slice dM.a dM.len dM.cap),fun ed=>World.cell? ed ⟨b,3,none⟩=some (.slice dL.a dL.len dL.cap)] ea<|run [.one .slice] ((Builtin.append_ (#[92,92]) 92 (#[.slice dL.a dL.len dL.cap,.slice (some ⟨dP,0,none⟩) 1 1])).run Tryz.prog ea) fun ee ef=>st ⟨b,1,none⟩ ([.slice dZ.a dZ.len dZ.cap]) ef fun eg=>st ⟨b,3,none⟩ ([.slice ee.a ee.len ee.cap]) eg fun eh=>ld .slice ⟨d,1,none⟩ (World.drew eh) fun ei=>slc ei (some 1) none none 1 fun ej=>ld .slice ⟨d,3,none⟩ (World.drew eh) fun ek=>slc ek (some 1) none none 1 fun el=>st ⟨d,1,none⟩ ([.slice ej.a ej.len ej.cap]) (World.drew eh) fun em=>st ⟨d,3,none⟩ ([.slice el.a el.len el.cap]) em fun en=>ldA (qaa) ⟨b,0,none⟩ (World.drew en) fun (eo:Bool×Sl×Sl×Sl)=>ldA (qaa) ⟨d,0,none⟩ (World.drew en) fun (ep:Bool×Sl×Sl×Sl)=>st ⟨f,0,none⟩ (HL.mk qaa eo) (World.drew en) fun eq=>held [fun er=>cellsAt er ⟨d,0,none⟩ 0 (HL.mk qaa ep)] eq<|st ⟨h,0,none⟩ (HL.mk qaa ep) eq fun es=>ldA (qaa) ⟨f,0,none⟩ es fun (et:Bool×Sl×Sl×Sl)=>ldA (qaa) ⟨h,0,none⟩ es fun (eu:Bool×Sl×Sl×Sl)=>K ((et,eu,ck)) es)))
def qp4:List Ann:=[.n,.n,.n,.n,.o [[0,1,2,3,4,5,8,9,10,11,12,13,6,7,16,14,15,17,18,19],[0,1,2,3,4,5,8,9,10,11,12,13,6,14,7,16,15,17,18,19],[0,1,2,3,4,5,8,9,10,11,12,13,14,6,7,16,15,17,18,19]],.n,.o [[0,1,2,3,4,5,6,7,8,9]],.n,.o [[0,1,2,3,4,5,6,7,8]],.n,.n,.o [[0,1,2,5,6,7,8,9,10,3,4,13,11,12,14,15,16],[0,1,2,5,6,7,8,9,10,3,11,4,13,12,14,15,16],[0,1,2,5,6,7,8,9,10,11,3,4,13,12,14,15,16]],.n,.o [[0,1,2,3,4,5,6,7,8,9]],.n,.o [[0,1,2,3,4,5]]]
theorem qnO {left0 left1 left2 left3 right0 right1 right2 right3 key w K} (hF:qkm left0 left1 left2 left3 right0 right1 right2 right3 key K w):call Tryz.prog 181 [.agg #[.bool left0,.slice left1.a left1.len left1.cap,.slice left2.a left2.len left2.cap,.slice left3.a left3.len left3.cap],.agg #[.bool right0,.slice right1.a right1.len right1.cap,.slice right2.a right2.len right2.cap,.slice right3.a right3.len right3.cap],.slice key.a key.len key.cap] [.agg [.bool,.slice,.slice,.slice],.agg [.bool,.slice,.slice,.slice],.one .slice] w K:=qad (an:=qp4) Tryz.func181 hF
def qlV (p:Option Addr) (t:Int) (key:Sl) (K:(Sl×Int)->World->Prop) (w:World):Prop:=call Tryz.prog 59 ([.pointer p,.int .i64 t,.slice key.a key.len key.cap]) ([.agg qaf,.one (.int .i64)]) w fun (b:(Int×Int×Int×Int×Option Addr×Int)×Int) c=>new (Obj.cells #[.int .i64 0,.int .i64 0,.int .i64 0,.int .i64 0,.pointer none,.int .i64 0] 114) c fun d e=>st ⟨d,0,none⟩ (HL.mk qaf b.fst) e fun f=>cond (!b.snd==0) (K (({ a:=none,len:=0,cap:=0 },b.snd)) f) (call Tryz.prog 19 ([.pointer p,.int .i64 t]) ([.agg qcd]) f fun (g:Int×Int×Int) h=>join (PUnit) (fun i=>loop (Int) (fun j (k:Int) l=>cond (!k==0) (ldA (qaf) ⟨d,0,none⟩ l fun (m:Int×Int×Int×Int×Option Addr×Int)=>call Tryz.prog 82 ([.agg (List.toArray (HL.mk qaf m)),.int .u32 k]) ([.agg qaa,.one (.int .i64)]) l fun (n:(Bool×Sl×Sl×Sl)×Int) o=>new (Obj.cells #[.bool false,.slice none 0 0,.slice none 0 0,.slice none 0 0] 143) o fun q r=>st ⟨q,0,none⟩ (HL.mk qaa n.fst) r fun s=>cond (!n.snd==0) (K (({ a:=none,len:=0,cap:=0 },n.snd)) s) (ld .bool ⟨q,0,none⟩ s fun (u:Bool)=>cond (!u) (ld .slice ⟨q,3,none⟩ (World.drew s) fun v=>ldA (qaa) ⟨q,0,none⟩ (World.drew s) fun (x:Bool×Sl×Sl×Sl)=>call Tryz.prog 83 ([.agg (List.toArray (HL.mk qaa x)),.slice key.a key.len key.cap]) ([.one (.int .i64)]) (World.drew s) fun (y:Int) z=>held [fun A=>World.cell? A ⟨q,3,none⟩=some (.slice v.a v.len v.cap)] z<|idx v y 1 fun B=>ld (.int .u32) B z fun (C:Int)=>j C z) (ldA (qaa) ⟨q,0,none⟩ s fun (D:Bool×Sl×Sl×Sl)=>call Tryz.prog 84 ([.agg (List.toArray (HL.mk qaa D)),.slice key.a key.len key.cap]) ([.one (.int .i64),.one .bool]) s fun (E:Int×Bool) F=>cond E.snd (ld .slice ⟨q,2,none⟩ F fun G=>idx G E.fst 1 fun H=>ld .slice H F fun I=>call Tryz.prog 68 ([.slice I.a I.len I.cap]) ([.one .slice]) F fun J L=>K ((J,0)) L) (i () F)))) (i () l)) g.fst h) fun (M:PUnit) N=>K (({ a:=none,len:=0,cap:=0 },5)) N)
def qqN:List Ann:=[.n,.n,.n,.n,.n,.n,.j [],.l [(10,.one (.int .u32))],.n,.n,.n,.n,.n,.n,.n,.n,.n,.o [[0,1,2,3,4,5,6,7]],.n,.n,.n,.n,.n]
theorem qoC {p t key w K} (hF:qlV p t key K w):call Tryz.prog 41 [.pointer p,.int .i64 t,.slice key.a key.len key.cap] [.one .slice,.one (.int .i64)] w K:=qad (an:=qqN) Tryz.func41 hF
def qdJ (t:Int) (keys:Int) (K:Int->World->Prop) (w:World):Prop:=call Tryz.prog 63 ([.int .i64 t]) ([.one (.int .i64),.one (.int .i64)]) w fun (a:Int×Int) b=>join (Bool) (fun c=>cond (a.fst==0) (c true b) (c (keys==0) b)) fun (d:Bool) e=>cond d (K 0 e) (call Tryz.prog 64 ([.int .i64 a.fst,.int .i64 a.snd]) ([.one (.int .i64),.one (.int .i64)]) e fun (f:Int×Int) g=>chk (IntKind.wrap .u64 (IntKind.wrap .i64 (2*IntKind.wrap .i64 (Int.tdiv f.fst 2)))≠0)<|loop (Int×Int) (fun h (i:Int×Int) j=>cond (decide (i.snd>0)) (chk (IntKind.wrap .u64 (IntKind.wrap .i64 (Int.tdiv f.snd 2))≠0)<|h ((IntKind.wrap .i64 (i.fst+1),IntKind.wrap .u64 (Int.tdiv i.snd (IntKind.wrap .u64 (IntKind.wrap .i64 (Int.tdiv f.snd 2)))))) j) (K i.fst j)) ((1,IntKind.wrap .u64 (Int.tdiv keys (IntKind.wrap .u64 (IntKind.wrap .i64 (2*IntKind.wrap .i64 (Int.tdiv f.fst 2))))))) (World.drew g))
def qjZ:List Ann:=[.n,.n,.n,.j [(21,.one .bool)],.n,.n,.n,.o [[0,1,2,3,4,5,6,7]],.n,.l [(9,.one (.int .i64)),(10,.one (.int .u64))],.n,.n,.n,.n]
theorem qhR {t keys w K} (hF:qdJ t keys K w):call Tryz.prog 20 [.int .i64 t,.int .u64 keys] [.one (.int .i64)] w K:=qad (an:=qjZ) Tryz.func20 hF
def qb7  (K:Bool->World->Prop) (w:World):Prop:=call Tryz.prog 20 ([.int .i64 0,.int .u64 1]) ([.one (.int .i64)]) w fun (a:Int) b=>cond (a==1) (call Tryz.prog 20 ([.int .i64 0,.int .u64 3]) ([.one (.int .i64)]) b fun (c:Int) d=>cond (c==1) (call Tryz.prog 20 ([.int .i64 0,.int .u64 4]) ([.one (.int .i64)]) d fun (e:Int) f=>cond (e==2) (call Tryz.prog 20 ([.int .i64 0,.int .u64 47]) ([.one (.int .i64)]) f fun (g:Int) h=>cond (g==2) (call Tryz.prog 20 ([.int .i64 0,.int .u64 48]) ([.one (.int .i64)]) h fun (i:Int) j=>K (i==3) j) (K false h)) (K false f)) (K false d)) (K false b)
def qe5:List Ann:=[.n,.n]
theorem qeb {w K} (hF:qb7  K w):call Tryz.prog 13 [] [.one .bool] w K:=qad (an:=qe5) Tryz.func13 hF
def qbu (t:Int) (keys:Sl) (cuts:Sl) (K:Bool->World->Prop) (w:World):Prop:=join (Bool) (fun b=>cond (decide ((↑keys.len:Int)>150)) (b true w) (b (decide ((↑cuts.len:Int)>150)) w)) fun (c:Bool) d=>cond c (call Tryz.prog 13 [] ([.one .bool]) d fun (e:Bool) f=>K e f) (call Tryz.prog 14 ([.int .i64 900]) ([.one .ptr,.one .ptr]) d fun (g:Option Addr×Option Addr) h=>cond (Option.isNone g.snd) (K false h) (call Tryz.prog 15 ([.int .i64 (IntKind.wrap .i64 (Int.tmod t 8))]) ([.one (.int .i64),.one (.int .i64)]) h fun (i:Int×Int) j=>loop (Sl×Int) (fun k (l:Sl×Int) m=>cond (decide (l.snd<(↑keys.len:Int))) (join (Sl) (fun n=>idx keys l.snd 1 fun o=>ld .slice o m fun p=>cond (decide ((↑p.len:Int)>100)) (n l.fst m) (runQ [.one .str] (fun q=>(convert 23 9 (.slice p.a p.len p.cap)).run Tryz.prog q) m fun (r:ByteArray)=>call Tryz.prog 16 ([.string r,.int .i64 i.fst,.int .u8 0]) ([.one .str]) m fun (s:ByteArray) u=>mkS 5 ([.int .u8 0]) 1 1 i.snd i.snd u fun v x=>run [.one .slice] ((convert 9 23 (.string s)).run Tryz.prog x) fun y z=>call Tryz.prog 17 ([.pointer g.snd,.int .i64 (IntKind.wrap .i64 (Int.tmod t 8)),.slice y.a y.len y.cap,.slice v.a v.len v.cap]) ([.one (.int .i64)]) z fun (A:Int) B=>cond (!A==0) (K false B) (runQ [.one .str] (fun C=>(convert 23 9 (.slice v.a v.len v.cap)).run Tryz.prog C) B fun (D:ByteArray)=>call Tryz.prog 18 ([.slice l.fst.a l.fst.len l.fst.cap,.int .i64 (IntKind.wrap .i64 (Int.tmod t 8)),.string s,.string D]) ([.one .slice,.one (.int .i64)]) B fun (E:Sl×Int) F=>call Tryz.prog 19 ([.pointer g.snd,.int .i64 (IntKind.wrap .i64 (Int.tmod t 8))]) ([.agg qcd]) F fun (G:Int×Int×Int) H=>call Tryz.prog 20 ([.int .i64 (IntKind.wrap .i64 (Int.tmod t 8)),.int .u64 (IntKind.wrap .u64 (↑E.fst.len:Int))]) ([.one (.int .i64)]) H fun (I:Int) J=>cond (decide (IntKind.wrap .i64 G.snd.snd>I)) (K false J) (n E.fst J)))) fun L M=>k ((L,IntKind.wrap .i64 (l.snd+1))) M) (join (PUnit) (fun N=>loop (Sl×Int) (fun O (P:Sl×Int) Q=>cond (decide (P.snd<(↑cuts.len:Int))) (idx cuts P.snd 1 fun R=>ld (.int .u8) R Q fun (S:Int)=>cond ((↑P.fst.len:Int)==0) (N () Q) (chk ((↑P.fst.len:Int)≠0)<|idx P.fst (Int.tmod (IntKind.wrap .i64 S) (↑P.fst.len:Int)) 2 fun T=>ld .str T Q fun (U:ByteArray)=>run [.one .slice] ((convert 9 23 (.string U)).run Tryz.prog Q) fun V W=>call Tryz.prog 21 ([.pointer g.snd,.int .i64 (IntKind.wrap .i64 (Int.tmod t 8)),.slice V.a V.len V.cap]) ([.one (.int .i64)]) W fun (X:Int) Y=>cond (!X==0) (K false Y) (call Tryz.prog 22 ([.slice P.fst.a P.fst.len P.fst.cap,.int .i64 (IntKind.wrap .i64 (Int.tmod t 8)),.string U]) ([.one .slice,.one (.int .i64)]) Y fun (Z:Sl×Int) aa=>call Tryz.prog 19 ([.pointer g.snd,.int .i64 (IntKind.wrap .i64 (Int.tmod t 8))]) ([.agg qcd]) aa fun (ab:Int×Int×Int) ac=>call Tryz.prog 20 ([.int .i64 (IntKind.wrap .i64 (Int.tmod t 8)),.int .u64 (IntKind.wrap .u64 (↑Z.fst.len:Int))]) ([.one (.int .i64)]) ac fun (ad:Int) ae=>cond (decide (IntKind.wrap .i64 ab.snd.snd>ad)) (K false ae) (O ((Z.fst,IntKind.wrap .i64 (P.snd+1))) ae)))) (N () Q)) ((l.fst,0)) m) fun (af:PUnit) ag=>call Tryz.prog 13 [] ([.one .bool]) ag fun (ah:Bool) ai=>K ah ai)) (({ a:=none,len:=0,cap:=0 },0)) j))
def qcR:List Ann:=[.n,.n,.j [(27,.one .bool)],.n,.n,.n,.n,.n,.n,.n,.n,.n,.n,.l [(12,.one .slice),(45,.one (.int .i64))],.n,.n,.j [(12,.one .slice)],.n,.n,.n,.n,.n,.n,.n,.n,.n,.n,.n,.j [],.n,.l [(12,.one .slice),(88,.one (.int .i64))],.n,.n,.n,.n,.n,.n,.n,.n,.n,.n,.n,.n,.n,.n]
theorem qcr {t keys cuts w K} (hF:qbu t keys cuts K w):call Tryz.prog 3 [.int .u8 t,.slice keys.a keys.len keys.cap,.slice cuts.a cuts.len cuts.cap] [.one .bool] w K:=qad (an:=qcR) Tryz.func3 hF
def qck (blocks:Int) (K:((Option Addr)×(Option Addr))->World->Prop) (w:World):Prop:=call Tryz.prog 57 ([.int .i64 blocks]) ([.one .ptr,.one (.int .i64)]) w fun (a:Option Addr×Int) b=>join (Bool) (fun c=>cond (!a.snd==0) (c true b) (cond (Option.isNone a.fst) (c true b) (call Tryz.prog 58 ([.pointer a.fst]) ([.one (.int .i64)]) b fun (d:Int) e=>c (!d==0) e))) fun (f:Bool) g=>cond f (K ((none,none)) g) (call Tryz.prog 56 ([.pointer a.fst]) ([.one .ptr,.one (.int .i64)]) g fun (h:Option Addr×Int) i=>cond (!h.snd==0) (K ((none,none)) i) (K ((a.fst,h.fst)) i))
def qfZ:List Ann:=[.n,.n,.n,.j [(22,.one .bool)],.n,.n,.n,.n,.n,.n]
theorem qeG {blocks w K} (hF:qck blocks K w):call Tryz.prog 14 [.int .i64 blocks] [.one .ptr,.one .ptr] w K:=qad (an:=qfZ) Tryz.func14 hF
def qcj (t:Int) (K:(Int×Int)->World->Prop) (w:World):Prop:=cond (t==0) (K ((16,88)) w) (cond (t==1) (K ((16,108)) w) (cond (t==2) (K ((16,1)) w) (cond (t==3) (K ((16,16)) w) (join (Bool) (fun a=>cond (t==4) (a true w) (a (t==5) w)) fun (b:Bool) c=>cond b (K ((24,16)) c) (cond (t==6) (K ((24,65)) c) (cond (t==7) (K ((1,8)) c) (K ((0,0)) c)))))))
def qfe:List Ann:=[.n,.n,.n,.n,.n,.n,.n,.n,.n,.n,.n,.n,.n,.n,.j [(17,.one .bool)],.n,.n,.n,.n,.n,.n,.n,.n]
theorem qed {t w K} (hF:qcj t K w):call Tryz.prog 15 [.int .i64 t] [.one (.int .i64),.one (.int .i64)] w K:=qad (an:=qfe) Tryz.func15 hF
def qcF (l:Sl) (t:Int) (key:ByteArray) (value:ByteArray) (K:(Sl×Int)->World->Prop) (w:World):Prop:=call Tryz.prog 15 ([.int .i64 t]) ([.one (.int .i64),.one (.int .i64)]) w fun (b:Int×Int) c=>cond (b.fst==0) (K ((l,4)) c) (join (Bool) (fun d=>cond (!(↑(ByteArray.size key):Int)==b.fst) (d true c) (d (!(↑(ByteArray.size value):Int)==b.snd) c)) fun (e:Bool) f=>cond e (K ((l,1)) f) (new (Obj.cells #[] 44) f fun g h=>loop (Sl×Bool×Int) (fun i (j:Sl×Bool×Int) k=>cond (decide (j.snd.snd<(↑l.len:Int))) (join (Sl×Bool) (fun m=>idx l j.snd.snd 2 fun n=>ld .str n k fun (o:ByteArray)=>call Tryz.prog 34 ([.string o,.string key]) ([.one (.int .i64)]) k fun (p:Int) q=>join (Sl×Bool) (fun r=>join (Bool) (fun s=>cond (decide (p>=0)) (s (!j.snd.fst) q) (s false q)) fun (u:Bool) v=>cond u (new (Obj.cells #[.string key,.string value] 44) v fun x y=>run [.one .slice] ((Builtin.append_ (#[31,31]) 31 (#[.slice j.fst.a j.fst.len j.fst.cap,.slice (some ⟨x,0,none⟩) 1 1])).run Tryz.prog y) fun z A=>r ((z,true)) A) (r ((j.fst,j.snd.fst)) v)) fun (B:Sl×Bool) C=>cond (!p==0) (idx l j.snd.snd 2 fun D=>ldA ([.str,.str]) D C fun (E:ByteArray×ByteArray)=>new (Obj.cells #[.string E.fst,.string E.snd] 44) C fun F G=>run [.one .slice] ((Builtin.append_ (#[31,31]) 31 (#[.slice B.fst.a B.fst.len B.fst.cap,.slice (some ⟨F,0,none⟩) 1 1])).run Tryz.prog G) fun H I=>m ((H,B.snd)) I) (m B C)) fun (J:Sl×Bool) L=>i ((J.fst,J.snd,IntKind.wrap .i64 (j.snd.snd+1))) L) (join (Sl) (fun M=>cond (!j.snd.fst) (new (Obj.cells #[.string key,.string value] 44) k fun N O=>run [.one .slice] ((Builtin.append_ (#[31,31]) 31 (#[.slice j.fst.a j.fst.len j.fst.cap,.slice (some ⟨N,0,none⟩) 1 1])).run Tryz.prog O) fun P Q=>M P Q) (M j.fst k)) fun R S=>K ((R,0)) S)) (({ a:=some ⟨g,0,none⟩,len:=0,cap:=0 },false,0)) h))
def qgW:List Ann:=[.n,.n,.n,.n,.n,.n,.j [(33,.one .bool)],.n,.n,.n,.n,.n,.l [(12,.one .slice),(13,.one .bool),(14,.one (.int .i64))],.n,.n,.j [(12,.one .slice),(13,.one .bool)],.n,.j [(12,.one .slice),(13,.one .bool)],.j [(54,.one .bool)],.n,.n,.j [(12,.one .slice)],.n,.n]
theorem qfi {l t key value w K} (hF:qcF l t key value K w):call Tryz.prog 18 [.slice l.a l.len l.cap,.int .i64 t,.string key,.string value] [.one .slice,.one (.int .i64)] w K:=qad (an:=qgW) Tryz.func18 hF
def qcE (l:Sl) (t:Int) (key:ByteArray) (K:(Sl×Int)->World->Prop) (w:World):Prop:=call Tryz.prog 67 ([.slice l.a l.len l.cap,.int .i64 t,.string key]) ([.one .str,.one (.int .i64)]) w fun (b:ByteArray×Int) c=>cond (!b.snd==0) (K ((l,b.snd)) c) (new (Obj.cells #[] 44) c fun d e=>loop (Sl×Int) (fun f (g:Sl×Int) h=>cond (decide (g.snd<(↑l.len:Int))) (join (Sl) (fun i=>idx l g.snd 2 fun j=>ld .str j h fun (k:ByteArray)=>cond (!ByteArray.toList k==ByteArray.toList key) (idx l g.snd 2 fun m=>ldA ([.str,.str]) m h fun (n:ByteArray×ByteArray)=>new (Obj.cells #[.string n.fst,.string n.snd] 44) h fun o p=>run [.one .slice] ((Builtin.append_ (#[31,31]) 31 (#[.slice g.fst.a g.fst.len g.fst.cap,.slice (some ⟨o,0,none⟩) 1 1])).run Tryz.prog p) fun q r=>i q r) (i g.fst h)) fun s u=>f ((s,IntKind.wrap .i64 (g.snd+1))) u) (K ((g.fst,0)) h)) (({ a:=some ⟨d,0,none⟩,len:=0,cap:=0 },0)) e)
def qhb:List Ann:=[.n,.n,.n,.n,.n,.n,.n,.n,.l [(10,.one .slice),(11,.one (.int .i64))],.n,.n,.j [(10,.one .slice)],.n,.n]
theorem qfa {l t key w K} (hF:qcE l t key K w):call Tryz.prog 22 [.slice l.a l.len l.cap,.int .i64 t,.string key] [.one .slice,.one (.int .i64)] w K:=qad (an:=qhb) Tryz.func22 hF
def qcN (l:Sl) (t:Int) (key:ByteArray) (K:(ByteArray×Int)->World->Prop) (w:World):Prop:=call Tryz.prog 15 ([.int .i64 t]) ([.one (.int .i64),.one (.int .i64)]) w fun (a:Int×Int) b=>cond (a.fst==0) (K (({ data:=#[] },4)) b) (cond (!(↑(ByteArray.size key):Int)==a.fst) (K (({ data:=#[] },1)) b) (loop (Int) (fun c (d:Int) e=>cond (decide (d<(↑l.len:Int))) (idx l d 2 fun f=>ld .str f e fun (g:ByteArray)=>cond (ByteArray.toList g==ByteArray.toList key) (idx l d 2 fun h=>ld .str ⟨h.block,h.off+1,none⟩ e fun (i:ByteArray)=>K ((i,0)) e) (c (IntKind.wrap .i64 (d+1)) e)) (K (({ data:=#[] },5)) e)) 0 b))
def qg7:List Ann:=[.n,.n,.n,.n,.n,.n,.n,.n,.n,.n,.l [(10,.one (.int .i64))],.n,.n,.n,.n,.n,.n]
theorem qfr {l t key w K} (hF:qcN l t key K w):call Tryz.prog 67 [.slice l.a l.len l.cap,.int .i64 t,.string key] [.one .str,.one (.int .i64)] w K:=qad (an:=qg7) Tryz.func67 hF
def qbW (s:ByteArray) (n:Int) (by_:Int) (K:ByteArray->World->Prop) (w:World):Prop:=join (Int) (fun a=>cond (decide (n<0)) (a 0 w) (a n w)) fun (b:Int) c=>join (Int) (fun d=>cond (decide (b>24)) (d 24 c) (d b c)) fun (e:Int) f=>loop (ByteArray) (fun g (h:ByteArray) i=>cond (decide ((↑(ByteArray.size h):Int)<e)) (new (Obj.cells #[.int .u8 by_] 5) i fun j k=>runQ [.one .str] (fun l=>(convert 23 9 (.slice (some ⟨j,0,none⟩) 1 1)).run Tryz.prog l) k fun (m:ByteArray)=>chk ((↑(ByteArray.size h+ByteArray.size m):Int)<=IntKind.max IntKind.i64)<|g (h++m) k) (slcS h none (some e) fun (o:ByteArray)=>K o i)) s f
def qeJ:List Ann:=[.n,.j [(1,.one (.int .i64))],.n,.j [(1,.one (.int .i64))],.n,.n,.n,.l [(7,.one .str)],.n,.n,.n]
theorem qdB {s n by_ w K} (hF:qbW s n by_ K w):call Tryz.prog 16 [.string s,.int .i64 n,.int .u8 by_] [.one .str] w K:=qad (an:=qeJ) Tryz.func16 hF
def qcC (a:ByteArray) (b:ByteArray) (K:Int->World->Prop) (w:World):Prop:=loop (Int) (fun c (d:Int) e=>join (Bool) (fun f=>cond (decide (d<(↑(ByteArray.size a):Int))) (f (decide (d<(↑(ByteArray.size b):Int))) e) (f false e)) fun (g:Bool) h=>cond g (idxS a d fun (i:Int)=>idxS b d fun (j:Int)=>cond (decide (i<j)) (K (-1) (World.drew h)) (idxS a d fun (k:Int)=>idxS b d fun (l:Int)=>cond (decide (k>l)) (K 1 (World.drew (World.drew h))) (c (IntKind.wrap .i64 (d+1)) (World.drew (World.drew h))))) (cond (decide ((↑(ByteArray.size a):Int)<(↑(ByteArray.size b):Int))) (K (-1) h) (cond (decide ((↑(ByteArray.size a):Int)>(↑(ByteArray.size b):Int))) (K 1 h) (K 0 h)))) 0 w
def qgt:List Ann:=[.n,.n,.n,.l [(5,.one (.int .i64))],.n,.j [(15,.one .bool)],.n,.n,.n,.o [[0,1,2,3,4,5,6]],.n,.n,.o [[0,1,2,3,4,5,6]],.n,.n,.n,.n,.n,.n,.n,.n]
theorem qfb {a b w K} (hF:qcC a b K w):call Tryz.prog 34 [.string a,.string b] [.one (.int .i64)] w K:=qad (an:=qgt) Tryz.func34 hF
end Go.Proofs.YtmmkegapckbomaaGreatDoor
end
section
set_option linter.unusedVariables false
namespace Go.Pt
open Go
variable {S:List Nat} {w0 w:World} {L:List (Nat×Obj)} {P:Program}
theorem qn4 (z:Value) (c:Nat):mkCells [z] c=(List.replicate c z).toArray:=by
 apply Array.ext
 ·simp [mkCells]
 ·intro i h1 h2
  simp [mkCells,Nat.mod_one]
theorem Own.mk1 {el:TypeId} {z:Value} {bytes:Nat} {l c:Int} {K:Sl->World->Prop} (h:Own S w0 w L) (h0:0<=l) (h1:l<=c) (h2:(bytes:Int)*c<=2^48) (h3:c<=2^48)
  (k:∀ b w',b=w.heap.size->Own S w0 w' ((b,.cells (List.replicate c.toNat z).toArray el (0,0))::L)->K ⟨some ⟨b,0,none⟩,l.toNat,c.toNat⟩ w'):mkS el [z] 1 bytes l c w K:=by
 refine ⟨⟨h0,h1,h2,h3⟩,?_⟩
 have e:mkCells (if c.toNat*1=0 then [] else [z]) (c.toNat*1)=(List.replicate c.toNat z).toArray:=by
  rw [Nat.mul_one]
  split
  ·rename_i hc; rw [hc]; apply Array.ext' ; simp [mkCells]
  ·exact qn4 z _
 rw [e]
 exact k _ _ rfl (h.alloc _)
theorem Own.copy1 {t t' ty el b:Nat} {cs:Array Value} {T:TypeId} {o dLen dCap:Nat} {src:Sl} {vs:List Value} {K:Int->World->Prop} (h:Own S w0 w L) (i:Nat) (hi:L[i]?=some (b,.cells cs T (0,0)))
  (hu:P.underlying t=some (.slice el)) (hs:(P.info? el).map (·.size)=some 1) (hlen:vs.length=Nat.min src.len dLen) (hvs:vs≠[]->∃ a,src.a=some a/\∀ (j:Nat) v,vs[j]?=some v->w.cell? (a.add j)=some v) (h1:∀ v∈vs,v.oneCell'=true)
  (hfit:o+vs.length<=cs.size) (k:∀ w',Own S w0 w' (L.set i (b,.cells (splice cs o vs) T (0,0)))->K vs.length w') :
  Pt.run [Ty1.one (Cell.int .i64)] ((Builtin.copy_ #[t,t'] ty #[.slice (some ⟨b,o,none⟩) dLen dCap,.slice src.a src.len src.cap]).run P w) K:=by
 by_cases h0:vs=[]
 ·subst h0
  refine ⟨((0:Nat):Int),w,run_copy_none w t t' ty el _ _ _ _ _ _ hu hs (by simpa using hlen.symm),?_⟩
  have e:L.set i (b,.cells (splice cs o []) T (0,0))=L:=by
   apply List.ext_getElem?
   intro j
   rw [List.getElem?_set]
   by_cases hij:i=j
   ·subst hij
    have:=(List.getElem?_eq_some_iff.1 hi).1
    rw [if_pos rfl,hi]; simp [this,splice]
   ·rw [if_neg hij]
  have:=k w (by rw [e]; exact h)
  simpa using this
 ·obtain ⟨a,ha,hc⟩:=hvs h0
  have hb:=h.at hi
  have hrun:=run_copy_cells (P:=P) w t t' ty el b o dLen dCap a src.len src.cap vs hu hs hlen hc (fun j hj=>by
   rw [qai hb]; simp [show o+j<cs.size by omega]) (fun j hj=>by simp [World.frozen?,hb]) h1
  rw [qbm hb] at hrun
  refine ⟨(vs.length:Int),_,?_,k _ (h.upd i hi)⟩
  rw [ha]
  exact hrun
theorem qjP {P:Program} {f:FuncId} {fn:Func} {e:Array Value->Sem Value} {args:List Value} {ts:List Ty1} {w:World} {K:ElR ts->World->Prop} (hf:P.funcs[f]?=some fn) (hname:(fn.name== "runtime.NumGoroutine")=false) (hb:fn.body.isNone=true) (hn:Extern.findNext fn=none) (he:Extern.find fn=some e)
  (x:ElR ts) (w':World) (hrun:(e args.toArray).run P w=.ok (resVal ts x) w') (k:K x w'):Pt.ext P f args ts w K:=by
 refine ⟨x,w',?_,k⟩
 rw [run_callFunc_extern hf hname hb hn he]
 simp [hrun]
end Go.Pt
end
section
set_option linter.unusedVariables false
set_option linter.unusedSimpArgs false
namespace Go.Proofs.YtmmkegapckbomaaGreatDoor
open Go Go.Pt
attribute [local irreducible] ld ldA ldV fld fldA newZ st new idx idxS idxA slc slcS slcP mkS chk nn call callV inv run runQ runU join loop held ext rng undefer s2a nxt ent IntKind.wrap
theorem qds {α:Type} (A X Y Z:List α) (h:X.length=Y.length):(A++X++Z).take A.length++Y++(A++X++Z).drop (A.length+Y.length)=A++Y++Z:=by
 have h1:(A++X++Z).take A.length=A:=by rw [List.append_assoc,List.take_append_of_le_length (Nat.le_refl _),List.take_of_length_le (Nat.le_refl _)]
 have h2:(A++X++Z).drop (A.length+Y.length)=Z:=by
  rw [<- h,<- List.length_append,List.drop_append_of_le_length (Nat.le_refl _),List.drop_of_length_le (Nat.le_refl _),List.nil_append]
 rw [h1,h2]
theorem qgb {A X Y Z:List Int} (h:X.length=Y.length):splice (bytesA (A++X++Z)) A.length (Y.map (Value.int .u8))=bytesA (A++Y++Z):=by
 apply Array.ext'
 rw [qar _ _ _ (by rw [qcw]; simp only [List.length_append,List.length_map]; omega)]
 have:=qds (A.map (Value.int .u8)) (X.map (Value.int .u8)) (Y.map (Value.int .u8)) (Z.map (Value.int .u8)) (by simpa using h)
 simpa only [bytesA,List.map_append,List.toList_toArray,List.length_map] using this
def zs (n:Nat):List Int:=List.replicate n 0
theorem qaN (n:Nat):(zs n).length=n:=List.length_replicate
theorem qeE (a b:Nat):zs (a+b)=zs a++zs b:=List.replicate_append_replicate.symm
theorem qum:zs 1=[0]:=rfl
theorem qnF (n:Nat):(List.replicate n (Value.int .u8 0)).toArray=bytesA (zs n):=by unfold bytesA zs; rw [List.map_replicate]
theorem Own.bytes {S:List Nat} {w0 w:World} {L:List (Nat×Obj)} {b:Nat} {T:TypeId} {l l':List Int} (h:Own S w0 w ((b,.cells (bytesA l) T (0,0))::L)) (e:l=l'):Own S w0 w ((b,.cells (bytesA l') T (0,0))::L):=by rw [<- e]; exact h
def restV (number kind:Int) (body:List Int):List Int:=be number 4++[kind]++be (IntKind.wrap .u32 body.length) 2++[0]++body++zs (500-body.length)
def sealV (number kind:Int) (body:List Int):List Int:=be (sumV (restV number kind body)) 4++restV number kind body
theorem qdM {number kind:Int} {body:List Int} (h:body.length<=500):(restV number kind body).length=508:=by
 simp only [restV,qam,qaN,List.length_append,List.length_cons,List.length_nil]; omega
theorem qcH {number kind:Int} {body:List Int} (h:body.length<=500):(sealV number kind body).length=512:=by
 rw [sealV,List.length_append,qam,qdM h]
theorem qo1 {S:List Nat} {w:World} {s:Sl} {l:List Int} {number kind:Int} {K:Sl×Int->World->Prop} (h:RdB S w s l) (hv:Hv w) (hl:l.length<=100000)
  (hlong:500<l.length->K (⟨none,0,0⟩,3) w)
  (hk:l.length<=500->∀ b T w',w'.heap[b]?=some (.cells (bytesA (sealV number kind l)) T (0,0))->Fr [] w w'->w.heap.size<=b->K (⟨some ⟨b,0,none⟩,512,512⟩,0) w') :
  call Tryz.prog 114 [.int .u32 number,.int .u8 kind,.slice s.a s.len s.cap] [.one .slice,.one (.int .i64)] w K:=by
 refine qmJ (body:=s) ?_
 unfold qjp
 have hlen:=h.1
 refine qab (fun hc=>hlong (by have:=of_decide_eq_true hc; omega)) (fun hc=>?_)
 have hle:l.length<=500:=by have:=of_decide_eq_false hc; omega
 refine Own.mk1 (Own.start [] w) (by decide) (by decide) (by decide) (by decide) fun b w1 eb ho=>?_
 rw [qnF] at ho
 replace ho:=Own.bytes (l':=zs 4++zs 4++zs 504) ho (by rw [<- qeE,<- qeE]; rfl)
 refine qhq (by decide) (by decide) (by decide) (by decide) ?_
 refine qnt (k:=4) ho 0 rfl (qaN 4) (qaN 4) (by decide) fun w2 ho=>?_
 replace ho:=Own.bytes (l':=(zs 4++be number 4)++zs 1++zs 503) ho (by rw [show (504:Nat)=1+503 from rfl,qeE,List.append_assoc,List.append_assoc,List.append_assoc])
 refine qcq (by omega) (by simp) ?_
 refine Own.st ho 0 rfl _ (qgb (A:=zs 4++be number 4) (X:=zs 1) (Y:=[kind]) rfl) rfl (by rw [qcw]; simp only [List.length_append,qaN,qam]; rfl) fun w3 ho _=>?_
 replace ho:=Own.bytes (l':=(zs 4++be number 4++[kind])++zs 2++zs 501) ho (by rw [show (503:Nat)=2+501 from rfl,qeE,List.append_assoc,List.append_assoc,List.append_assoc,List.append_assoc,List.append_assoc])
 refine qhq (by omega) (by omega) (by simp) (by simp) ?_
 refine qnt (k:=2) ho 0 rfl (by simp only [List.length_append,qaN,qam]; rfl) (qaN 2) (by decide) fun w4 ho=>?_
 replace ho:=Own.bytes (l':=(zs 4++be number 4++[kind]++be (IntKind.wrap .u32 s.len) 2++[0])++zs l.length++zs (500-l.length)) ho (by
  rw [show (501:Nat)=1+(l.length+(500-l.length)) by omega,qeE,qeE,qum]
  simp only [List.append_assoc])
 refine qi7 (by omega) (by simp) (by simp) (by simp) ?_
 have h4:RdB S w4 s l:=h.frame0 ho.fr
 have e6:(zs 4++be number 4++[kind]++be (IntKind.wrap .u32 s.len) 2++[0]).length=12:=by simp only [List.length_append,qaN,qam]; rfl
 refine Own.copy1 (el:=5) (vs:=l.map (Value.int .u8)) ho 0 rfl (by kernel_rfl) (by kernel_rfl) (by rw [List.length_map,hlen]; exact (Nat.min_eq_left (by show l.length<=500; omega)).symm) (fun hne=>?_) (fun v hv=>by obtain ⟨x,_,rfl⟩:=List.mem_map.1 hv; rfl) (by rw [qcw,List.length_append,List.length_append,e6,qaN,qaN,List.length_map]; omega) fun w5 ho=>?_
 ·rcases h4.2.2 with h3 | ⟨bb,o,cs,T,fr,ha,_⟩
  ·rw [h3] at hne; exact absurd rfl hne
  ·refine ⟨_,ha,?_⟩
   have:=h4.cells qas ha
   rw [qaA] at this
   exact this
 have e5:=qgb (A:=zs 4++be number 4++[kind]++be (IntKind.wrap .u32 s.len) 2++[0]) (X:=zs l.length) (Y:=l) (Z:=zs (500-l.length)) (qaN _)
 rw [e6] at e5
 have e7:(0:Nat)+Int.toNat 12*1=12:=rfl
 rw [e7,e5] at ho
 replace ho:=Own.bytes (l':=[]++zs 4++restV number kind l) ho (by simp only [restV,hlen,List.append_assoc,List.nil_append])
 refine qgR ⟨by omega,by simp⟩ ?_
 refine qi7 (by omega) (by simp) (by simp) (by simp) ?_
 have hd:=ho.drew
 have hr:RdB [] w5.drew ⟨some ⟨b,0+Int.toNat 4*1,none⟩,(512:Int).toNat-Int.toNat 4,(512:Int).toNat-Int.toNat 4⟩ (restV number kind l):=by
  have:=qhh (S:=[]) (o:=4) (n:=508) (cap:=508) (hd.at (i:=0) rfl) (by rw [List.length_append,List.length_append,qaN,qdM hle]; simp) (Nat.le_refl _) (by simp)
  ·rw [List.nil_append,List.drop_append_of_le_length (by rw [qaN]; exact Nat.le_refl _),List.drop_of_length_le (by rw [qaN]; exact Nat.le_refl _),List.nil_append,List.take_of_length_le (by rw [qdM hle]; exact Nat.le_refl _)] at this
   exact this
 have hv5:Hv w5.drew:=hv.frame0 hd.fr
 refine qrQ hr hv5 (by rw [qdM hle]; decide) ?_
 refine qnt (k:=4) hd 0 rfl rfl (qaN 4) (by decide) fun w6 ho=>?_
 refine hk hle b _ w6 (ho.at (i:=0) rfl) ho.fr (by omega)
def IsB (l:List Int):Prop:=∀ x∈l,0<=x/\x<256
theorem IsB.take {l:List Int} (h:IsB l) (n:Nat):IsB (l.take n):=fun x hx=>h x (List.mem_of_mem_take hx)
theorem IsB.drop {l:List Int} (h:IsB l) (n:Nat):IsB (l.drop n):=fun x hx=>h x (List.mem_of_mem_drop hx)
theorem qrN {l:List Int} (h:IsB l):((Lib.countByte (Lib.bytesOf l) (0:Int).toNat.toUInt8:Nat):Int)=l.length↔∀ x∈l,x=0:=by
 have key:∀ l:List Int,IsB l->((Lib.bytesOf l).count (0:UInt8)<=l.length/\((Lib.bytesOf l).count (0:UInt8)=l.length↔∀ x∈l,x=0)):=by
  intro l
  induction l with
  | nil=>intro _; simp [Lib.bytesOf]
  | cons a l ih=>
   intro hl
   obtain ⟨i1,i2⟩:=ih (fun x hx=>hl x (List.mem_cons_of_mem _ hx))
   have ha:=hl a (by simp)
   have e:Lib.bytesOf (a::l)=UInt8.ofNat a.toNat::Lib.bytesOf l:=rfl
   rw [e,List.count_cons]
   have hz:(UInt8.ofNat a.toNat==0)=decide (a=0):=by
    by_cases h0:a=0
    ·subst h0; rfl
    ·rw [decide_eq_false h0,beq_eq_false_iff_ne]
     intro hq
     have:=congrArg UInt8.toNat hq
     simp at this
     omega
   rw [hz]
   by_cases h0:a=0
   ·subst h0
    simp only [decide_true,if_true,List.length_cons,List.mem_cons,forall_eq_or_imp,true_and]
    exact ⟨by omega,by rw [<- i2]; omega⟩
   ·simp only [h0,decide_false,Bool.false_eq_true,if_false,List.length_cons,List.mem_cons,forall_eq_or_imp,false_and,iff_false]
    omega
 have:=(key l h).2
 show (((Lib.bytesOf l).count _:Nat):Int)=_↔_
 rw [<- this]
 exact Int.ofNat_inj
theorem qkV {S:List Nat} {w:World} {s:Sl} {l:List Int} {b2 cap2:Nat} {K:Int->World->Prop} (h:RdB S w s l) (hB:IsB l) (hc2:w.cell? ⟨b2,0,none⟩=some (.int .u8 0))
  (hk:∀ c:Int,(c=l.length↔∀ x∈l,x=0)->K c w) :
  call Tryz.prog 158 [.slice s.a s.len s.cap,.slice (some ⟨b2,0,none⟩) 1 cap2] [.one (.int .i64)] w K:=by
 refine qkL (s:=s) (sep:=⟨some ⟨b2,0,none⟩,1,cap2⟩) ?_
 unfold qgD
 have hlen:=h.1
 refine cond_false (by rfl) ?_
 refine cond_true (by rfl) ?_
 refine qcq (by omega) (by simp) ?_
 refine qc6 (c:=.int .u8) 0 hc2 ?_
 have hcount:(Extern.BytealgCount.count #[.slice s.a s.len s.cap,.int .u8 0]).run Tryz.prog w=.ok (.int .i64 (Lib.countByte (Lib.bytesOf l) (0:Int).toNat.toUInt8)) w:=by
  cases ha:s.a with
  | none=>
   have hl0:l=[]:=by
    rcases h.2.2 with h3 | ⟨b,o,cs,T,fr,ha',_⟩
    ·exact h3
    ·rw [ha] at ha'; cases ha'
   subst hl0
   exact Lib.run_countNil w _ _ _
  | some a=>
   refine Lib.run_countAt w a s.len s.cap l hlen.symm (fun i hi=>?_) 0
   have:=h.cells qas ha i (.int .u8 (l.getD i 0)) ?_
   ·exact this
   ·rw [qaA,List.getElem?_map,List.getD_eq_getElem?_getD,List.getElem?_eq_getElem (by omega)]; rfl
 refine qjP (e:=Extern.BytealgCount.count) Tryz.func204 (by kernel_rfl) (by kernel_rfl) (by kernel_rfl) (by kernel_rfl) (((Lib.countByte (Lib.bytesOf l) (0:Int).toNat.toUInt8:Nat):Int)) w hcount ?_
 exact hk _ (qrN hB)
def openV (number:Int) (b:List Int):Int×List Int×Int:=
 if b.length≠512 then (0,[],1)
 else if getV (b.take 4)≠sumV (b.drop 4) then (0,[],8)
 else if getV ((b.take 8).drop 4)≠number then (0,[],4)
 else if getV ((b.take 11).drop 9)>500\/b.getD 11 0≠0 then (0,[],2)
 else if ∃ x∈b.drop (12+(getV ((b.take 11).drop 9)).toNat),x≠0 then (0,[],2)
 else (b.getD 8 0,(b.take (12+(getV ((b.take 11).drop 9)).toNat)).drop 12,0)
theorem qaV (x:Int) (h:0<=x/\x<4294967296):IntKind.wrap .u32 x=x:=by
 unfold IntKind.wrap
 have:(IntKind.u32.signed)=false:=rfl
 simp only [this,Bool.false_and,Bool.false_eq_true,if_false]
 exact Int.emod_eq_of_lt h.1 h.2
theorem qaS (x:Int):0<=IntKind.wrap .u32 x/\IntKind.wrap .u32 x<4294967296:=by
 unfold IntKind.wrap
 have:(IntKind.u32.signed)=false:=rfl
 simp only [this,Bool.false_and,Bool.false_eq_true,if_false]
 exact ⟨Int.emod_nonneg _ (by decide),Int.emod_lt_of_pos _ (by decide)⟩
theorem qbF (op:BinOp) (x y:Int):0<=bits op .u32 x y/\bits op .u32 x y<4294967296:=qaS _
theorem qpy (l:List Int):0<=getV l/\getV l<4294967296:=by
 unfold getV
 have:∀ (l:List Int) (a:Int),0<=a/\a<4294967296->0<=l.foldl (fun r x=>bits .or .u32 (IntKind.wrap .u32 (r*2^8)) (IntKind.wrap .u32 x)) a/\l.foldl (fun r x=>bits .or .u32 (IntKind.wrap .u32 (r*2^8)) (IntKind.wrap .u32 x)) a<4294967296:=by
  intro l
  induction l with
  | nil=>intro a h; exact h
  | cons x l ih=>intro a _; exact ih _ (qbF _ _ _)
 exact this l 0 (by decide)
theorem qkC {S:List Nat} {w:World} {s:Sl} {l:List Int} {number:Int} {K:Int×Sl×Int->World->Prop} (h:RdB S w s l) (hv:Hv w) (hB:IsB l) (hl:l.length<=100000)
  (hk:∀ s' B w',BufB w' s' (openV number l).2.1 B->Fr [] w w'->(∀ b∈B,w.heap.size<=b)->K ((openV number l).1,s',(openV number l).2.2) w') :
  call Tryz.prog 126 [.int .u32 number,.slice s.a s.len s.cap] [.one (.int .u8),.one .slice,.one (.int .i64)] w K:=by
 refine qmC (b:=s) ?_
 unfold qjO
 have hlen:=h.1
 have bad:∀ {e:Int} {w':World},openV number l=(0,[],e)->Fr [] w w'->K (0,⟨none,0,0⟩,e) w':=by
  intro e w' he hf
  have:=hk ⟨none,0,0⟩ [] w' (by rw [he]; exact .nil _ _ _) hf (by simp)
  rw [he] at this
  exact this
 refine qab (fun hc=>?_) (fun hc=>?_)
 ·refine bad ?_ (.refl _ _)
  have:l.length≠512:=by simp at hc; omega
  simp [openV,this]
 have h512:l.length=512:=by simp at hc; omega
 refine Rds.part h 0 4 rfl rfl (by omega) (by omega) fun s1 l1 r1 _=>?_
 refine Rds.part h 4 512 rfl (by rw [hlen,h512]; rfl) (by omega) (by omega) fun s2 l2 r2 _=>?_
 rw [List.take_of_length_le (by omega)] at r2
 rw [List.drop_zero] at r1
 have fd:Fr [] w w.drew:=(Fr.refl _ _).drew
 have hvd:Hv w.drew:=hv.frame0 fd
 refine qnV (w:=w.drew) r1 (by rw [List.length_take]; omega) ?_
 refine qrQ (w:=w.drew) r2 hvd (by rw [List.length_drop]; omega) ?_
 have h0:¬ l.length≠512:=by omega
 refine qab (fun hc=>?_) (fun hc=>?_)
 ·refine bad ?_ fd
  have:getV (l.take 4)≠sumV (l.drop 4):=by simpa using hc
  rw [openV,if_neg h0,if_pos this]
 have h1:¬ getV (l.take 4)≠sumV (l.drop 4):=by simpa using hc
 have hd:RdB S w.drew s l:=h
 refine Rds.part hd 4 8 rfl rfl (by omega) (by omega) fun s3 l3 r3 _=>?_
 refine qnV r3 (by rw [List.length_drop,List.length_take]; omega) ?_
 refine qab (fun hc=>?_) (fun hc=>?_)
 ·refine bad ?_ fd
  have:getV ((l.take 8).drop 4)≠number:=by simpa using hc
  rw [openV,if_neg h0,if_neg h1,if_pos this]
 have h2:¬ getV ((l.take 8).drop 4)≠number:=by simpa using hc
 refine Rds.part hd 9 11 rfl rfl (by omega) (by omega) fun s4 l4 r4 _=>?_
 refine qnV r4 (by rw [List.length_drop,List.length_take]; omega) ?_
 have hn:=qpy ((l.take 11).drop 9)
 have g11:l[11]?=some (l.getD 11 0):=by rw [List.getD_eq_getElem?_getD,List.getElem?_eq_getElem (by omega)]; rfl
 have g8:l[8]?=some (l.getD 8 0):=by rw [List.getD_eq_getElem?_getD,List.getElem?_eq_getElem (by omega)]; rfl
 refine qag (fun b w'=>b=decide (getV ((l.take 11).drop 9)>500\/l.getD 11 0≠0)/\w'=w.drew) ?_ ?_
 ·refine qab (fun hc=>?_) (fun hc=>?_)
  ·exact ⟨by rw [decide_eq_true (Or.inl (of_decide_eq_true hc))],rfl⟩
  ·refine RdB.at hd 11 rfl g11 ⟨?_,rfl⟩
   have:=of_decide_eq_false hc
   generalize l.getD 11 0=z
   by_cases hz:z=0 <;> simp [this,hz]
 rintro b w1 ⟨rfl,rfl⟩
 refine qab (fun hc=>?_) (fun hc=>?_)
 ·refine bad ?_ fd
  rw [openV,if_neg h0,if_neg h1,if_neg h2,if_pos (of_decide_eq_true hc)]
 have h3:=of_decide_eq_false hc
 have hn500:getV ((l.take 11).drop 9)<=500:=by
  rcases Int.lt_or_le 500 (getV ((l.take 11).drop 9)) with h | h
  ·exact absurd (Or.inl h) h3
  ·exact h
 have ov:openV number l=if ∃ x∈l.drop (12+(getV ((l.take 11).drop 9)).toNat),x≠0 then (0,[],2) else (l.getD 8 0,(l.take (12+(getV ((l.take 11).drop 9)).toNat)).drop 12,0):=by
  rw [openV,if_neg h0,if_neg h1,if_neg h2,if_neg h3]
 generalize getV ((l.take 11).drop 9)=n at hn hn500 ov
 obtain ⟨m,rfl⟩:∃ m:Nat,n=m:=⟨n.toNat,by omega⟩
 rw [qaV _ (by omega)]
 rw [Int.toNat_natCast] at ov
 refine Rds.part hd (12+m) 512 (by simp) (by rw [hlen,h512]; rfl) (by omega) (by omega) fun s5 l5 r5 _=>?_
 rw [List.take_of_length_le (by omega)] at r5
 have ho:=Own.start [] w.drew
 refine Own.new ho fun zb w2 ez sz ho=>?_
 have r5':RdB S w2 s5 (l.drop (12+m)):=r5.frame0 ho.fr
 refine qkV r5' (hB.drop _) (ho.cell (off:=0) 0 rfl rfl) fun c hcz=>?_
 have fd2:Fr [] w w2:=fd.trans ho.fr
 have hl5:=r5.1
 refine qab (fun hc=>?_) (fun hc=>?_)
 ·refine bad ?_ fd2
  have hne:¬ ∀ x∈l.drop (12+m),x=0:=by
   rw [<- hcz]
   intro e
   rw [e,hl5] at hc
   simp at hc
  rw [ov,if_pos]
  exact Classical.byContradiction fun hno=>hne fun x hx=>Classical.byContradiction fun hx0=>hno ⟨x,hx,hx0⟩
 ·have hall:∀ x∈l.drop (12+m),x=0:=by
   rw [<- hcz]
   rw [hl5] at hc
   simpa using hc
  rw [if_neg (by rintro ⟨x,hx,h0⟩; exact h0 (hall x hx))] at ov
  have hd2:RdB S w2.drew s l:=(h.frame0 fd2).drew
  obtain ⟨_,b8,o8,ha8,_,cs8,T8,fr8,hb8,hc8⟩:=Rds.at hd2 8 g8
  have hcell:cs8[o8+8]?=some (.int .u8 (l.getD 8 0)):=by
   have:=congrArg (·[0]?) hc8
   simpa using this
  refine qbk ha8 ⟨by omega,by omega⟩ ?_
  have ecell:∀ {w':World},w'.heap[b8]?=some (.cells cs8 T8 fr8)->w'.cell? ⟨b8,o8+Int.toNat 8*1,none⟩=some (.int .u8 (l.getD 8 0)):=fun hb=>by
   rw [qai hb]; exact hcell
  refine qc6 (c:=.int .u8) (l.getD 8 0) (ecell hb8) ?_
  refine Rds.part hd2 12 (12+m) rfl (by simp) (by omega) (by omega) fun s6 l6 r6 _=>?_
  have lm:((l.take (12+m)).drop 12).length=m:=by rw [List.length_drop,List.length_take]; omega
  refine qeB r6 (by rw [lm]; omega) fun s7 B w3 hb7 f7 n7 _ _=>?_
  refine qah (ecell (by rw [f7.block b8 (qac hb8) (by simp)]; exact hb8)) ?_
  have e1:(w2.drew).heap.size=w2.heap.size:=rfl
  have:=hk s7 B w3 (by rw [ov]; exact hb7) (fd2.drew.trans f7) (fun b hb=>by have:=n7 b hb; have:=fd2.size; omega)
  rw [ov] at this
  exact this
end Go.Proofs.YtmmkegapckbomaaGreatDoor
end
section
set_option linter.unusedVariables false
set_option linter.unusedSimpArgs false
namespace Go.Proofs.YtmmkegapckbomaaGreatDoor
open Go Go.Pt
theorem wu8 (x:Int):IntKind.wrap .u8 x=x%256:=by
 unfold IntKind.wrap
 have:(IntKind.u8.signed)=false:=rfl
 simp only [this,Bool.false_and,Bool.false_eq_true,if_false]
 rfl
theorem qt8 {r x:Int} (hr:0<=r/\r<16777216) (hx:0<=x/\x<256):bits .or .u32 (IntKind.wrap .u32 (r*2^8)) (IntKind.wrap .u32 x)=r*256+x:=by
 rw [qaV x (by omega),qaV (r*2^8) (by omega)]
 obtain ⟨a,rfl⟩:∃ a:Nat,r=a:=⟨r.toNat,by omega⟩
 obtain ⟨b,rfl⟩:∃ b:Nat,x=b:=⟨x.toNat,by omega⟩
 have e1:((a:Int)*2^8)=((2^8*a:Nat):Int):=by omega
 rw [e1]
 show IntKind.wrap .u32 ((BitVec.ofInt 32 ((2^8*a:Nat):Int)||| BitVec.ofInt 32 (b:Int)).toNat:Nat)=_
 rw [BitVec.toNat_or,BitVec.ofInt_natCast,BitVec.ofInt_natCast,BitVec.toNat_ofNat,BitVec.toNat_ofNat,Nat.mod_eq_of_lt (show 2^8*a<2^32 by omega),Nat.mod_eq_of_lt (show b<2^32 by omega),<- Nat.two_pow_add_eq_or_of_lt (show b<2^8 by omega)]
 rw [qaV _ (by omega)]
 omega
def beV (l:List Int):Int:=l.foldl (fun r x=>r*256+x) 0
theorem qe8:∀ {l:List Int},IsB l->l.length<=4->getV l=beV l:=by
 have key:∀ (l:List Int) (r:Int) (k:Nat),IsB l->l.length<=k->k<=4->0<=r->r<256^(4-k)->
   l.foldl (fun r x=>bits .or .u32 (IntKind.wrap .u32 (r*2^8)) (IntKind.wrap .u32 x)) r=l.foldl (fun r x=>r*256+x) r:=by
  intro l
  induction l with
  | nil=>intros; rfl
  | cons x l ih=>
   intro r k hB hl hk h0 h1
   have hx:=hB x (by simp)
   simp only [List.length_cons] at hl
   have hr:r<16777216:=by
    have:(256:Int)^(4-k)<=256^3:=by
     have:(4-k)<=3:=by omega
     match k,hk,hl with
     | 1,_,_=>decide
     | 2,_,_=>decide
     | 3,_,_=>decide
     | 4,_,_=>decide
    have e:(256:Int)^3=16777216:=by decide
    omega
   rw [List.foldl_cons,List.foldl_cons,qt8 ⟨h0,hr⟩ hx]
   match k,hk,hl,h1 with
   | k+1,hk,hl,h1=>
    refine ih _ k (fun y hy=>hB y (List.mem_cons_of_mem _ hy)) (by omega) (by omega) (by omega) ?_
    have e:4-k=(4-(k+1))+1:=by omega
    rw [e,Int.pow_succ]
    omega
 intro l hB hl
 exact key l 0 4 hB hl (by decide) (by decide) (by decide)
theorem qb5 {n:Int} (h:0<=n) (j:Nat) (hj:j<=3):byteAt n j=n / 256^j%256:=by
 unfold byteAt
 rw [wu8,Int.fdiv_eq_ediv_of_nonneg _ (by exact Int.pow_nonneg (by decide))]
 match j,hj with
 | 0,_=>rfl
 | 1,_=>rfl
 | 2,_=>rfl
 | 3,_=>rfl
theorem be4 {n:Int} (h:0<=n):be n 4=[n / 16777216%256,n / 65536%256,n / 256%256,n%256]:=by
 have e:be n 4=[byteAt n 3,byteAt n 2,byteAt n 1,byteAt n 0]:=rfl
 rw [e,qb5 h 3 (by decide),qb5 h 2 (by decide),qb5 h 1 (by decide),qb5 h 0 (by decide)]
 simp
theorem be2 {n:Int} (h:0<=n):be n 2=[n / 256%256,n%256]:=by
 have e:be n 2=[byteAt n 1,byteAt n 0]:=rfl
 rw [e,qb5 h 1 (by decide),qb5 h 0 (by decide)]
 simp
theorem qbj (n:Int) (k:Nat):IsB (be n k):=by
 intro x hx
 obtain ⟨i,_,rfl⟩:=List.mem_map.1 hx
 unfold byteAt
 rw [wu8]
 omega
theorem qiB {n:Int} (h:0<=n/\n<4294967296):getV (be n 4)=n:=by
 rw [qe8 (qbj _ _) (by rw [qam]; exact Nat.le_refl _),be4 h.1]
 show (((0*256+_)*256+_)*256+_)*256+_=n
 omega
theorem qmX {n:Int} (h:0<=n/\n<65536):getV (be n 2)=n:=by
 rw [qe8 (qbj _ _) (by rw [qam]; decide),be2 h.1]
 show (0*256+_)*256+_=n
 omega
theorem qqt (l:List Int):0<=sumV l/\sumV l<4294967296:=by
 unfold sumV moreV
 exact qbF _ _ _
theorem IsB.append {a b:List Int} (h:IsB a) (k:IsB b):IsB (a++b):=fun x hx=>by
 rcases List.mem_append.1 hx with h' | h'
 ·exact h x h'
 ·exact k x h'
theorem IsB.zs (n:Nat):IsB (zs n):=fun x hx=>by
 have:=List.eq_of_mem_replicate hx
 omega
theorem IsB.one {x:Int} (h:0<=x/\x<256):IsB [x]:=fun y hy=>by simp at hy; subst hy; exact h
theorem qrW {number kind:Int} {body:List Int} (hk:0<=kind/\kind<256) (hb:IsB body):IsB (restV number kind body):=
 (((((qbj _ _).append (.one hk)).append (qbj _ _)).append (.one (by decide))).append hb).append (.zs _)
theorem qha {number kind:Int} {body:List Int} (hk:0<=kind/\kind<256) (hb:IsB body):IsB (sealV number kind body):=(qbj _ _).append (qrW hk hb)
theorem qid {number kind:Int} {body:List Int} (hn:0<=number/\number<4294967296) (hl:body.length<=500):openV number (sealV number kind body)=(kind,body,0):=by
 have hlen:IntKind.wrap .u32 (body.length:Int)=(body.length:Int):=qaV _ (by omega)
 have e0:sealV number kind body=be (sumV (restV number kind body)) 4++(be number 4++([kind]++(be body.length 2++([0]++(body++zs (500-body.length)))))):=by
  rw [sealV]
  conv=>lhs; rhs; rw [restV]
  rw [hlen]
  simp only [List.append_assoc]
 have l4:=qam (sumV (restV number kind body)) 4
 have e1:(sealV number kind body).take 4=be (sumV (restV number kind body)) 4:=by rw [sealV,List.take_append_of_le_length (by rw [qam]; exact Nat.le_refl _),List.take_of_length_le (by rw [qam]; exact Nat.le_refl _)]
 have e2:(sealV number kind body).drop 4=restV number kind body:=by rw [sealV,List.drop_append_of_le_length (by rw [qam]; exact Nat.le_refl _),List.drop_of_length_le (by rw [qam]; exact Nat.le_refl _),List.nil_append]
 have b4:∀ n,∃ a b c d,be n 4=[a,b,c,d]:=fun n=>⟨_,_,_,_,rfl⟩
 have b2:∀ n,∃ a b,be n 2=[a,b]:=fun n=>⟨_,_,rfl⟩
 obtain ⟨a0,a1,a2,a3,ha⟩:=b4 (sumV (restV number kind body))
 obtain ⟨n0,n1,n2,n3,hnn⟩:=b4 number
 obtain ⟨l0,l1,hll⟩:=b2 body.length
 have e3:sealV number kind body=a0::a1::a2::a3::n0::n1::n2::n3::kind::l0::l1::0::(body++zs (500-body.length)):=by
  rw [e0,ha,hnn,hll]; rfl
 have g1:getV ((sealV number kind body).take 4)=sumV ((sealV number kind body).drop 4):=by rw [e1,e2,qiB (qqt _)]
 have g2:getV (((sealV number kind body).take 8).drop 4)=number:=by
  have:((sealV number kind body).take 8).drop 4=be number 4:=by rw [e3,hnn]; rfl
  rw [this,qiB hn]
 have g3:getV (((sealV number kind body).take 11).drop 9)=body.length:=by
  have:((sealV number kind body).take 11).drop 9=be body.length 2:=by rw [e3,hll]; rfl
  rw [this,qmX (by omega)]
 have g4:(sealV number kind body).getD 11 0=0:=by rw [e3]; rfl
 have g5:(sealV number kind body).getD 8 0=kind:=by rw [e3]; rfl
 have g6:(sealV number kind body).drop (12+body.length)=zs (500-body.length):=by
  rw [e3,Nat.add_comm]
  show (body++zs (500-body.length)).drop body.length=_
  rw [List.drop_append_of_le_length (Nat.le_refl _),List.drop_length,List.nil_append]
 have g7:((sealV number kind body).take (12+body.length)).drop 12=body:=by
  rw [e3,Nat.add_comm]
  show (body++zs (500-body.length)).take body.length=_
  rw [List.take_append_of_le_length (Nat.le_refl _),List.take_length]
 rw [openV,if_neg (by rw [qcH hl]; simp),if_neg (by rw [g1]; simp),if_neg (by rw [g2]; simp),g3,g4,if_neg (by simp; omega),Int.toNat_natCast,g6,if_neg,g5,g7]
 rintro ⟨x,hx,h0⟩
 exact h0 (List.eq_of_mem_replicate hx)
def cmpL:List Int->List Int->Int
 | [],[]=>0
 | [],_::_=>-1
 | _::_,[]=>1
 | a::r,b::s=>if a<b then -1 else if b<a then 1 else cmpL r s
abbrev KLt (a b:List Int):Prop:=cmpL a b<0
theorem qe2:∀ a b:List Int,cmpL a b=-1\/cmpL a b=0\/cmpL a b=1
 | [],[]=>.inr (.inl rfl)
 | [],_::_=>.inl rfl
 | _::_,[]=>.inr (.inr rfl)
 | a::r,b::s=>by
  rw [cmpL]
  split
  ·exact .inl rfl
  split
  ·exact .inr (.inr rfl)
  ·exact qe2 r s
theorem qdO:∀ a:List Int,cmpL a a=0
 | []=>rfl
 | a::r=>by rw [cmpL,if_neg (by omega),if_neg (by omega)]; exact qdO r
theorem qd7:∀ {a b:List Int},cmpL a b=0->a=b
 | [],[],_=>rfl
 | [],_::_,h=>by simp [cmpL] at h
 | _::_,[],h=>by simp [cmpL] at h
 | a::r,b::s,h=>by
  rw [cmpL] at h
  split at h
  ·cases h
  split at h
  ·cases h
  ·rw [qd7 h,show a=b by omega]
theorem qbM:∀ a b:List Int,cmpL b a =-cmpL a b
 | [],[]=>rfl
 | [],_::_=>rfl
 | _::_,[]=>rfl
 | a::r,b::s=>by
  rw [cmpL,cmpL]
  by_cases h1:a<b
  ·rw [if_neg (show ¬ b<a by omega),if_pos h1,if_pos h1]; rfl
  ·by_cases h2:b<a
   ·rw [if_pos h2,if_neg h1,if_pos h2]
   ·rw [if_neg h2,if_neg h1,if_neg h1,if_neg h2]; exact qbM r s
theorem qax {a:List Int}:¬ KLt a a:=by unfold KLt; rw [qdO]; decide
theorem qaw:∀ {a b c:List Int},KLt a b->KLt b c->KLt a c
 | [],[],_,h,_=>by simp [KLt,cmpL] at h
 | [],_::_,[],_,h=>by simp [KLt,cmpL] at h
 | [],_::_,_::_,_,_=>by simp [KLt,cmpL]
 | _::_,[],_,h,_=>by simp [KLt,cmpL] at h
 | _::_,_::_,[],_,h=>by simp [KLt,cmpL] at h
 | a::r,b::s,c::t,h,g=>by
  unfold KLt at h g ⊢
  rw [cmpL] at h g ⊢
  by_cases h1:a<b
  ·by_cases g1:b<c
   ·rw [if_pos (by omega)]; decide
   ·rw [if_neg g1] at g
    by_cases g2:c<b
    ·rw [if_pos g2] at g; omega
    ·rw [if_pos (by omega)]; decide
  ·rw [if_neg h1] at h
   by_cases h2:b<a
   ·rw [if_pos h2] at h; omega
   ·rw [if_neg h2] at h
    by_cases g1:b<c
    ·rw [if_pos (by omega)]; decide
    ·rw [if_neg g1] at g
     by_cases g2:c<b
     ·rw [if_pos g2] at g; omega
     ·rw [if_neg g2] at g
      rw [if_neg (by omega),if_neg (by omega)]
      exact qaw (a:=r) (b:=s) (c:=t) h g
theorem qaP {a b:List Int} (h:KLt a b):¬ KLt b a:=fun g=>qax (qaw h g)
theorem qey {a b:List Int} (h:KLt a b):a≠b:=fun e=>by rw [e] at h; exact qax h
theorem qlC (a b:List Int):KLt a b\/a=b\/KLt b a:=by
 rcases qe2 a b with h | h | h
 ·exact .inl (by unfold KLt; omega)
 ·exact .inr (.inl (qd7 h))
 ·refine .inr (.inr ?_); unfold KLt; rw [qbM]; omega
theorem qeO {a b:List Int}:¬ KLt a b↔a=b\/KLt b a:=by
 constructor
 ·intro h
  rcases qlC a b with h1 | h1 | h1
  ·exact absurd h1 h
  ·exact .inl h1
  ·exact .inr h1
 ·rintro (rfl | h)
  ·exact qax
  ·exact qaP h
abbrev KLe (a b:List Int):Prop:=¬ KLt b a
theorem qf7 {a b c:List Int} (h:KLe a b) (g:KLt b c):KLt a c:=by
 rcases qeO.1 h with h1 | h1
 ·rw [<- h1]; exact g
 ·exact qaw h1 g
theorem qbc {a b c:List Int} (h:KLt a b) (g:KLe b c):KLt a c:=by
 rcases qeO.1 g with h1 | h1
 ·rw [h1]; exact h
 ·exact qaw h h1
theorem qbZ {a b c:List Int} (h:KLe a b) (g:KLe b c):KLe a c:=fun k=>by
 rcases qeO.1 h with h1 | h1
 ·subst h1; exact g k
 ·exact g (qaw k h1)
abbrev Key:=List Int
abbrev Prs:=List (List Int×List Int)
def placeV (l:List Key) (k:Key):Nat:=(l.takeWhile fun a=>decide (KLt a k)).length
def kidV (l:List Key) (k:Key):Nat:=(l.takeWhile fun a=>decide (KLe a k)).length
def Rising (l:List Key):Prop:=l.Pairwise KLt
theorem qdg {α:Type} (p:α->Bool) (l:List α):(l.takeWhile p).length<=l.length:=(List.takeWhile_sublist p).length_le
theorem qlk (l:List Key) (k:Key):placeV l k<=l.length:=qdg _ l
theorem qhp (l:List Key) (k:Key):kidV l k<=l.length:=qdg _ l
theorem qcp {α:Type} (p:α->Bool):∀ l:List α,l.take (l.takeWhile p).length=l.takeWhile p
 | []=>rfl
 | a::r=>by
  rw [List.takeWhile_cons]
  cases h:p a with
  | true=>simp [qcp p r]
  | false=>simp
theorem qcS {α:Type} {p:α->Bool}:∀ {l:List α} {x:α},x∈l.takeWhile p->p x=true
 | a::r,x,h=>by
  rw [List.takeWhile_cons] at h
  cases ha:p a with
  | true=>
   rw [ha] at h
   rcases List.mem_cons.1 h with rfl | h
   ·exact ha
   ·exact qcS h
  | false=>rw [ha] at h; cases h
theorem qbx {α:Type} {p:α->Bool}:∀ {l:List α} {x:α} {r:List α},l.drop (l.takeWhile p).length=x::r->p x=false
 | a::s,x,r,h=>by
  rw [List.takeWhile_cons] at h
  cases ha:p a with
  | true=>
   rw [ha] at h
   exact qbx (l:=s) (by simpa using h)
  | false=>
   rw [ha] at h
   simp at h
   rw [<- h.1]; exact ha
theorem qno {l:List Key} {k a:Key} (h:a∈l.take (placeV l k)):KLt a k:=by
 unfold placeV at h
 rw [qcp] at h
 exact of_decide_eq_true (p:=KLt a k) (qcS (p:=fun a=>decide (KLt a k)) h)
theorem qpY {l:List Key} {k a:Key} (h:a∈l.take (kidV l k)):KLe a k:=by
 unfold kidV at h
 rw [qcp] at h
 exact of_decide_eq_true (p:=KLe a k) (qcS (p:=fun a=>decide (KLe a k)) h)
theorem qbf {x:Key} {r:List Key} (h:Rising (x::r)):∀ a∈r,KLt x a:=(List.pairwise_cons.1 h).1
theorem Rising.drop {l:List Key} (h:Rising l) (n:Nat):Rising (l.drop n):=List.Pairwise.sublist (List.drop_sublist n l) h
theorem Rising.take {l:List Key} (h:Rising l) (n:Nat):Rising (l.take n):=List.Pairwise.sublist (List.take_sublist n l) h
theorem ql4 {l:List Key} {k a:Key} (hr:Rising l) (h:a∈l.drop (placeV l k)):KLe k a:=by
 have hd:=hr.drop (placeV l k)
 cases e:l.drop (placeV l k) with
 | nil=>rw [e] at h; cases h
 | cons x r=>
  have hx:KLe k x:=of_decide_eq_false (qbx (p:=fun a=>decide (KLt a k)) e)
  rw [e] at h hd
  rcases List.mem_cons.1 h with rfl | h
  ·exact hx
  ·exact qbZ hx (qaP (qbf hd a h))
theorem qos {l:List Key} {k a:Key} (hr:Rising l) (h:a∈l.drop (kidV l k)):KLt k a:=by
 have hd:=hr.drop (kidV l k)
 cases e:l.drop (kidV l k) with
 | nil=>rw [e] at h; cases h
 | cons x r=>
  have hx:KLt k x:=Classical.not_not.1 (of_decide_eq_false (qbx (p:=fun a=>decide (KLe a k)) e))
  rw [e] at h hd
  rcases List.mem_cons.1 h with rfl | h
  ·exact hx
  ·exact qaw hx (qbf hd a h)
def insP (k v:Key):Prs->Prs
 | []=>[(k,v)]
 | x::r=>if KLt k x.1 then (k,v)::x::r else if k=x.1 then (k,v)::r else x::insP k v r
def cutP (k:Key) (l:Prs):Prs:=l.filter fun x=>decide (x.1≠k)
abbrev keysP (l:Prs):List Key:=l.map (·.1)
def SortP (l:Prs):Prop:=Rising (keysP l)
theorem qb9 {k v:Key}:∀ {a:Prs} {l:Prs},(∀ x∈a,KLt x.1 k)->insP k v (a++l)=a++insP k v l
 | [],l,_=>rfl
 | x::a,l,h=>by
  have hx:=h x (by simp)
  rw [List.cons_append,insP,if_neg (qaP hx),if_neg (fun e=>qey hx e.symm),qb9 fun y hy=>h y (List.mem_cons_of_mem _ hy),List.cons_append]
theorem qiq {k v:Key} {b:Prs} (hb:∀ x∈b,KLt k x.1):∀ l:Prs,insP k v (l++b)=insP k v l++b
 | []=>by
  cases b with
  | nil=>rfl
  | cons x r=>
   show insP k v (x::r)=(k,v)::x::r
   rw [insP,if_pos (hb x (by simp))]
 | x::l=>by
  rw [List.cons_append,insP,insP]
  split
  ·rfl
  split
  ·rfl
  ·rw [qiq hb l,List.cons_append]
theorem qr8 {k v w:Key} {a r:Prs} (ha:∀ x∈a,KLt x.1 k):insP k v (a++(k,w)::r)=a++(k,v)::r:=by
 rw [qb9 ha,insP,if_neg qax,if_pos rfl]
theorem qq5 {k v:Key} {a b:Prs} (ha:∀ x∈a,KLt x.1 k) (hb:∀ x∈b,KLt k x.1):insP k v (a++b)=a++(k,v)::b:=by
 rw [qb9 ha]
 cases b with
 | nil=>rfl
 | cons x r=>rw [insP,if_pos (hb x (by simp))]
theorem qdu {k v:Key} {x:Key×Key}:∀ {l:Prs},x∈insP k v l->x=(k,v)\/x∈l
 | [],h=>.inl (by simpa [insP] using h)
 | y::l,h=>by
  rw [insP] at h
  split at h
  ·rcases List.mem_cons.1 h with h | h
   ·exact .inl h
   ·exact .inr h
  split at h
  ·rcases List.mem_cons.1 h with h | h
   ·exact .inl h
   ·exact .inr (List.mem_cons_of_mem _ h)
  ·rcases List.mem_cons.1 h with h | h
   ·exact .inr (by rw [h]; simp)
   ·rcases qdu h with h | h
    ·exact .inl h
    ·exact .inr (List.mem_cons_of_mem _ h)
theorem qlw {k v:Key}:∀ {l:Prs},SortP l->SortP (insP k v l)
 | [],_=>List.pairwise_singleton _ _
 | x::l,h=>by
  have h1:=List.pairwise_cons.1 (show (x.1::keysP l).Pairwise KLt from h)
  rw [insP]
  split
  ·rename_i hk
   refine List.pairwise_cons.2 ⟨fun a ha=>?_,h⟩
   rcases List.mem_cons.1 ha with rfl | ha
   ·exact hk
   ·exact qaw hk (h1.1 a ha)
  split
  ·rename_i hk
   refine List.pairwise_cons.2 ⟨fun a ha=>?_,h1.2⟩
   show KLt k a
   rw [hk]; exact h1.1 a ha
  ·rename_i hk1 hk2
   refine List.pairwise_cons.2 ⟨fun a ha=>?_,qlw h1.2⟩
   obtain ⟨y,hy,rfl⟩:=List.mem_map.1 ha
   rcases qdu hy with rfl | hy
   ·rcases qeO.1 hk1 with e | e
    ·exact absurd e hk2
    ·exact e
   ·exact h1.1 _ (List.mem_map_of_mem hy)
theorem qbA {k v:Key}:∀ {l:Prs},k∉keysP l->(insP k v l).length=l.length+1
 | [],_=>rfl
 | x::l,h=>by
  rw [insP]
  split
  ·rfl
  split
  ·rename_i e; exact absurd (by rw [e]; simp) h
  ·rw [List.length_cons,qbA fun hm=>h (List.mem_cons_of_mem _ hm),List.length_cons]
theorem qby {k v:Key}:∀ {l:Prs},SortP l->k∈keysP l->(insP k v l).length=l.length
 | x::l,hs,h=>by
  have h1:=List.pairwise_cons.1 (show (x.1::keysP l).Pairwise KLt from hs)
  rw [insP]
  split
  ·rename_i hk
   rcases List.mem_cons.1 h with e | e
   ·rw [e] at hk; exact absurd hk qax
   ·exact absurd hk (qaP (h1.1 k e))
  split
  ·rfl
  ·rename_i hk
   rcases List.mem_cons.1 h with e | e
   ·exact absurd e hk
   ·rw [List.length_cons,qby h1.2 e,List.length_cons]
theorem qjs {k:Key} {a l:Prs} (h:∀ x∈a,KLt x.1 k):cutP k (a++l)=a++cutP k l:=by
 unfold cutP
 rw [List.filter_append,List.filter_eq_self.2]
 intro x hx
 exact decide_eq_true (qey (h x hx))
theorem qh0 {k:Key} {l b:Prs} (h:∀ x∈b,KLt k x.1):cutP k (l++b)=cutP k l++b:=by
 unfold cutP
 rw [List.filter_append]
 congr 1
 rw [List.filter_eq_self]
 intro x hx
 exact decide_eq_true fun e=>qey (h x hx) e.symm
theorem qsN {k w:Key} {a b:Prs} (ha:∀ x∈a,KLt x.1 k) (hb:∀ x∈b,KLt k x.1):cutP k (a++(k,w)::b)=a++b:=by
 rw [qjs ha,show (k,w)::b=[(k,w)]++b from rfl,qh0 hb]
 unfold cutP
 simp
theorem qqV {k:Key} {l:Prs} (h:SortP l):SortP (cutP k l):=List.Pairwise.sublist (List.Sublist.map _ List.filter_sublist) h
theorem qiC {k:Key} {l:Prs} {x:Key×Key}:x∈cutP k l↔x∈l/\x.1≠k:=by unfold cutP; rw [List.mem_filter]; simp
theorem SortP.app {a b:Prs}:SortP (a++b)↔SortP a/\SortP b/\∀ x∈a,∀ y∈b,KLt x.1 y.1:=by
 unfold SortP Rising keysP
 rw [List.map_append,List.pairwise_append]
 constructor
 ·rintro ⟨h1,h2,h3⟩
  exact ⟨h1,h2,fun x hx y hy=>h3 _ (List.mem_map_of_mem hx) _ (List.mem_map_of_mem hy)⟩
 ·rintro ⟨h1,h2,h3⟩
  refine ⟨h1,h2,fun a ha b hb=>?_⟩
  obtain ⟨x,hx,rfl⟩:=List.mem_map.1 ha
  obtain ⟨y,hy,rfl⟩:=List.mem_map.1 hb
  exact h3 x hx y hy
theorem qcv {l:Prs} {k:Key} (hs:SortP l):(∀ x∈l.take (placeV (keysP l) k),KLt x.1 k)/\∀ x∈l.drop (placeV (keysP l) k),KLe k x.1:=by
 refine ⟨fun x hx=>qno (l:=keysP l) ?_,fun x hx=>ql4 (l:=keysP l) hs ?_⟩
 ·rw [<- List.map_take]; exact List.mem_map_of_mem hx
 ·rw [<- List.map_drop]; exact List.mem_map_of_mem hx
theorem qp1 {l:Prs} {k v:Key} (hs:SortP l):insP k v l=if (keysP l)[placeV (keysP l) k]?=some k then l.set (placeV (keysP l) k) (k,v) else l.take (placeV (keysP l) k)++[(k,v)]++l.drop (placeV (keysP l) k):=by
 obtain ⟨h1,h2⟩:=qcv (k:=k) hs
 have hd:SortP (l.drop (placeV (keysP l) k)):=by unfold SortP keysP; rw [List.map_drop]; exact Rising.drop hs _
 generalize hi:placeV (keysP l) k=i at h1 h2 hd
 have hl:l=l.take i++l.drop i:=(List.take_append_drop i l).symm
 cases e:l.drop i with
 | nil=>
  have hn:l.length<=i:=List.drop_eq_nil_iff.1 e
  rw [if_neg (by rw [List.getElem?_eq_none (by rw [List.length_map]; exact hn)]; simp)]
  conv=>lhs; rw [hl,e]
  rw [qb9 h1]
  simp [insP]
 | cons x r=>
  have hx:=h2 x (by rw [e]; simp)
  have hlt:i<l.length:=by
   rcases Nat.lt_or_ge i l.length with h | h
   ·exact h
   ·rw [List.drop_eq_nil_of_le h] at e; cases e
  have hg:l[i]=x:=by
   have:=List.drop_eq_getElem_cons hlt
   rw [e] at this
   exact (List.cons.inj this).1.symm
  have hr:l.drop (i+1)=r:=by
   have:=List.drop_eq_getElem_cons hlt
   rw [e] at this
   exact (List.cons.inj this).2.symm
  have hgk:(keysP l)[i]?=some x.1:=by rw [List.getElem?_map,List.getElem?_eq_getElem hlt,hg]; rfl
  rw [hgk]
  by_cases hk:x.1=k
  ·rw [if_pos (by rw [hk])]
   conv=>lhs; rw [hl,e]
   obtain ⟨a,w⟩:=x
   dsimp only at hk
   subst hk
   rw [qr8 h1,List.set_eq_take_append_cons_drop,if_pos hlt,hr]
  ·rw [if_neg (fun h=>hk (Option.some.inj h))]
   have hlt2:KLt k x.1:=by
    rcases qeO.1 hx with h | h
    ·exact absurd h hk
    ·exact h
   conv=>lhs; rw [hl,e]
   rw [qq5 h1]
   ·simp
   ·intro y hy
    rcases List.mem_cons.1 hy with rfl | hy
    ·exact hlt2
    ·rw [e] at hd
     exact qaw hlt2 (qbf (x:=x.1) (r:=keysP r) hd y.1 (List.mem_map_of_mem hy))
theorem qbE {l:Prs} {k:Key} (hs:SortP l):(keysP l)[placeV (keysP l) k]?=some k↔k∈keysP l:=by
 constructor
 ·exact fun h=>List.mem_of_getElem? h
 ·intro hm
  obtain ⟨h1,h2⟩:=qcv (k:=k) hs
  obtain ⟨x,hx,rfl⟩:=List.mem_map.1 hm
  have hx2:x∈l.drop (placeV (keysP l) x.1):=by
   rw [<- List.take_append_drop (placeV (keysP l) x.1) l,List.mem_append] at hx
   rcases hx with hx | hx
   ·exact absurd (h1 x hx) qax
   ·exact hx
  have hd:SortP (l.drop (placeV (keysP l) x.1)):=by unfold SortP keysP; rw [List.map_drop]; exact Rising.drop hs _
  cases e:l.drop (placeV (keysP l) x.1) with
  | nil=>rw [e] at hx2; cases hx2
  | cons y r=>
   have hy:=h2 y (by rw [e]; simp)
   rw [e] at hx2 hd
   have he:y.1=x.1:=by
    rcases List.mem_cons.1 hx2 with rfl | hx2
    ·rfl
    ·exact absurd (qbf (x:=y.1) (r:=keysP r) hd x.1 (List.mem_map_of_mem hx2)) hy
   have h0:(l.drop (placeV (keysP l) x.1))[0]?=some y:=by rw [e]; rfl
   rw [List.getElem?_drop] at h0
   rw [List.getElem?_map,show l[placeV (keysP l) x.1]?=some y by simpa using h0,<- he]
   rfl
theorem qjn {l:Prs} {k:Key} (hs:SortP l) (hm:k∈keysP l):cutP k l=l.take (placeV (keysP l) k)++l.drop (placeV (keysP l) k+1):=by
 have hg:=(qbE hs).2 hm
 obtain ⟨h1,h2⟩:=qcv (k:=k) hs
 generalize placeV (keysP l) k=i at h1 h2 hg
 have hlt:i<l.length:=by
  have:=(List.getElem?_eq_some_iff.1 hg).1
  simpa using this
 have hl:l=l.take i++l[i]::l.drop (i+1):=by rw [<- List.drop_eq_getElem_cons hlt,List.take_append_drop]
 have hk:l[i].1=k:=by
  rw [List.getElem?_map,List.getElem?_eq_getElem hlt] at hg
  exact Option.some.inj hg
 have hd:SortP (l.drop i):=by unfold SortP keysP; rw [List.map_drop]; exact Rising.drop hs _
 rw [List.drop_eq_getElem_cons hlt] at hd
 conv=>lhs; rw [hl]
 obtain ⟨a,w,e⟩:∃ a w,l[i]=(a,w):=⟨_,_,rfl⟩
 rw [e] at hk hd ⊢
 dsimp only at hk
 subst hk
 exact qsN h1 fun y hy=>qbf (x:=a) (r:=keysP (l.drop (i+1))) hd y.1 (List.mem_map_of_mem hy)
theorem qsp {a b:Int} (h:IsB [a,b]):be (getV [a,b]) 2=[a,b]/\getV [a,b]=a*256+b:=by
 have ha:=h a (by simp)
 have hb:=h b (by simp)
 have e:getV [a,b]=a*256+b:=by
  rw [qe8 h (Nat.le_of_ble_eq_true rfl)]
  show ((0*256+a)*256+b)=_
  omega
 refine ⟨?_,e⟩
 rw [e,be2 (by omega)]
 congr 1
 ·omega
 congr 1
 ·omega
end Go.Proofs.YtmmkegapckbomaaGreatDoor
end
section
set_option linter.unusedVariables false
set_option linter.unusedSimpArgs false
namespace Go.Proofs.YtmmkegapckbomaaGreatDoor
open Go Go.Pt
open Classical
structure NodeM where
 leaf:Bool
 keys:List Key
 vals:List Key
 kids:List Int
def zeroN:NodeM:=⟨false,[],[],[]⟩
def capsV (k v:Nat):Nat×Nat:=if k<1\/k>24\/v>108 then (0,0) else (498 / (k+v),(498+k) / (4+k))
def rightV (n:NodeM) (k v:Nat):Prop:=
 (∀ a∈n.keys,a.length=k)/\(∀ a∈n.vals,a.length=v)/\Rising n.keys/\
 if n.leaf then n.kids=[]/\1<=n.keys.length/\n.keys.length<=(capsV k v).1/\n.vals.length=n.keys.length
 else (∀ x∈n.kids,2<=x)/\n.vals=[]/\2<=n.kids.length/\n.kids.length<=(capsV k v).2/\n.keys.length+1=n.kids.length
def leafB (keys vals:List Key):List Int:=(keys.zip vals).flatMap fun x=>x.1++x.2
def bodyN (n:NodeM):List Int:=if n.leaf then be n.keys.length 2++leafB n.keys n.vals else be n.kids.length 2++n.kids.flatMap (fun x=>be x 4)++n.keys.flatten
def kindN (n:NodeM):Int:=if n.leaf then 3 else 4
noncomputable def writeNV (n:NodeM) (k v:Nat):Int×List Int×Int:=if rightV n k v then (kindN n,bodyN n,0) else (0,[],1)
def leafR (k v:Nat):Nat->List Int->List Key×List Key
 | 0,_=>([],[])
 | c+1,b=>(b.take k::(leafR k v c (b.drop (k+v))).1,(b.drop k).take v::(leafR k v c (b.drop (k+v))).2)
def kidsR:Nat->List Int->List Int
 | 0,_=>[]
 | c+1,b=>getV (b.take 4)::kidsR c (b.drop 4)
def keysR (k:Nat):Nat->List Int->List Key
 | 0,_=>[]
 | c+1,b=>b.take k::keysR k c (b.drop k)
def countV (b:List Int):Nat:=(b.getD 0 0*256+b.getD 1 0).toNat
def leafN (k v:Nat) (b:List Int):NodeM:=⟨true,(leafR k v (countV b) (b.drop 2)).1,(leafR k v (countV b) (b.drop 2)).2,[]⟩
def innerN (k:Nat) (b:List Int):NodeM:=⟨false,keysR k (countV b-1) ((b.drop 2).drop (countV b*4)),[],kidsR (countV b) (b.drop 2)⟩
noncomputable def readNV (kind:Int) (b:List Int) (k v:Nat):NodeM×Int:=
 if (capsV k v).1=0\/b.length<2\/b.length>500 then (zeroN,2)
 else if kind=3/\(b.drop 2).length=countV b*(k+v)/\rightV (leafN k v b) k v then (leafN k v b,0)
 else if kind=4/\1<=countV b/\(b.drop 2).length=countV b*4+(countV b-1)*k/\rightV (innerN k b) k v then (innerN k b,0)
 else (zeroN,2)
theorem qnS {kind:Int} {b:List Int} {k v:Nat} (h:(readNV kind b k v).2=0):rightV (readNV kind b k v).1 k v:=by
 unfold readNV at h ⊢
 split at h
 ·cases h
 rename_i h1
 rw [if_neg h1]
 split at h
 ·rename_i h2; rw [if_pos h2]; exact h2.2.2
 rename_i h2
 rw [if_neg h2]
 split at h
 ·rename_i h3; rw [if_pos h3]; exact h3.2.2.2
 ·cases h
theorem qgm {k v:Nat}:∀ {keys vals:List Key},(∀ a∈keys,a.length=k)->(∀ a∈vals,a.length=v)->keys.length=vals.length->(leafB keys vals).length=keys.length*(k+v)
 | [],[],_,_,_=>by simp [leafB]
 | a::r,b::s,h1,h2,h3=>by
  have:=qgm (keys:=r) (vals:=s) (fun x hx=>h1 x (List.mem_cons_of_mem _ hx)) (fun x hx=>h2 x (List.mem_cons_of_mem _ hx)) (by simpa using h3)
  unfold leafB at this ⊢
  rw [List.zip_cons_cons,List.flatMap_cons,List.length_append,List.length_append,h1 a (by simp),h2 b (by simp),this,List.length_cons,Nat.add_mul]
  omega
 | [],_::_,_,_,h=>by simp at h
 | _::_,[],_,_,h=>by simp at h
theorem qoP {k v:Nat}:∀ {keys vals:List Key},(∀ a∈keys,a.length=k)->(∀ a∈vals,a.length=v)->keys.length=vals.length->leafR k v keys.length (leafB keys vals)=(keys,vals)
 | [],[],_,_,_=>rfl
 | a::r,b::s,h1,h2,h3=>by
  have ih:=qoP (k:=k) (v:=v) (keys:=r) (vals:=s) (fun x hx=>h1 x (List.mem_cons_of_mem _ hx)) (fun x hx=>h2 x (List.mem_cons_of_mem _ hx)) (by simpa using h3)
  have ha:=h1 a (by simp)
  have hb:=h2 b (by simp)
  have e:leafB (a::r) (b::s)=a++(b++leafB r s):=by unfold leafB; rw [List.zip_cons_cons,List.flatMap_cons,List.append_assoc]
  rw [List.length_cons,leafR,e]
  have e1:(a++(b++leafB r s)).take k=a:=by rw [<- ha,List.take_left']; rfl
  have e2:(a++(b++leafB r s)).drop k=b++leafB r s:=by rw [<- ha,List.drop_left']; rfl
  have e3:(a++(b++leafB r s)).drop (k+v)=leafB r s:=by rw [<- List.drop_drop,e2,<- hb,List.drop_left']; rfl
  have e4:(b++leafB r s).take v=b:=by rw [<- hb,List.take_left']; rfl
  rw [e3,ih,e1,e2,e4]
 | [],_::_,_,_,h=>by simp at h
 | _::_,[],_,_,h=>by simp at h
theorem qpg {r:List Int}:∀ {l:List Int},(∀ x∈l,0<=x/\x<4294967296)->kidsR l.length (l.flatMap (fun x=>be x 4)++r)=l
 | [],_=>rfl
 | a::l,h=>by
  have ih:=qpg (r:=r) (l:=l) fun x hx=>h x (List.mem_cons_of_mem _ hx)
  have hl:=qam a 4
  rw [List.length_cons,kidsR,List.flatMap_cons,List.append_assoc]
  generalize l.flatMap (fun x=>be x 4)++r=R at ih ⊢
  have e1:(be a 4++R).take 4=be a 4:=List.take_left' hl
  have e2:(be a 4++R).drop 4=R:=List.drop_left' hl
  rw [e1,e2,ih,qiB (h a (by simp))]
theorem qph {k:Nat}:∀ {l:List Key},(∀ a∈l,a.length=k)->keysR k l.length l.flatten=l
 | [],_=>rfl
 | a::l,h=>by
  have ih:=qph (k:=k) (l:=l) fun x hx=>h x (List.mem_cons_of_mem _ hx)
  have ha:=h a (by simp)
  rw [List.length_cons,keysR,List.flatten_cons]
  have e1:(a++l.flatten).take k=a:=by rw [<- ha]; exact List.take_left
  have e2:(a++l.flatten).drop k=l.flatten:=by rw [<- ha]; exact List.drop_left
  rw [e1,e2,ih]
theorem qgx (l:List Int):(l.flatMap fun x=>be x 4).length=l.length*4:=by
 induction l with
 | nil=>rfl
 | cons a l ih=>rw [List.flatMap_cons,List.length_append,ih,qam,List.length_cons]; omega
theorem qgT {k:Nat}:∀ {l:List Key},(∀ a∈l,a.length=k)->l.flatten.length=l.length*k
 | [],_=>by simp
 | a::l,h=>by rw [List.flatten_cons,List.length_append,qgT fun x hx=>h x (List.mem_cons_of_mem _ hx),h a (by simp),List.length_cons,Nat.add_mul]; omega
theorem qlI {n:Nat} (h:n<65536) (r:List Int):countV (be (n:Int) 2++r)=n:=by
 have h2:=qam (n:Int) 2
 obtain ⟨a,b,e⟩:∃ a b,be (n:Int) 2=[a,b]:=by
  match be (n:Int) 2,h2 with
  | [a,b],_=>exact ⟨a,b,rfl⟩
 have hB:=qbj (n:Int) 2
 have hv:=qmX (n:=(n:Int)) ⟨by omega,by omega⟩
 rw [e] at hB hv
 have:=(qsp hB).2
 rw [hv] at this
 unfold countV
 rw [e]
 show (a*256+b).toNat=n
 omega
theorem qpj {n:Int} {r:List Int}:(be n 2++r).drop 2=r:=by
 have:=List.drop_left (l₁:=be n 2) (l₂:=r)
 rw [qam] at this
 exact this
theorem qh4 (a b:Nat):a / b*b<=a:=Nat.div_mul_le_self a b
theorem qqA {k v c:Nat} (h:c<=(capsV k v).1):c*(k+v)<=498:=by
 unfold capsV at h
 split at h
 ·rw [show c=0 from Nat.le_zero.1 h]; omega
 ·exact Nat.le_trans (Nat.mul_le_mul_right _ h) (qh4 _ _)
theorem qqn {k v c:Nat} (h:c<=(capsV k v).2):c*4+(c-1)*k<=498:=by
 unfold capsV at h
 split at h
 ·rw [show c=0 from Nat.le_zero.1 h]; omega
 ·have h1:c*(4+k)<=498+k:=Nat.le_trans (Nat.mul_le_mul_right _ h) (qh4 _ _)
  cases c with
  | zero=>omega
  | succ c=>
   rw [Nat.add_sub_cancel]
   rw [Nat.add_mul,Nat.mul_add] at h1
   rw [Nat.add_mul]
   omega
theorem qer {k v:Nat}:(capsV k v).1<=498/\(capsV k v).2<=498:=by
 unfold capsV
 split
 ·exact ⟨by decide,by decide⟩
 ·exact ⟨Nat.div_le_self _ _,Nat.div_le_of_le_mul (by
   have:(498+k)<=(4+k)*498:=by rw [Nat.add_mul]; omega
   exact this)⟩
theorem qdH {n:NodeM} {k v:Nat} (h:rightV n k v):2<=(bodyN n).length/\(bodyN n).length<=500:=by
 obtain ⟨h1,h2,h3,h4⟩:=h
 unfold bodyN
 cases hl:n.leaf with
 | true=>
  rw [hl,if_pos rfl] at h4
  rw [if_pos rfl,List.length_append,qam,qgm h1 h2 h4.2.2.2.symm]
  have:=qqA h4.2.2.1
  omega
 | false=>
  rw [hl,if_neg (by decide)] at h4
  rw [if_neg (by decide),List.length_append,List.length_append,qam,qgx,qgT h1]
  have:=qqn h4.2.2.2.1
  have e:n.keys.length=n.kids.length-1:=by omega
  rw [e]
  omega
theorem qnJ {n:NodeM}:(⟨n.leaf,n.keys,n.vals,n.kids⟩:NodeM)=n:=rfl
theorem qpA {n:NodeM} {k v:Nat} (h:rightV n k v) (hk:∀ x∈n.kids,x<4294967296):readNV (kindN n) (bodyN n) k v=(n,0):=by
 have hlen:=qdH h
 have h0:=h
 obtain ⟨h1,h2,h3,h4⟩:=h
 have hcl:=(qer (k:=k) (v:=v))
 unfold readNV
 cases hl:n.leaf with
 | true=>
  rw [hl,if_pos rfl] at h4
  have hcnt:countV (bodyN n)=n.keys.length:=by unfold bodyN; rw [hl,if_pos rfl]; exact qlI (by omega) _
  have hdr:(bodyN n).drop 2=leafB n.keys n.vals:=by unfold bodyN; rw [hl,if_pos rfl]; exact qpj
  have hN:leafN k v (bodyN n)=n:=by
   unfold leafN
   rw [hcnt,hdr,qoP h1 h2 h4.2.2.2.symm]
   rw [<- qnJ (n:=n),hl,h4.1]
  rw [if_neg (by omega),if_pos ⟨by unfold kindN; rw [hl]; rfl,by rw [hcnt,hdr,qgm h1 h2 h4.2.2.2.symm],by rw [hN]; exact h0⟩,hN]
 | false=>
  rw [hl,if_neg (by decide)] at h4
  have hb:bodyN n=be n.kids.length 2++(n.kids.flatMap (fun x=>be x 4)++n.keys.flatten):=by unfold bodyN; rw [hl,if_neg (by decide),List.append_assoc]
  have hcnt:countV (bodyN n)=n.kids.length:=by rw [hb]; exact qlI (by omega) _
  have hdr:(bodyN n).drop 2=n.kids.flatMap (fun x=>be x 4)++n.keys.flatten:=by rw [hb]; exact qpj
  have hkl:n.keys.length=n.kids.length-1:=by omega
  have hN:innerN k (bodyN n)=n:=by
   unfold innerN
   have e:(n.kids.flatMap (fun x=>be x 4)++n.keys.flatten).drop (n.kids.length*4)=n.keys.flatten:=by rw [<- qgx]; exact List.drop_left
   rw [hcnt,hdr,qpg fun x hx=>⟨by have:=h4.1 x hx; omega,hk x hx⟩,e,<- hkl,qph h1]
   rw [<- qnJ (n:=n),hl,h4.2.1]
  have hc1:1<=(capsV k v).1:=by
   have h5:=h4.2.2.2.1
   have h6:=h4.2.2.1
   unfold capsV at h5 ⊢
   by_cases hc:k<1\/k>24\/v>108
   ·rw [if_pos hc] at h5
    have h8:n.kids.length<=0:=h5
    omega
   ·rw [if_neg hc]
    have h7:k+v<=498:=by omega
    exact (Nat.le_div_iff_mul_le (show 0<k+v by omega)).2 (by rw [Nat.one_mul]; exact h7)
  rw [if_neg (by omega),if_neg (fun h=>by unfold kindN at h; rw [hl] at h; exact absurd h.1 (by decide)),if_pos ⟨by unfold kindN; rw [hl]; rfl,by rw [hcnt]; omega,by rw [hcnt,hdr,List.length_append,qgx,qgT h1,hkl],by rw [hN]; exact h0⟩,hN]
theorem IsB.flat {l:List Key} (h:∀ a∈l,IsB a):IsB l.flatten:=fun x hx=>by
 obtain ⟨a,ha,hx⟩:=List.mem_flatten.1 hx
 exact h a ha x hx
theorem qlM {n:NodeM} (h1:∀ a∈n.keys,IsB a) (h2:∀ a∈n.vals,IsB a):IsB (bodyN n):=by
 unfold bodyN
 split
 ·refine (qbj _ _).append fun x hx=>?_
  obtain ⟨y,hy,hx⟩:=List.mem_flatMap.1 hx
  have hm:=List.of_mem_zip (a:=y.1) (b:=y.2) hy
  rcases List.mem_append.1 hx with hx | hx
  ·exact h1 _ hm.1 x hx
  ·exact h2 _ hm.2 x hx
 ·refine ((qbj _ _).append fun x hx=>?_).append (IsB.flat h1)
  obtain ⟨y,_,hx⟩:=List.mem_flatMap.1 hx
  exact qbj _ _ x hx
end Go.Proofs.YtmmkegapckbomaaGreatDoor
end
