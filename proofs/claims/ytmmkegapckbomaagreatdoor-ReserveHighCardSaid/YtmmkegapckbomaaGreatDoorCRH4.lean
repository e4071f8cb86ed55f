/- Texts PmC, PrJ, PrK, PrL, PrM, PmD, PmE, PrN, PmO, PrQ, PmN, TrC, TrD, PtT, NdB, TrE, TrF, NdC, ReA, NdD, NdE, NdF, NdG, NdH: contracts of the program's functions, one behind the other. Conditions: those that stand in each line. -/
import Derived.Test.YtmmkegapckbomaaGreatDoorCRH3
import Derived.Test.YtmmkegapckbomaaGreatDoorCRH1
import Derived.Test.YtmmkegapckbomaaGreatDoorCRH2
import Derived.Lib.SliceRun
import Derived.Lib.Overlaps
import Derived.Lib.AppendZerosOnto
section
set_option linter.unusedVariables false
set_option linter.unusedSimpArgs false
namespace Go.Proofs.YtmmkegapckbomaaGreatDoor
open Go Go.Pt
attribute [local irreducible] ld ldA ldV fld fldA newZ st new idx idxS idxA slc slcS slcP mkS chk nn call callV inv run runQ runU join loop held ext rng undefer s2a nxt ent IntKind.wrap
theorem andThen_ok {D:DiskM} {f:DiskM->DiskM×Int}:andThen (D,0) f=f D:=if_pos rfl
structure SupOk (s:Sup):Prop where
 seq:0<=s.1/\s.1<4611686018427387904
 len:s.2.length=27
 u32:∀ x∈s.2,U32 x
theorem SupOk.place {s:Sup} (h:SupOk s):Int.tmod s.1 2=s.1%2:=Int.tmod_eq_emod_of_nonneg h.seq.1
theorem SupOk.superP {s:Sup} (h:SupOk s):superP s=(s.1%2,sealV (s.1%2) 1 (superB s.1 s.2)):=by
 rw [Go.Proofs.YtmmkegapckbomaaGreatDoor.superP,h.place,qaV _ (by omega)]
theorem SupOk.read {s:Sup} (h:SupOk s):readSV (s.1%2) (sealV (s.1%2) 1 (superB s.1 s.2))=(s,0):=by
 have:=h.seq
 exact qoq (by constructor <;> omega) h.len h.u32 h.place
theorem SupOk.sealLen {s:Sup} (h:SupOk s) (p:Int):(sealV p 1 (superB s.1 s.2)).length=512:=qcH (by rw [qbH h.len]; decide)
theorem Quiet.sealOk {D:DiskM} {s:Sup} (h:Quiet D) (hs:SupOk s) (hz:8<=D.size) :
  ∃ D',sealM D s=(D',0)/\Quiet D'/\D'.size=D.size/\D'.waits=[]/\view D' (s.1%2)=sealV (s.1%2) 1 (superB s.1 s.2)/\∀ m,0<=m->m≠s.1%2->view D' m=view D m:=by
 obtain ⟨D1,e1,q1,s1,v1⟩:=h.write (n:=s.1%2) (l:=sealV (s.1%2) 1 (superB s.1 s.2)) (by omega) (hs.sealLen _)
 obtain ⟨D2,e2,q2,s2,w2,v2⟩:=q1.sync
 refine ⟨D2,?_,q2,s2.trans s1,w2,by rw [v2 _ (by omega),v1,if_pos rfl],fun m hm hne=>by rw [v2 m hm,v1,if_neg hne]⟩
 rw [sealM,hs.superP]
 show andThen (writeM D (s.1%2) _) syncM=_
 rw [e1]
 exact e2
theorem qoK {p:Int}:(readSV p (zs 512)).2≠0:=by
 have hk:(openV p (zs 512)).1=0:=by
  unfold openV
  split <;> (try rfl)
  split <;> (try rfl)
  split <;> (try rfl)
  split <;> (try rfl)
  split <;> rfl
 unfold readSV
 generalize openV p (zs 512)=o at hk ⊢
 by_cases h:o.2.2≠0
 ·rw [if_pos h]; exact h
 ·have hc:o.1≠1\/o.2.1.length≠116:=.inl (by rw [hk]; decide)
  rw [if_neg h,if_pos hc]
  exact (by decide:(2:Int)≠0)
theorem qo7 {n i:Nat} (h:i<n-2):(allV n)[i]?=some ((i:Int)+2):=by rw [allV,List.getElem?_map,List.getElem?_range h]; rfl
theorem qfv (n:Nat):(allV n).length=n-2:=by simp [allV]
theorem qfh {n:Nat} {x:Int}:x∈allV n↔2<=x/\x<n:=by
 rw [allV,List.mem_map]
 constructor
 ·rintro ⟨i,hi,rfl⟩
  rw [List.mem_range] at hi
  omega
 ·rintro ⟨h1,h2⟩
  exact ⟨(x-2).toNat,by rw [List.mem_range]; omega,by omega⟩
theorem qfk (n:Nat):(allV n).Pairwise (· < ·):=by
 rw [allV,List.pairwise_map]
 exact List.pairwise_lt_range.imp (fun h=>by omega)
theorem qjM {n:Nat}:n<=124*needP n:=by
 unfold needP
 split
 ·omega
 ·have:=Nat.div_add_mod (n-1) 124
  have:=Nat.mod_lt (n-1) (show 0<124 by decide)
  omega
theorem qiU {n:Nat}:needP n<=n:=by
 unfold needP
 split
 ·omega
 ·have:=Nat.div_le_self (n-1) 124
  omega
theorem qjL {n:Nat}:ListOk n ((allV n).drop (needP (allV n).length)) ((allV n).take (needP (allV n).length)) where
 rises:=(qfk n).sublist (List.drop_sublist _ _)
 nums:=fun x hx=>qfh.1 (List.mem_of_mem_drop hx)
 pgs:=fun x hx=>qfh.1 (List.mem_of_mem_take hx)
 nodup:=(qfw (qfk n)).sublist (List.take_sublist _ _)
 apart:=fun x hx hm=>by
  have h:=qfw (qfk n)
  rw [<- List.take_append_drop (needP (allV n).length) (allV n),List.nodup_append] at h
  exact h.2.2 x hx x hm rfl
 room:=by
  have h1:=qjM (n:=(allV n).length)
  have h2:=qiU (n:=(allV n).length)
  rw [List.length_drop,List.length_take,Nat.min_eq_left h2]
  omega
theorem qgU {n:Nat} (h8:8<=n) (h4:n<=4096):SupOk (fmtSup n) where
 seq:=⟨(by decide:(0:Int)<=1),(by decide:(1:Int)<4611686018427387904)⟩
 len:=rfl
 u32:=fun x hx=>by
  simp only [fmtSup,List.mem_append,List.mem_cons,List.not_mem_nil,or_false] at hx
  rcases hx with (rfl | rfl | rfl) | hx
  ·exact qaS _
  ·exact ⟨by decide,by decide⟩
  ·exact qaS _
  ·have:=List.eq_of_mem_replicate hx
   subst this
   exact ⟨by decide,by decide⟩
theorem qmE {D:DiskM} {n:Nat} (h:Quiet D) (hn:D.size=n) (h8:8<=n) (h4:n<=4096) :
  ∃ D',formatM D=(D',0)/\Quiet D'/\D'.size=n/\D'.waits=[]/\Opens D' (fmtSup n) ((allV n).take (needP (allV n).length)) ((allV n).drop (needP (allV n).length))/\view D' 0=zs 512:=by
 have hsn:D.safe.length=n:=by have:(D.safe.length:Int)=n:=hn; omega
 obtain ⟨D1,e1,q1,s1,v1⟩:=h.write (n:=0) (l:=zs 512) (by omega) (qaN _)
 obtain ⟨D2,e2,q2,s2,v2⟩:=q1.write (n:=1) (l:=zs 512) (by omega) (qaN _)
 obtain ⟨D3,e3,q3,s3,w3,v3⟩:=q2.sync
 have hs3:D3.size=n:=by omega
 have hl3:D3.safe.length=n:=by have:(D3.safe.length:Int)=n:=hs3; omega
 have hlk:=qjL (n:=n)
 rw [<- hs3] at hlk
 obtain ⟨D4,e4,q4,s4,w4,l4,v4⟩:=q3.spread hlk
 have hs4:D4.size=n:=by omega
 have hl4:D4.safe.length=n:=by have:(D4.safe.length:Int)=n:=hs4; omega
 obtain ⟨D5,e5,q5,s5,w5,p5,v5⟩:=q4.sealOk (qgU h8 h4) (by omega)
 have hf1:(fmtSup n).1%2=1:=rfl
 rw [hf1] at p5 v5
 have hpg:=hlk.pgs
 have z0:view D5 0=zs 512:=by
  rw [v5 0 (by decide) (by decide),v4 0 (by decide) (fun hm=>by have:=hpg 0 hm; omega),v3 0 (by decide),v2,if_neg (by decide),v1,if_pos rfl]
 refine ⟨D5,?_,q5,by omega,w5,?_,z0⟩
 ·rw [formatM,e1,andThen_ok,e2,andThen_ok,e3,andThen_ok,hl3,e4,andThen_ok,hl4,e5]
 ·have hk1:1<=needP (allV n).length:=by
   have:=qjM (n:=(allV n).length)
   rw [qfv] at this ⊢
   omega
  refine { down:=q5.down,size:=by omega,newest:=?_,blocks:=?_,list:=?_,free:=?_,ok:=by rw [show D5.size=D3.size by omega]; exact hlk,listed:=fun i p hp=>?_ }
  ·have hr:=(qgU h8 h4).read
   rw [hf1] at hr
   rw [z0,p5,newestV,hr,if_neg (by simp),if_pos (.inl qoK)]
  ·show IntKind.wrap .u32 (n:Int)=_
   rw [qaV _ (by omega)]; omega
  ·have:(allV n).take (needP (allV n).length)=2::((allV n).take (needP (allV n).length)).drop 1:=by
    have h0:(allV n)[0]?=some 2:=by rw [qo7 (by omega)]; rfl
    obtain ⟨k,hk⟩:∃ k,needP (allV n).length=k+1:=⟨needP (allV n).length-1,by omega⟩
    rw [hk]
    cases hA:allV n with
    | nil=>rw [hA] at h0; cases h0
    | cons a r=>rw [hA] at h0; simp at h0; subst h0; rfl
   rw [this]
   rfl
  ·show IntKind.wrap .u32 _=_
   have:=qiU (n:=(allV n).length)
   rw [List.length_drop,qaV _ (by rw [qfv] at *; omega)]
   omega
  ·have:=hpg p (List.mem_of_getElem? hp)
   rw [v5 p (by omega) (by omega)]
   exact l4 i p hp
theorem qpr (n:Nat):Quiet (newM n):=⟨rfl,rfl,fun x hx=>by cases hx⟩
theorem qr1 (n:Nat):(newM n).size=n:=by show ((List.replicate n Blk.zero).length:Int)=n; simp
def newestM (D:DiskM):Sup×Int:=
 if (readV D 0).2≠0 then (supZero,(readV D 0).2) else if (readV D 1).2≠0 then (supZero,(readV D 1).2) else newestV (readV D 0).1 (readV D 1).1
theorem qoJ (D:DiskM):(newestM D).1.2.length=27:=by
 unfold newestM
 split
 ·rfl
 split
 ·rfl
 ·exact qif _ _
theorem qqu {w:World} {dbk:Nat} {FD:List Nat} {D:DiskM} {K:List Value×Int->World->Prop} (h:DiskAt w dbk FD D) (hD:D.Ok) (hv:Hv w)
  (hk:∀ w',Fr [] w w'->K (supV (newestM D).1.1 (newestM D).1.2,(newestM D).2) w') :
  call Tryz.prog 96 [.pointer (some ⟨dbk,0,none⟩)] [.raw,.one (.int .i64)] w K:=by
 refine qj8 (d:=some ⟨dbk,0,none⟩) ?_
 unfold qfP
 refine Own.newZ (Own.start [] w) qfx fun r w1 e1 ho=>?_
 refine qfC (h.frame0 ho.fr) hD fun s2 B2 w2 b2 f2 n2=>?_
 have ho:=ho.frame0 f2
 refine qab (fun hc=>?_) (fun hc=>?_)
 ·have hc:(readV D 0).2≠0:=by simpa using hc
  refine qda ?_
  refine qbI ho 0 rfl rfl rfl fun w3 f3=>?_
  have:=hk w3 f3
  rw [newestM,if_pos hc] at this
  exact this
 have hc0:¬ (readV D 0).2≠0:=by simpa using hc
 refine qfC (h.frame0 ho.fr) hD fun s3 B3 w3 b3 f3 n3=>?_
 have ho:=ho.frame0 f3
 refine qab (fun hc=>?_) (fun hc=>?_)
 ·have hc:(readV D 1).2≠0:=by simpa using hc
  refine qda ?_
  refine qbI ho 0 rfl rfl rfl fun w3 f3=>?_
  have:=hk w3 f3
  rw [newestM,if_neg hc0,if_pos hc] at this
  exact this
 have hc1:¬ (readV D 1).2≠0:=by simpa using hc
 have i0:=qbp hD 0
 have i1:=qbp hD 1
 refine qpJ ((b2.frame0 f3).rds qas (S:=[]) (by simp)) (b3.rds qas (S:=[]) (by simp)) (hv.frame0 ho.fr) i0.1 i1.1 (by omega) (by omega) fun w4 f4=>?_
 refine qbI (ho.frame0 f4) 0 rfl rfl (qif _ _) fun w5 f5=>?_
 have:=hk w5 f5
 rw [newestM,if_neg hc0,if_neg hc1] at this
 exact this
theorem qnA (D:DiskM):openM D=if (newestM D).2≠0 then (none,(newestM D).2) else if (newestM D).1.2.getD 0 0≠D.safe.length then (none,2) else
  match loadM D (newestM D).1 with | none=>(none,2) | some x=>(some (begunM (newestM D).1 x.1 x.2 1 false x.2),0):=by
 unfold openM newestM
 by_cases h0:(readV D 0).2≠0
 ·rw [if_pos h0,if_pos h0]; exact (if_pos h0).symm
 ·rw [if_neg h0,if_neg h0]
  by_cases h1:(readV D 1).2≠0
  ·rw [if_pos h1,if_pos h1]; exact (if_pos h1).symm
  ·rw [if_neg h1,if_neg h1] <;> rfl
theorem pgZ:(Tryz.prog.info? PGT).bind (·.zero)=some (.agg (pgRaw none supZero ⟨none,0,0⟩ ⟨none,0,0⟩ 0 false (workV none none none (zs 24)))):=by kernel_rfl
theorem qsi {d:Option Addr} {q:Int} {t:List Int} (ht:t.length=27) (w:World) :
  (Instr.build PGT #[(0,.pointer d),(1,.agg (supV q t).toArray)]).run Tryz.prog w=.ok (.agg (pgRaw d (q,t) ⟨none,0,0⟩ ⟨none,0,0⟩ 0 false (workV none none none (zs 24)))) w:=by
 refine qgZ (parts:=[(0,.pointer d),(1,.agg (supV q t).toArray)]) (offs:=#[(0,1),(1,28),(29,1),(30,1),(31,1),(32,1),(33,27)]) pgZ (by kernel_rfl) (fun w=>by kernel_rfl) ?_ w
 have hs:(Value.agg (supV q t).toArray).cells.size=28:=qgk ht
 rw [qaZ (o:=0) (s:=1) rfl rfl (Nat.le_of_ble_eq_true rfl),qaZ (o:=1) (s:=28) rfl hs (Nat.le_of_ble_eq_true rfl)]
 show some _=_
 congr 1
 have h1:splice (Value.agg (pgRaw none supZero ⟨none,0,0⟩ ⟨none,0,0⟩ 0 false (workV none none none (zs 24)))).cells 0 (Value.pointer d).cells.toList=pgRaw d supZero ⟨none,0,0⟩ ⟨none,0,0⟩ 0 false (workV none none none (zs 24)):=rfl
 rw [h1]
 have:=qbt (A:=[Value.pointer d]) (X:=supV 0 (zs 27)) (Y:=supV q t) (Z:=[.slice none 0 0,.slice none 0 0,.int .i64 0,.bool false]++workV none none none (zs 24)) (by rw [qaI ht]; rfl)
 refine Eq.trans ?_ (this.trans ?_)
 ·show splice (pgRaw d supZero ⟨none,0,0⟩ ⟨none,0,0⟩ 0 false (workV none none none (zs 24))) 1 (supV q t)=_
  congr 1
 ·simp [pgRaw]
theorem qkt (place:Int) (l:List Int):∀ x∈(readSV place l).1.2,U32 x:=by
 have hz:∀ x∈supZero.2,U32 x:=fun x hx=>by
  have:=List.eq_of_mem_replicate (show x∈List.replicate 27 (0:Int) from hx)
  subst this
  exact ⟨by decide,by decide⟩
 unfold readSV
 split
 ·exact hz
 split
 ·exact hz
 split
 ·exact hz
 ·intro x hx
  obtain ⟨i,_,rfl⟩:=List.mem_map.1 hx
  exact qgl
theorem qol (D:DiskM):∀ x∈(newestM D).1.2,U32 x:=by
 have hz:∀ x∈supZero.2,U32 x:=fun x hx=>by
  have:=List.eq_of_mem_replicate (show x∈List.replicate 27 (0:Int) from hx)
  subst this
  exact ⟨by decide,by decide⟩
 unfold newestM
 split
 ·exact hz
 split
 ·exact hz
 unfold newestV
 split
 ·exact hz
 split
 ·exact qkt _ _
 ·exact qkt _ _
theorem qsX {l:List Int} (h:∀ x∈l,U32 x) (n:Nat):U32 (l.getD n 0):=by
 rw [List.getD_eq_getElem?_getD]
 cases he:l[n]? with
 | none=>exact ⟨by decide,by decide⟩
 | some x=>exact h x (List.mem_of_getElem? he)
theorem qr3 {w:World} {dbk:Nat} {FD:List Nat} {D:DiskM} {K:Option Addr×Int->World->Prop} (X:List Nat) (hXl:∀ b∈X,b<w.heap.size) (h:DiskAt w dbk FD D) (hD:D.Ok) (hv:Hv w)
  (hno:(openM D).1=none->∀ w',Fr [] w w'->K (none,(openM D).2) w')
  (hk:∀ pb F M w',openM D=(some M,0)->PagerAt w' X pb (some ⟨dbk,0,none⟩) F M->Fr [] w w'->(∀ b∈F,w.heap.size<=b)->K (some ⟨pb,0,none⟩,0) w') :
  call Tryz.prog 56 [.pointer (some ⟨dbk,0,none⟩)] [.one .ptr,.one (.int .i64)] w K:=by
 refine qmc (d:=some ⟨dbk,0,none⟩) ?_
 unfold qhV
 refine qqu h hD hv fun w1 f1=>?_
 have hsl:=qoJ D
 have hu:=qsX (qol D)
 have hopen:=qnA D
 generalize hs:newestM D=sm at hsl hu hopen
 obtain ⟨sup,e⟩:=sm
 simp only at hsl hu hopen
 refine Own.newZ ((Own.start [] w).frame0 f1) qfx fun r w2 e2 ho=>?_
 refine qg6 ho 0 rfl rfl hsl fun w3 ho=>?_
 refine qab (fun hc=>?_) (fun hc=>?_)
 ·have hc:e≠0:=by simpa using hc
  rw [if_pos hc] at hopen
  have:=hno (by rw [hopen]) w3 ho.fr
  rw [hopen] at this
  exact this
 have he0:¬ e≠0:=by simpa using hc
 rw [if_neg he0] at hopen
 refine qhe (ho.at (i:=0) rfl) hsl ?_
 refine qbl (ts:=[Ty1.raw]) (pgRaw (some ⟨dbk,0,none⟩) (sup.1,sup.2) ⟨none,0,0⟩ ⟨none,0,0⟩ 0 false (workV none none none (zs 24))).toList (qsi hsl w3) ?_
 refine Own.new' ho fun pb w4 e4 f4 ho4=>?_
 have f04:=ho4.fr
 have hd4:=h.frame0 f04
 have hpFD:∀ b∈FD,b<w4.heap.size/\b≠pb:=fun b hb=>by
  have h1:=h.lt b hb
  have:=f04.size
  have:=ho.fr.size
  constructor <;> omega
 have hpX:∀ b∈X,b<w4.heap.size/\b≠pb:=fun b hb=>by
  have h1:=hXl b hb
  have:=f04.size
  have:=ho.fr.size
  constructor <;> omega
 have hsafe:=hD.safe
 have hcell:w4.heap[pb]?=some (.cells (pgRaw (some ⟨dbk,0,none⟩) sup ⟨none,0,0⟩ ⟨none,0,0⟩ 0 false (workV none none none (zs 24))) PGT (0,0)):=ho4.at (i:=0) rfl
 have hsup:w4.heap[r]?=some (.cells (supV sup.1 sup.2).toArray 121 (0,0)):=ho4.at (i:=1) rfl
 have hpw:w.heap.size<=pb:=by have:=ho.fr.size; omega
 have hpv:pb≠HG:=by have:=hv.lt; omega
 refine qag (fun b w'=>(b=true/\(openM D).1=none/\(openM D).2=2/\Fr [] w w')\/(b=false/\∃ sl sn lists named,openM D=(some (begunM sup lists named 1 false named),0)/\Own [pb] w4 w' [(pb,.cells (pgRaw (some ⟨dbk,0,none⟩) sup sl sn 0 false (workV none none none (zs 24))) PGT (0,0))]/\Rd (X++[pb]) w' sl lists/\Rd (X++[pb]) w' sn named/\named.Pairwise (· < ·)/\named.length<=100000)) ?_ ?_
 ·refine qaq (w:=w4.drew) (c:=.int .u32) hsup (sup.2.getD 0 0) (qex 0 (by omega)) ?_
  refine qgG (hd4.frame0 (Fr.refl [] w4).drew) ?_
  refine qah (by rw [qai (w:=w4.drew) hsup]; exact qex 0 (by omega)) ?_
  rw [qaV (D.safe.length:Int) (by omega)]
  refine qab (fun hc=>?_) (fun hc=>?_)
  ·have hc:sup.2.getD 0 0≠(D.safe.length:Int):=by
    intro h; rw [h] at hc; simp at hc
   rw [if_pos hc] at hopen
   exact .inl ⟨rfl,by rw [hopen],by rw [hopen],f04.drew⟩
  have hc:sup.2.getD 0 0=(D.safe.length:Int):=by
   by_cases h:sup.2.getD 0 0=(D.safe.length:Int)
   ·exact h
   ·rw [show ((sup.2.getD 0 0==(D.safe.length:Int))=false) by rw [beq_eq_false_iff_ne]; exact h] at hc; cases hc
  rw [if_neg (by rw [hc]; simp)] at hopen
  have f4d:Fr [] w4 w4.drew:=(Fr.refl [] w4).drew
  refine qsl (pb:=pb) (D:=D) (sup:=sup) (FD:=FD) (w:=w4.drew) hcell hsl (qcA (by rfl)) (hd4.frame0 f4d) hD ((hv.frame0 f04).frame0 f4d) (fun hb=>(hpFD pb hb).2 rfl) hpv (by omega) (hu 1) (hu 2) (fun hl w5 f5=>?_) (fun sl sn lists named w5 hl ho5 r12=>?_)
  ·rw [hl] at hopen
   refine .inl ⟨rfl,by rw [hopen],by rw [hopen],(f04.trans f4d).trans' f5 fun b hb=>by simp at hb; subst hb; exact .inr hpw⟩
  ·rw [hl] at hopen
   have hnb:namedB (sup.2.getD 0 0) lists 0 named=true:=by
    unfold loadM at hl
    split at hl
    ·cases hl
    ·rename_i x hx
     split at hl
     ·rename_i hh
      cases hl
      exact hh.1
     ·cases hl
   have hnb:=(qfc _ _ _ _).1 hnb
   have hlen:named.length<=100000:=by
    have:=qc7 (n:=sup.2.getD 0 0+1) (l:=named.map (·+1)) (by
     rw [List.Nodup,List.pairwise_map]
     exact hnb.2.imp (fun h=>by omega)) (fun x hx=>by
     obtain ⟨y,hy,rfl⟩:=List.mem_map.1 hx
     have:=hnb.1 y hy
     omega)
    rcases this with h | h
    ·rw [List.length_map] at h; omega
    ·have:=congrArg List.length h; simp at this; simp [this]
   have hXpb:∀ b∈X++[pb],b<w4.drew.heap.size:=fun b hb=>by
    rcases List.mem_append.1 hb with hb | hb
    ·exact (hpX b hb).1
    ·rw [List.mem_singleton.1 hb]; exact qac hcell
   refine .inr ⟨rfl,sl,sn,lists,named,hopen,⟨ho5.blk,ho5.nodup,(f4d.mono (fun b hb=>by cases hb)).trans ho5.fr,ho5.own⟩,(r12 _ hXpb).1,(r12 _ hXpb).2,hnb.2,hlen⟩
 rintro b w5 (⟨rfl,h1,h2,f5⟩ | ⟨rfl,sl,sn,lists,named,hop,ho5,r1,r2,hp,hlen⟩)
 ·refine cond_true rfl ?_
  have:=hno h1 w5 f5
  rw [h2] at this
  exact this
 ·refine cond_false rfl ?_
  have hX:∀ b∈X,b<w5.heap.size/\b≠pb:=fun b hb=>⟨Nat.lt_of_lt_of_le (hpX b hb).1 ho5.fr.size,(hpX b hb).2⟩
  refine qrP (X:=X) (ho5.at (i:=0) rfl) hsl (qcA (by rfl)) (by decide) hX r1 r2 hlen fun F w6 hp6 f6 n6=>?_
  rw [qqI hp] at hp6
  refine hk pb F _ w6 hop hp6 ((f04.trans' ho5.fr fun b hb=>by simp at hb; subst hb; exact .inr hpw).trans' f6 fun b hb=>by simp at hb; subst hb; exact .inr hpw) fun b hb=>?_
  rcases n6 b hb with h | h
  ·rw [h]; exact hpw
  ·exact Nat.le_trans (Nat.le_trans f04.size ho5.fr.size) h
structure Lim (D:DiskM) (k:Nat):Prop where
 ok:D.Ok
 waits:D.waits.length<=k
 writes:D.writes<=k
theorem qoZ {D:DiskM} (h:D.Ok):(actM D).1.Ok/\(actM D).1.writes=D.writes:=by
 have hf:=h.fuse
 unfold actM
 split
 ·exact ⟨⟨h.at_,hf,h.safe,h.waits,h.writes,h.bytesS,h.bytesW⟩,rfl⟩
 ·split
  ·exact ⟨⟨h.at_,⟨by show -1<=D.fuse-1; omega,by show D.fuse-1<=_; omega⟩,h.safe,h.waits,h.writes,h.bytesS,h.bytesW⟩,rfl⟩
  ·exact ⟨h,rfl⟩
theorem Lim.mono {D:DiskM} {k k':Nat} (h:Lim D k) (hk:k<=k'):Lim D k':=⟨h.ok,Nat.le_trans h.waits hk,by have:=h.writes; omega⟩
theorem Lim.write {D:DiskM} {k:Nat} {n:Int} {l:List Int} (h:Lim D k) (hk:k<1000000) (hl:IsB l):Lim (writeM D n l).1 (k+1):=by
 unfold writeM
 split
 ·exact h.mono (by omega)
 split
 ·exact h.mono (by omega)
 split
 ·rename_i h1 h2 h3
  have ha:(addW D n ⟨l,h3⟩).Ok:={
   at_:=fun x hx=>by
    rcases List.mem_append.1 hx with hx | hx
    ·exact h.ok.at_ x hx
    ·simp at hx; subst hx; show 0<=n/\n<(D.safe.length:Int); omega
   fuse:=h.ok.fuse
   safe:=h.ok.safe
   waits:=by show (D.waits++[_]).length<=_; have:=h.waits; simp; omega
   writes:=⟨by show 0<=D.writes+1; have:=h.ok.writes; omega,by show D.writes+1<=_; have:=h.writes; omega⟩
   bytesS:=h.ok.bytesS
   bytesW:=fun x hx=>by
    rcases List.mem_append.1 hx with hx | hx
    ·exact h.ok.bytesW x hx
    ·simp at hx; subst hx; exact hl }
  obtain ⟨h4,h5⟩:=qoZ ha
  refine ⟨h4,?_,?_⟩
  ·show (actM (addW D n ⟨l,h3⟩)).1.waits.length<=k+1
   rw [(qcJ _).2]
   show (D.waits++[_]).length<=_
   have:=h.waits
   simp; omega
  ·show (actM (addW D n ⟨l,h3⟩)).1.writes<=((k+1:Nat):Int)
   rw [h5]
   show D.writes+1<=_
   have:=h.writes
   omega
 ·exact h.mono (by omega)
theorem qo9:∀ (l:List (Int×Blk)) (s:List Blk),(∀ x∈l,IsB x.2.1)->(∀ b∈s,IsB b.1)->∀ b∈l.foldl laySafe s,IsB b.1
 | [],s,_,h=>h
 | x::l,s,hl,h=>qo9 l (laySafe s x) (fun y hy=>hl y (List.mem_cons_of_mem _ hy)) fun b hb=>by
  rcases List.mem_or_eq_of_mem_set hb with hb | rfl
  ·exact h b hb
  ·exact hl x (by simp)
theorem Lim.sync {D:DiskM} {k:Nat} (h:Lim D k):Lim (syncM D).1 k:=by
 obtain ⟨h4,h5⟩:=qoZ h.ok
 unfold syncM
 split
 ·exact h
 split
 ·exact ⟨h4,by show (actM D).1.waits.length<=k; rw [(qcJ D).2]; exact h.waits,by show (actM D).1.writes<=_; rw [h5]; exact h.writes⟩
 ·refine ⟨⟨(fun x hx=>by cases hx),h4.fuse,?_,by simp,h4.writes,?_,(fun x hx=>by cases hx)⟩,by simp,by show (actM D).1.writes<=_; rw [h5]; exact h.writes⟩
  ·show (D.waits.foldl laySafe D.safe).length<=4096
   rw [qbK]; exact h.ok.safe
  ·exact qo9 _ _ h.ok.bytesW h.ok.bytesS
theorem Lim.then {r:DiskM×Int} {f:DiskM->DiskM×Int} {k k':Nat} (h:Lim r.1 k) (hk:k<=k') (hf:∀ D,Lim D k->Lim (f D).1 k'):Lim (andThen r f).1 k':=by
 unfold andThen
 split
 ·exact hf _ h
 ·exact h.mono hk
theorem Lim.writes':∀ {l:List (Int×List Int)} {D:DiskM} {k:Nat},Lim D k->k+l.length<=1000000->(∀ x∈l,IsB x.2)->Lim (writesM l D).1 (k+l.length)
 | [],D,k,h,_,_=>h
 | x::l,D,k,h,hk,hl=>by
  rw [List.length_cons] at hk ⊢
  refine Lim.then (k:=k+1) (h.write (by omega) (hl x (by simp))) (by omega) fun D' h'=>?_
  have:=Lim.writes' (l:=l) h' (by omega) (fun y hy=>hl y (List.mem_cons_of_mem _ hy))
  rw [Nat.add_right_comm] at this
  exact this
theorem qfg {D:DiskM} {n:Int} {l:List Int}:(writeM D n l).1.safe.length=D.safe.length:=by
 unfold writeM
 split
 ·rfl
 split
 ·rfl
 split
 ·show (actM _).1.safe.length=_; rw [(qcJ _).1]; rfl
 ·rfl
theorem qlq {D:DiskM}:(syncM D).1.safe.length=D.safe.length:=by
 unfold syncM
 split
 ·rfl
 split
 ·show (actM _).1.safe.length=_; rw [(qcJ _).1]
 ·show (D.waits.foldl laySafe D.safe).length=_; rw [qbK]
theorem qli {r:DiskM×Int} {f:DiskM->DiskM×Int} {n:Nat} (h:r.1.safe.length=n) (hf:∀ D:DiskM,D.safe.length=n->(f D).1.safe.length=n):(andThen r f).1.safe.length=n:=by
 unfold andThen
 split
 ·exact hf _ h
 ·exact h
theorem qii:∀ {l:List (Int×List Int)} {D:DiskM},(writesM l D).1.safe.length=D.safe.length
 | [],D=>rfl
 | x::l,D=>qli qfg fun D' h=>by rw [qii,h]
theorem qok {D:DiskM} {a b:List Int}:(spreadM D a b).1.safe.length=D.safe.length:=by
 unfold spreadM
 split
 ·rfl
 ·exact qli qii fun D' h=>by rw [qlq,h]
theorem qoI {numbers pages:List Int}:∀ x∈(pages.zip (bodiesV numbers pages).1).map fun x=>(x.1,sealV x.1 2 x.2),IsB x.2:=by
 intro x hx
 obtain ⟨y,hy,rfl⟩:=List.mem_map.1 hx
 refine qha (by decide) ?_
 have hy:=(List.of_mem_zip hy).2
 unfold bodiesV at hy
 split at hy
 ·cases hy
 split at hy
 ·cases hy
 ·obtain ⟨i,_,he⟩:=List.mem_map.1 hy
  rw [<- he]
  exact qlB _ _
theorem qks {α β:Type} (a:List α) (b:List β):(a.zip b).length<=a.length:=by rw [List.length_zip]; exact Nat.min_le_left _ _
theorem Lim.spread {D:DiskM} {k:Nat} {numbers pages:List Int} (h:Lim D k) (hk:k+pages.length<=1000000):Lim (spreadM D numbers pages).1 (k+pages.length):=by
 unfold spreadM
 split
 ·exact h.mono (by omega)
 ·have hle:=qks pages (bodiesV numbers pages).1
  refine Lim.then (k:=k+pages.length) ?_ (Nat.le_refl _) fun D' h'=>h'.sync
  refine (Lim.writes' h (by rw [List.length_map]; omega) qoI).mono ?_
  rw [List.length_map]
  omega
theorem qpC (s:Sup):IsB (superP s).2:=qha (by decide) (qp8 _ _)
theorem qme {numbers pages:List Int} {i:Nat} {bs:List (List Int)} (hp:i<pages.length) (hb:i<bs.length):(pages.zip bs).drop i=(pages[i],bs[i])::(pages.zip bs).drop (i+1):=by
 rw [List.drop_eq_getElem_cons (by rw [List.length_zip]; omega)]
 simp
theorem qp3 {w:World} {dbk k:Nat} {FD:List Nat} {D:DiskM} {sn sp:Sl} {numbers pages:List Int} {K:Int->World->Prop} (h:DiskAt w dbk FD D) (hD:Lim D k) (hk6:k+pages.length<=1000000) (hv:Hv w) (hg:HG∉FD)
  (hn:Rd FD w sn numbers) (hp:Rd FD w sp pages) (hnl:numbers.length<=100000) (hpl:pages.length<=100000) (hpu:∀ x∈pages,U32 x)
  (hk:∀ F' w',DiskAt w' dbk F' (spreadM D numbers pages).1->Fr FD w w'->(∀ b∈F',b∈FD\/w.heap.size<=b)->K (spreadM D numbers pages).2 w') :
  call Tryz.prog 102 [.pointer (some ⟨dbk,0,none⟩),.slice sn.a sn.len sn.cap,.slice sp.a sp.len sp.cap] [.one (.int .i64)] w K:=by
 refine qjV (d:=some ⟨dbk,0,none⟩) (numbers:=sn) (pages:=sp) ?_
 unfold qfS
 refine qqg (G:=FD) hn hp hnl hpl h.lt fun s1 B1 w1 b1 f1 n1=>?_
 refine qab (fun hc=>?_) (fun hc=>?_)
 ·have hc:(bodiesV numbers pages).2≠0:=by simpa using hc
  have:=hk FD w1 (by rw [spreadM,if_pos hc]; exact h.frame0 f1) (f1.mono fun b hb=>by cases hb) (fun b hb=>.inl hb)
  rw [spreadM,if_pos hc] at this
  exact this
 have hc0:¬ (bodiesV numbers pages).2≠0:=by simpa using hc
 rw [spreadM,if_neg hc0] at hk
 have hbl:(bodiesV numbers pages).1.length=pages.length/\∀ b∈(bodiesV numbers pages).1,b.length<=500/\IsB b:=by
  unfold bodiesV at hc0 ⊢
  split
  ·rename_i h1; rw [if_pos h1] at hc0; exact absurd (by decide) hc0
  rename_i h1; rw [if_neg h1] at hc0
  split
  ·rename_i h1; rw [if_pos h1] at hc0; exact absurd (by decide) hc0
  ·refine ⟨qhW _ _ _,fun b hb=>?_⟩
   obtain ⟨i,_,rfl⟩:=List.mem_map.1 hb
   rw [qdG]
   have:=qgc numbers i
   unfold chunk at this
   exact ⟨by omega,qlB _ _⟩
 generalize (bodiesV numbers pages).1=bs at hk hbl b1
 obtain ⟨sls,q1,q2,q3⟩:=b1
 have hsl:=q1.len
 have hbl1:=hbl.1
 have hlp:=hp.1
 refine qak (fun x w'=>∃ (i j:Nat) (F':List Nat) (D':DiskM),x=i/\i<=pages.length/\DiskAt w' dbk F' D'/\Lim D' (k+i)/\Fr FD w w'/\Fr FD w1 w'/\(∀ b∈F',b∈FD\/w1.heap.size<=b)/\
   andThen (writesM ((pages.zip bs).map fun x=>(x.1,sealV x.1 2 x.2)) D) syncM=andThen (writesM (((pages.zip bs).drop i).map fun x=>(x.1,sealV x.1 2 x.2)) D') syncM) (fun x _=>((pages.length:Int)-x).toNat)
  ⟨0,0,FD,D,rfl,by omega,h.frame0 f1,hD,f1.mono (fun b hb=>by cases hb),.refl _ _,fun b hb=>.inl hb,rfl⟩ ?_
 rintro x w2 ⟨i,j,F',D',rfl,hi,hd2,hD2,f2,f12,n2,he⟩ X hX
 have hv2:=hv.frame f2 hg
 have hsz:=f1.size
 refine qab (fun hc=>?_) (fun hc=>?_)
 ·have hil:i<pages.length:=by have:=of_decide_eq_true hc; dsimp only at this; omega
  have hib:i<bs.length:=by omega
  have his:i<sls.length:=by omega
  have hrs:Rds encS 1 FD w1 s1 sls:=q1.rds qmT (fun b hb hm=>by have:=h.lt b hm; have:=n1 b hb; omega)
  have hrs2:Rds encS 1 FD w2 s1 sls:=hrs.frame f12 (fun b hb=>.inl hb)
  have hp2:Rd FD w2 sp pages:=hp.frame f2 (fun b hb=>.inl hb)
  refine Rds.get (c:=.slice) (y:=sls[i]) hrs2 i rfl (List.getElem?_eq_getElem his) rfl ?_
  refine Rd.at hp2 i rfl (List.getElem?_eq_getElem hil) ?_
  have hrow:RdB FD w1 sls[i] bs[i]:=(q3 i _ _ (List.getElem?_eq_getElem his) (List.getElem?_eq_getElem hib)).weak fun b hb=>.inl (List.mem_append_left _ hb)
  have hrow2:RdB FD w2 sls[i] bs[i]:=hrow.frame f12 (fun b hb=>.inl hb)
  have hb5:=(hbl.2 _ (List.getElem_mem hib)).1
  have hpx:=hpu _ (List.getElem_mem hil)
  refine qo1 hrow2 hv2 (by omega) (fun h=>by omega) fun _ b3 T3 w3 c3 f3 n3=>?_
  refine Rd.at (hp2.frame0 f3) i rfl (List.getElem?_eq_getElem hil) ?_
  rw [wi' pages[i] (by omega)]
  have hsl3:=qcH (number:=pages[i]) (kind:=2) hb5
  refine qlg (S:=[]) (hd2.frame0 f3) hD2.ok (qhh (o:=0) (n:=512) c3 (by rw [hsl3]; exact Nat.le_refl _) (Nat.le_refl _) (by simp)) fun F4 w4 d4 f4 n4=>?_
  rw [List.drop_zero,List.take_of_length_le (by rw [hsl3]; exact Nat.le_refl _)] at d4 ⊢
  have hmem:∀ b∈F',b∈FD\/w.heap.size<=b:=fun b hb=>by
   rcases n2 b hb with h | h
   ·exact .inl h
   ·exact .inr (by omega)
  have hs3:w2.heap.size<=w3.heap.size:=f3.size
  have hs2:=f12.size
  have f04:Fr FD w w4:=(f2.trans' f3 (by simp)).trans' f4 hmem
  have f14:Fr FD w1 w4:=(f12.trans' f3 (by simp)).trans' f4 n2
  have nn4:∀ b∈F4,b∈FD\/w1.heap.size<=b:=fun b hb=>by
   rcases n4 b hb with h | h
   ·exact n2 b h
   ·exact .inr (by omega)
  rw [qme hil hib (numbers:=numbers),List.map_cons,writesM] at he
  refine qab (fun hc=>?_) (fun hc=>?_)
  ·have hc:(writeM D' pages[i] (sealV pages[i] 2 bs[i])).2≠0:=by simpa using hc
   have he2:andThen (writesM ((pages.zip bs).map fun x=>(x.1,sealV x.1 2 x.2)) D) syncM=writeM D' pages[i] (sealV pages[i] 2 bs[i]):=by
    rw [he]
    show andThen (andThen (writeM D' pages[i] (sealV pages[i] 2 bs[i])) _) syncM=_
    rw [show ∀ f,andThen (writeM D' pages[i] (sealV pages[i] 2 bs[i])) f=writeM D' pages[i] (sealV pages[i] 2 bs[i]) from fun f=>if_neg hc]
    exact if_neg hc
   rw [he2] at hk
   exact hk F4 w4 d4 f04 (fun b hb=>by
    rcases nn4 b hb with h | h
    ·exact .inl h
    ·exact .inr (by omega))
  ·have hc:(writeM D' pages[i] (sealV pages[i] 2 bs[i])).2=0:=by simpa using hc
   rw [wi' _ (by omega)]
   refine hX _ _ ⟨i+1,0,F4,(writeM D' pages[i] (sealV pages[i] 2 bs[i])).1,by simp,by omega,d4,?_,f04,f14,nn4,?_⟩ (by omega)
   ·have:=hD2.write (n:=pages[i]) (l:=sealV pages[i] 2 bs[i]) (by omega) (qha (by decide) (hbl.2 _ (List.getElem_mem hib)).2)
    rw [Nat.add_assoc] at this
    exact this
   ·rw [he]
    show andThen (andThen (writeM D' pages[i] (sealV pages[i] 2 bs[i])) _) syncM=_
    rw [show ∀ f,andThen (writeM D' pages[i] (sealV pages[i] 2 bs[i])) f=f (writeM D' pages[i] (sealV pages[i] 2 bs[i])).1 from fun f=>if_pos hc]
 ·have:i=pages.length:=by have:=of_decide_eq_false hc; dsimp only at this; omega
  subst this
  have hd0:(pages.zip bs).drop pages.length=[]:=List.drop_eq_nil_of_le (qks _ _)
  rw [hd0] at he
  have he':andThen (writesM ((pages.zip bs).map fun x=>(x.1,sealV x.1 2 x.2)) D) syncM=syncM D':=he
  rw [he'] at hk
  refine qnr hd2 hD2.ok fun F3 w3 d3 f3 n3=>?_
  have hmem:∀ b∈F',b∈FD\/w.heap.size<=b:=fun b hb=>by
   rcases n2 b hb with h | h
   ·exact .inl h
   ·exact .inr (by omega)
  exact hk F3 w3 d3 (f2.trans' f3 hmem) fun b hb=>hmem b (n3 b hb)
section
structure DS (dbk:Nat) (w:World) (FD:List Nat) (w':World) (F':List Nat) (D':DiskM) (k:Nat):Prop where
 at_:DiskAt w' dbk F' D'
 lim:Lim D' k
 fr:Fr FD w w'
 nw:∀ b∈F',b∈FD\/w.heap.size<=b
variable {dbk:Nat}
theorem DS.refl {w:World} {FD:List Nat} {D:DiskM} {k:Nat} (h:DiskAt w dbk FD D) (hl:Lim D k):DS dbk w FD w FD D k:=⟨h,hl,.refl _ _,fun b hb=>.inl hb⟩
theorem DS.trans {w w1 w2:World} {FD F1 F2:List Nat} {D1 D2:DiskM} {k1 k2:Nat} (h:DS dbk w FD w1 F1 D1 k1) (g:DS dbk w1 F1 w2 F2 D2 k2):DS dbk w FD w2 F2 D2 k2:=
 ⟨g.at_,g.lim,h.fr.trans' g.fr h.nw,fun b hb=>by
  rcases g.nw b hb with h1 | h1
  ·exact h.nw b h1
  ·exact .inr (Nat.le_trans h.fr.size h1)⟩
theorem DS.frame0 {w w1 w2:World} {FD F1:List Nat} {D1:DiskM} {k1:Nat} (h:DS dbk w FD w1 F1 D1 k1) (f:Fr [] w1 w2):DS dbk w FD w2 F1 D1 k1:=
 ⟨h.at_.frame0 f,h.lim,h.fr.trans' f (by simp),h.nw⟩
theorem DS.hv {w w1:World} {FD F1:List Nat} {D1:DiskM} {k1:Nat} (h:DS dbk w FD w1 F1 D1 k1) (hv:Hv w) (hg:HG∉FD):Hv w1/\HG∉F1:=
 ⟨hv.frame h.fr hg,fun hm=>by
  rcases h.nw _ hm with h1 | h1
  ·exact hg h1
  ·have:=hv.lt; omega⟩
theorem DS.lims {w w1:World} {FD F1:List Nat} {D1:DiskM} {k1 k2:Nat} (h:DS dbk w FD w1 F1 D1 k1) (hk:k1<=k2):DS dbk w FD w1 F1 D1 k2:=⟨h.at_,h.lim.mono hk,h.fr,h.nw⟩
theorem qgy {w w1:World} {FD F1:List Nat} {D:DiskM} {k:Nat} {n:Int} {s:Sl} {l:List Int} {S:List Nat} {K:Int->World->Prop} (h:DS dbk w FD w1 F1 D k) (hk:k<1000000) (hs:RdB S w1 s l) (hB:IsB l)
  (kk:∀ w2 F2,DS dbk w FD w2 F2 (writeM D n l).1 (k+1)->Fr F1 w1 w2->(∀ b∈F2,b∈F1\/w1.heap.size<=b)->K (writeM D n l).2 w2) :
  call Tryz.prog 99 [.pointer (some ⟨dbk,0,none⟩),.int .i64 n,.slice s.a s.len s.cap] [.one (.int .i64)] w1 K:=by
 refine qlg h.at_ h.lim.ok hs fun F2 w2 d2 f2 n2=>?_
 exact kk w2 F2 (h.trans ⟨d2,h.lim.write hk hB,f2,n2⟩) f2 n2
theorem qnn {w w1:World} {FD F1:List Nat} {D:DiskM} {k:Nat} {K:Int->World->Prop} (h:DS dbk w FD w1 F1 D k)
  (kk:∀ w2 F2,DS dbk w FD w2 F2 (syncM D).1 k->Fr F1 w1 w2->(∀ b∈F2,b∈F1\/w1.heap.size<=b)->K (syncM D).2 w2) :
  call Tryz.prog 100 [.pointer (some ⟨dbk,0,none⟩)] [.one (.int .i64)] w1 K:=by
 refine qnr h.at_ h.lim.ok fun F2 w2 d2 f2 n2=>?_
 exact kk w2 F2 (h.trans ⟨d2,h.lim.sync,f2,fun b hb=>.inl (n2 b hb)⟩) f2 (fun b hb=>.inl (n2 b hb))
theorem qs1 {w w1:World} {FD F1:List Nat} {D:DiskM} {k:Nat} {s:Sup} {K:Int->World->Prop} (h:DS dbk w FD w1 F1 D k) (hk:k<1000000) (hv:Hv w1) (hs:s.2.length=27) (hq:0<=s.1)
  (kk:∀ w2 F2,DS dbk w FD w2 F2 (sealM D s).1 (k+1)->Fr F1 w1 w2->(∀ b∈F2,b∈F1\/w1.heap.size<=b)->K (sealM D s).2 w2) :
  call Tryz.prog 103 [.pointer (some ⟨dbk,0,none⟩),.agg (supV s.1 s.2).toArray] [.one (.int .i64)] w1 K:=by
 refine ql5 (d:=some ⟨dbk,0,none⟩) (s:=supV s.1 s.2) ?_
 unfold qhZ
 refine Own.new' (Own.start [] w1) fun r w2 e2 f2 ho=>?_
 have c0:(supV s.1 s.2).toArray[0]?=some (.int .u64 s.1):=rfl
 refine Own.ld (c:=.int .u64) ho.drew 0 rfl s.1 c0 ?_
 refine qhe (ho.drew.at (i:=0) rfl) hs ?_
 refine qqw (hv.frame0 ho.drew.fr) hs fun b T w3 c3 f3 n3=>?_
 have ho3:=ho.drew.frame0 f3
 refine qah (ho3.cell 0 rfl c0) ?_
 have ht:=Int.tmod_eq_emod_of_nonneg (b:=2) hq
 rw [wi' (Int.tmod s.1 2) (by omega)]
 have hlen:(sealV (IntKind.wrap .u32 (Int.tmod s.1 2)) 1 (superB s.1 s.2)).length=512:=qcH (by rw [qbH hs]; decide)
 have hrd:RdB [] w3 ⟨some ⟨b,0,none⟩,512,512⟩ (superP s).2:=by
  have:=qhh (S:=[]) (o:=0) (n:=512) (cap:=512) c3 (by rw [hlen]; exact Nat.le_refl _) (Nat.le_refl _) (by simp)
  rw [List.drop_zero,List.take_of_length_le (Nat.le_of_eq hlen)] at this
  exact this
 show call Tryz.prog 99 [.pointer (some ⟨dbk,0,none⟩),.int .i64 (superP s).1,_] _ _ _
 refine qgy (h.frame0 ho3.fr) hk hrd (qpC s) fun w4 F4 d4 f4 n4=>?_
 have hsz:=ho3.fr.size
 refine qab (fun hc=>?_) (fun hc=>?_)
 ·have hc:(writeM D (superP s).1 (superP s).2).2≠0:=by simpa using hc
  have e:sealM D s=writeM D (superP s).1 (superP s).2:=if_neg hc
  rw [e] at kk
  exact kk w4 F4 d4 ((ho3.fr.mono fun b hb=>by cases hb).trans f4) fun b hb=>by
   rcases n4 b hb with h | h
   ·exact .inl h
   ·exact .inr (by omega)
 ·have hc:(writeM D (superP s).1 (superP s).2).2=0:=by simpa using hc
  have e:sealM D s=syncM (writeM D (superP s).1 (superP s).2).1:=if_pos hc
  rw [e] at kk
  refine qnn d4 fun w5 F5 d5 f5 n5=>?_
  have g4:DS dbk w1 F1 w4 F4 (writeM D (superP s).1 (superP s).2).1 (k+1):=⟨d4.at_,d4.lim,(ho3.fr.mono (T:=F1) fun b hb=>by cases hb).trans f4,fun b hb=>by
   rcases n4 b hb with h | h
   ·exact .inl h
   ·exact .inr (by omega)⟩
  have g5:=g4.trans ⟨d5.at_,d5.lim,f5,n5⟩
  exact kk w5 F5 d5 g5.fr g5.nw
theorem qpt {w w1:World} {FD F1:List Nat} {D:DiskM} {k:Nat} {sn sp:Sl} {numbers pages:List Int} {K:Int->World->Prop} (h:DS dbk w FD w1 F1 D k) (hk6:k+pages.length<=1000000) (hv:Hv w1) (hg:HG∉F1)
  (hn:Rd F1 w1 sn numbers) (hp:Rd F1 w1 sp pages) (hnl:numbers.length<=100000) (hpl:pages.length<=100000) (hpu:∀ x∈pages,U32 x)
  (kk:∀ w2 F2,DS dbk w FD w2 F2 (spreadM D numbers pages).1 (k+pages.length)->Fr F1 w1 w2->(∀ b∈F2,b∈F1\/w1.heap.size<=b)->K (spreadM D numbers pages).2 w2) :
  call Tryz.prog 102 [.pointer (some ⟨dbk,0,none⟩),.slice sn.a sn.len sn.cap,.slice sp.a sp.len sp.cap] [.one (.int .i64)] w1 K:=by
 refine qp3 h.at_ h.lim hk6 hv hg hn hp hnl hpl hpu fun F2 w2 d2 f2 n2=>?_
 exact kk w2 F2 (h.trans ⟨d2,h.lim.spread hk6,f2,n2⟩) f2 n2
theorem qcy {a:DiskM×Int} {f:DiskM->DiskM×Int} (h:a.2≠0):andThen a f=a:=if_neg h
theorem qc5 {a:DiskM×Int} {f:DiskM->DiskM×Int} (h:a.2=0):andThen a f=f a.1:=if_pos h
theorem qqo {a b c:Int} (w:World):(Instr.build 121 #[(0,.int .u64 1),(1,.int .u32 a),(2,.int .u32 b),(3,.int .u32 c)]).run Tryz.prog w=.ok (.agg (supV 1 ([a,b,c]++zs 24)).toArray) w:=by
 obtain ⟨z,hz,hzs⟩:=Option.map_eq_some_iff.1 qfx
 have hzc:z.cells=(supV 0 (zs 27)).toArray:=by rw [<- hzs]
 refine qgZ (parts:=[(0,.int .u64 1),(1,.int .u32 a),(2,.int .u32 b),(3,.int .u32 c)]) (offs:=#[(0,1),(1,1),(2,1),(3,1),(4,24)]) hz (by kernel_rfl) (fun w=>by kernel_rfl) ?_ w
 rw [hzc,qaZ (o:=0) (s:=1) rfl rfl (Nat.le_of_ble_eq_true rfl),qaZ (o:=1) (s:=1) rfl rfl (Nat.le_of_ble_eq_true rfl),qaZ (o:=2) (s:=1) rfl rfl (Nat.le_of_ble_eq_true rfl),qaZ (o:=3) (s:=1) rfl rfl (Nat.le_of_ble_eq_true rfl)]
 rfl
theorem qpx {w:World} {FD:List Nat} {D:DiskM} {k:Nat} {K:Int->World->Prop} (h:DiskAt w dbk FD D) (hl:Lim D k) (hk:k<=900000) (h8:2<=D.safe.length) (hv:Hv w) (hg:HG∉FD)
  (kk:∀ w' F',DS dbk w FD w' F' (formatM D).1 (k+5000)->K (formatM D).2 w') :
  call Tryz.prog 58 [.pointer (some ⟨dbk,0,none⟩)] [.one (.int .i64)] w K:=by
 refine qkr (d:=some ⟨dbk,0,none⟩) ?_
 unfold qfQ
 have hsafe:=hl.ok.safe
 have h0:=DS.refl h hl
 have zlen:(zs 512).length=512:=qaN _
 have zrd:∀ {S0:List Nat} {w0 w':World} {L:List (Nat×Obj)} {b:Nat} {T:TypeId},Own S0 w0 w' ((b,.cells (List.replicate (512:Int).toNat (Value.int .u8 0)).toArray T (0,0))::L)->RdB [] w' ⟨some ⟨b,0,none⟩,(512:Int).toNat,(512:Int).toNat⟩ (zs 512):=fun ho=>by
  have hb:=ho.at (i:=0) rfl
  rw [qnF] at hb
  have:=qhh (S:=[]) (o:=0) (n:=512) (cap:=512) hb (by rw [show (512:Int).toNat=512 from rfl,zlen]; exact Nat.le_refl _) (Nat.le_refl _) (by simp)
  rw [List.drop_zero,List.take_of_length_le (by rw [show (512:Int).toNat=512 from rfl,zlen]; exact Nat.le_refl _)] at this
  exact this
 refine qgQ fun X hX=>?_
 refine cond_true rfl ?_
 refine Own.mk1 (Own.start [] w) (by decide) (by decide) (by decide) (by decide) fun b1 w1 e1 ho1=>?_
 refine qgy (h0.frame0 ho1.fr) (by omega) (zrd ho1) (IsB.zs 512) fun w2 F2 d2 f2 n2=>?_
 refine qab (fun hc=>?_) (fun hc=>?_)
 ·have hc:(writeM D 0 (zs 512)).2≠0:=by simpa using hc
  have e:formatM D=writeM D 0 (zs 512):=qcy hc
  rw [e] at kk
  exact kk w2 F2 (d2.lims (by omega))
 have hc1:(writeM D 0 (zs 512)).2=0:=by simpa using hc
 rw [formatM,qc5 hc1] at kk
 have hD2:=qfg (D:=D) (n:=0) (l:=zs 512)
 generalize (writeM D 0 (zs 512)).1=D2 at d2 kk hD2
 rw [wi' (0+1) (by decide)]
 refine hX _ _ (qls 1 rfl fun X hX=>?_)
 refine cond_true rfl ?_
 refine Own.mk1 (Own.start [] w2) (by decide) (by decide) (by decide) (by decide) fun b3 w3 e3 ho3=>?_
 refine qgy (d2.frame0 ho3.fr) (by omega) (zrd ho3) (IsB.zs 512) fun w4 F4 d4 f4 n4=>?_
 refine qab (fun hc=>?_) (fun hc=>?_)
 ·have hc:(writeM D2 1 (zs 512)).2≠0:=by simpa using hc
  rw [qcy hc] at kk
  exact kk w4 F4 (d4.lims (by omega))
 have hc2:(writeM D2 1 (zs 512)).2=0:=by simpa using hc
 rw [qc5 hc2] at kk
 have hD4:=qfg (D:=D2) (n:=1) (l:=zs 512)
 generalize (writeM D2 1 (zs 512)).1=D4 at d4 kk hD4
 rw [wi' (1+1) (by decide)]
 refine hX _ _ (qls 2 rfl fun X hX=>?_)
 refine cond_false rfl ?_
 refine qnn d4 fun w5 F5 d5 f5 n5=>?_
 refine qab (fun hc=>?_) (fun hc=>?_)
 ·have hc:(syncM D4).2≠0:=by simpa using hc
  rw [qcy hc] at kk
  exact kk w5 F5 (d5.lims (by omega))
 have hc3:(syncM D4).2=0:=by simpa using hc
 rw [qc5 hc3] at kk
 have hD5:=qlq (D:=D4)
 generalize (syncM D4).1=D5 at d5 kk hD5
 have hn5:D5.safe.length=D.safe.length:=by omega
 have al:=qfv D.safe.length
 obtain ⟨hv5,hg5⟩:=d5.hv hv hg
 refine qak (fun x w'=>∃ (i:Nat) (B:List Nat),x.2=((i+2:Nat):Int)/\i<=D.safe.length-2/\BufU w' x.1 ((allV D.safe.length).take i) B/\Fr [] w5 w'/\∀ b∈B,w5.heap.size<=b) (fun x _=>((D.safe.length:Int)-x.2).toNat)
  ⟨0,[],rfl,by omega,.nil _ _ _,.refl _ _,by simp⟩ ?_
 rintro ⟨s,x⟩ w6 ⟨i,B,hx,hi,hb,f6,n6⟩ Y hY
 simp only at hx hb
 subst hx
 have d6:=d5.frame0 f6
 refine qgG d6.at_ ?_
 dsimp only
 refine qab (fun hc=>?_) (fun hc=>?_)
 ·have hil:i<D.safe.length-2:=by have:=of_decide_eq_true hc; omega
  rw [qaV ((i+2:Nat):Int) (by omega)]
  refine qs7 hb (by rw [List.length_take]; omega) fun s7 B7 w7 b7 f7 n7=>?_
  rw [wi' _ (by omega)]
  refine hY _ _ ⟨i+1,B7,by simp; omega,by omega,?_,f6.trans' f7 (fun b hb=>.inr (n6 b hb)),fun b hb=>?_⟩ (by dsimp only; omega)
  ·have e:(allV D.safe.length).take (i+1)=(allV D.safe.length).take i++[((i+2:Nat):Int)]:=by
    rw [List.take_succ_eq_append_getElem (by omega)]
    congr 2
    have h1:=qo7 hil
    have h2:=List.getElem?_eq_getElem (l:=allV D.safe.length) (i:=i) (by omega)
    rw [h2] at h1
    rw [Option.some.inj h1]
    simp
   rw [e]; exact b7
  ·rcases n7 b hb with h | h
   ·exact n6 b h
   ·exact Nat.le_trans f6.size h
 ·have hie:i=D.safe.length-2:=by have:=of_decide_eq_false hc; omega
  subst hie
  rw [List.take_of_length_le (by omega)] at hb
  have hsl:=hb.len
  rw [hsl]
  refine qsE (by omega) ?_
  have hnp:=qiU (n:=(allV D.safe.length).length)
  have away:∀ b∈B,b∉F5:=fun b hb hm=>by have:=n6 b hb; have:=d5.at_.lt b hm; omega
  have rall:Rd F5 w6.drew s (allV D.safe.length):=(hb.frame0 (Fr.refl [] w6).drew).rds qaT away
  refine Rds.part (k:=1) rall (needP (allV D.safe.length).length) (allV D.safe.length).length rfl (by show (s.len:Int)=_; omega) hnp (Nat.le_refl _) fun sn hsn rn _=>?_
  refine Rds.part (k:=1) rall 0 (needP (allV D.safe.length).length) rfl rfl (by omega) hnp fun sp hsp rp _=>?_
  rw [List.take_length] at rn
  rw [List.drop_zero] at rp
  have d6d:=d6.frame0 (Fr.refl [] w6).drew
  have hv6:=(hv5.frame0 f6).frame0 (Fr.refl [] w6).drew
  rw [hn5] at kk
  refine qpt d6d (by rw [List.length_take]; omega) hv6 hg5 rn rp (by rw [List.length_drop]; omega) (by rw [List.length_take]; omega) (fun x hx=>by
   have:=qfh.1 (List.mem_of_mem_take hx)
   constructor <;> omega) fun w7 F7 d7 f7 n7=>?_
  have d7:=d7.lims (k2:=k+2+4096) (by rw [List.length_take]; omega)
  refine qab (fun hc=>?_) (fun hc=>?_)
  ·have hc:(spreadM D5 ((allV D.safe.length).drop (needP (allV D.safe.length).length)) ((allV D.safe.length).take (needP (allV D.safe.length).length))).2≠0:=by simpa using hc
   rw [qcy hc] at kk
   exact kk w7 F7 (d7.lims (by omega))
  have hc4:(spreadM D5 ((allV D.safe.length).drop (needP (allV D.safe.length).length)) ((allV D.safe.length).take (needP (allV D.safe.length).length))).2=0:=by simpa using hc
  rw [qc5 hc4] at kk
  have hD7:=qok (D:=D5) (a:=(allV D.safe.length).drop (needP (allV D.safe.length).length)) (b:=(allV D.safe.length).take (needP (allV D.safe.length).length))
  generalize (spreadM D5 ((allV D.safe.length).drop (needP (allV D.safe.length).length)) ((allV D.safe.length).take (needP (allV D.safe.length).length))).1=D7 at d7 kk hD7
  have hn7:D7.safe.length=D.safe.length:=by omega
  refine qgG d7.at_ ?_
  rw [hn7] at kk ⊢
  have hfree:IntKind.wrap .i64 (((allV D.safe.length).length:Int)-(needP (allV D.safe.length).length:Int))=((allV D.safe.length).length:Int)-(needP (allV D.safe.length).length:Int):=wi' _ (by omega)
  rw [hfree]
  refine qbl (ts:=[Ty1.raw]) (supV (fmtSup D.safe.length).1 (fmtSup D.safe.length).2) (qqo w7) ?_
  refine qs1 (s:=fmtSup D.safe.length) d7 (by omega) (d7.hv hv hg).1 rfl (by show (0:Int)<=1; decide) fun w8 F8 d8 f8 n8=>?_
  exact kk w8 F8 (d8.lims (by omega))
end
section
structure PgM.Wf (M:PgM):Prop where
 n4:M.sup.2.getD 0 0<=4096
 u32:∀ x∈M.sup.2,U32 x
 roots:∀ x∈M.roots,U32 x
 namedS:M.named.Pairwise (· < ·)
 named:∀ x∈M.named,2<=x/\x<M.sup.2.getD 0 0
 freeS:M.free.Pairwise (· < ·)
 defS:M.deferred.Pairwise (· < ·)
 nodup:(M.free++(M.deferred++(M.lists++M.fresh.map (·.1)))).Nodup
 range:∀ x∈M.free++(M.deferred++(M.lists++M.fresh.map (·.1))),2<=x/\x<M.sup.2.getD 0 0
 body:∀ e∈M.fresh,(0<=e.2.1/\e.2.1<256)/\e.2.2.length<=500/\IsB e.2.2
theorem qux {l:List Int} {n:Int} (hn:l.Nodup) (h:∀ x∈l,2<=x/\x<n) (h4:n<=4096):l.length<=4096:=by
 rcases qc7 hn h with h | h
 ·omega
 ·rw [h]; simp
theorem PgM.Wf.all (M:PgM) (h:M.Wf):M.free.length+M.deferred.length+M.lists.length+M.fresh.length<=4096:=by
 have:=qux h.nodup h.range h.n4
 simp only [List.length_append,List.length_map] at this
 omega
section
variable {w:World} {X:List Nat} {pb:Nat} {db:Option Addr} {F:List Nat} {M:PgM}
theorem Rds.part3 {α:Type} {enc:α->List Value} {k:Nat} {S:List Nat} {w:World} {s:Sl} {l:List α} (h:Rds enc k S w s l) {hi:Int} (b:Nat) {K:Sl->Prop} (hhi:hi=b) (hb:b<=l.length)
  (kk:∀ s',Rds enc k S w s' (l.take b)->K s'):slc s none (some hi) (some hi) k K:=by
 subst hhi
 obtain ⟨h1,h2,h3⟩:=h
 unfold slc
 refine ⟨by simp; omega,kk _ ?_⟩
 simp only [Option.getD_none,Option.getD_some,Int.toNat_zero,Int.toNat_natCast,Nat.zero_mul,Nat.sub_zero]
 have e:(if b=0 then s.a else s.a.map (·.add 0))=s.a:=by
  split
  ·rfl
  ·cases s.a with
   | none=>rfl
   | some a=>simp [qgJ]
 rw [e]
 refine ⟨by rw [List.length_take]; dsimp only; omega,Nat.le_refl _,?_⟩
 rcases h3 with h3 | ⟨bl,o,cs,T,fr,ha,hbb,hS,hc⟩
 ·left; rw [h3]; simp
 ·refine .inr ⟨bl,o,cs,T,fr,ha,hbb,hS,fun i x hx=>?_⟩
  rw [List.getElem?_take] at hx
  split at hx
  ·exact hc i x hx
  ·cases hx
theorem PagerAt.xlt {w:World} {X:List Nat} {pb:Nat} {db:Option Addr} {F:List Nat} {M:PgM} (h:PagerAt w X pb db F M):∀ b∈X,b<w.heap.size:=by
 obtain ⟨fb,defb,mb,sl,sn,F1,F2,fs,rfl,hx⟩:=h
 exact hx.xlt
end
end
structure Flushed (D D':DiskM) (M:PgM) (pages named:List Int) (next:Sup):Prop where
 down:D'.down=false
 waits:D'.waits=[]
 listed:Listed D' named pages
 super:view D' (next.1%2)=sealV (next.1%2) 1 (superB next.1 next.2)
 fresh:∀ e∈M.fresh,view D' e.1=sealV e.1 e.2.1 e.2.2
 rest:∀ m,0<=m->m∉M.fresh.map (·.1)->m∉pages->m≠next.1%2->view D' m=view D m
theorem PgM.Wf.keysNodup {M:PgM} (h:M.Wf):(M.fresh.map (·.1)).Nodup:=h.nodup.sublist (((List.sublist_append_right _ _).trans (List.sublist_append_right _ _)).trans (List.sublist_append_right _ _))
def PgM.all (M:PgM):List Int:=M.free++(M.deferred++(M.lists++M.fresh.map (·.1)))
theorem qsR {s:Sup} {pages numbers:List Int} {t:Int} {ov:Bool} (h:ListOk (s.2.getD 0 0) numbers pages) (h4:s.2.getD 0 0<=4096) (hu:∀ x∈s.2,U32 x):(begunM s pages numbers t ov numbers).Wf where
 n4:=h4
 u32:=hu
 roots:=fun x hx=>hu x (List.mem_of_mem_drop hx)
 namedS:=h.rises
 named:=h.nums
 freeS:=h.rises
 defS:=.nil
 nodup:=by
  show (numbers++([]++(pages++[]))).Nodup
  rw [List.nil_append,List.append_nil,List.nodup_append]
  exact ⟨qfw h.rises,h.nodup,fun x hx y hy e=>h.apart y hy (e▸hx)⟩
 range:=fun x hx=>by
  have hx:x∈numbers++([]++(pages++[])):=hx
  rw [List.nil_append,List.append_nil,List.mem_append] at hx
  rcases hx with hx | hx
  ·exact h.nums x hx
  ·exact h.pgs x hx
 body:=fun e he=>by cases he
theorem qnp {β:Type} {n:Int} {v:β} {l:List (Int×β)} (h:n∉l.map (·.1)):setL n v l=l++[(n,v)]:=by
 rw [setL,qbn.2 h]
theorem qlo {β:Type} {n:Int} {v:β} {l:List (Int×β)} (h:n∈l.map (·.1)):(setL n v l).map (·.1)=l.map (·.1):=by
 unfold setL
 cases hl:look n l with
 | none=>exact absurd h (qbn.1 hl)
 | some q=>
  dsimp only
  rw [List.map_set]
  apply List.ext_getElem?
  intro j
  rw [List.getElem?_set]
  by_cases hj:q.1=j
  ·subst hj
   have h1:=(qa5 hl).1
   obtain ⟨hlt,he⟩:=List.getElem?_eq_some_iff.1 h1
   simp [hlt,he]
  ·rw [if_neg hj]
theorem qlu {β:Type} {n:Int} {l:List (Int×β)} (h:n∈l.map (·.1)):(l.map (·.1)).Perm (n::(delL n l).map (·.1)):=by
 unfold delL
 cases hl:look n l with
 | none=>exact absurd h (qbn.1 hl)
 | some q=>
  dsimp only
  have h1:=(qa5 hl).1
  obtain ⟨hlt,he⟩:=List.getElem?_eq_some_iff.1 h1
  rw [qbb]
  have hk:(l.map (·.1))[q.1]'(by simpa using hlt)=n:=by simp [he]
  have hlt':q.1<(l.map (·.1)).length:=by simpa using hlt
  have h2:l.map (·.1)=(l.map (·.1)).take q.1++n::(l.map (·.1)).drop (q.1+1):=by
   rw [<- hk,<- List.drop_eq_getElem_cons hlt',List.take_append_drop]
  rw [List.eraseIdx_eq_take_drop_succ]
  conv=>lhs; rw [h2]
  exact List.perm_middle
theorem qsW {M:PgM} {n:Int}:usedV M n=true↔(2<=n/\n<M.sup.2.getD 0 0)/\n∉M.all:=by
 unfold usedV PgM.all
 simp only [Bool.and_eq_true,Bool.not_eq_true',Bool.or_eq_false_iff,decide_eq_false_iff_not,Option.isNone_iff_eq_none,qbn,List.mem_append,not_or]
 constructor
 ·rintro ⟨⟨⟨⟨⟨h1,h2⟩,h3⟩,h4⟩,h5⟩,h6⟩
  exact ⟨⟨by omega,by omega⟩,h4,h5,h3,h6⟩
 ·rintro ⟨⟨h1,h2⟩,h3,h4,h5,h6⟩
  exact ⟨⟨⟨⟨⟨by omega,by omega⟩,h5⟩,h3⟩,h4⟩,h6⟩
theorem qrR {M:PgM} {n:Int} {r:List Int} {v:Int×List Int} (hf:M.free=n::r) (hW:M.Wf):(r++(M.deferred++(M.lists++(setL n v M.fresh).map (·.1)))).Perm M.all:=by
 have hnk:n∉M.fresh.map (·.1):=fun hm=>by
  have hn:=hW.nodup
  rw [hf,List.cons_append,List.nodup_cons] at hn
  exact hn.1 (List.mem_append_right _ (List.mem_append_right _ (List.mem_append_right _ hm)))
 rw [qnp hnk,List.map_append,PgM.all,hf]
 show (r++(M.deferred++(M.lists++(M.fresh.map (·.1)++[n])))).Perm (n::(r++(M.deferred++(M.lists++M.fresh.map (·.1)))))
 rw [<- List.append_assoc M.lists,<- List.append_assoc M.deferred,<- List.append_assoc r]
 exact List.perm_append_singleton n _
theorem qe3 {M M':PgM} (hW:M.Wf) (hs:M'.sup=M.sup) (hn:M'.named=M.named) (hr:∀ x∈M'.roots,U32 x) (hp:M'.all.Perm M.all) (hf:M'.free.Pairwise (· < ·)) (hd:M'.deferred.Pairwise (· < ·)) (hb:∀ e∈M'.fresh,(0<=e.2.1/\e.2.1<256)/\e.2.2.length<=500/\IsB e.2.2):M'.Wf where
 n4:=by rw [hs]; exact hW.n4
 u32:=by rw [hs]; exact hW.u32
 roots:=hr
 namedS:=by rw [hn]; exact hW.namedS
 named:=by rw [hn,hs]; exact hW.named
 freeS:=hf
 defS:=hd
 nodup:=hp.nodup_iff.2 hW.nodup
 range:=fun x hx=>by rw [hs]; exact hW.range x (hp.mem_iff.1 hx)
 body:=hb
theorem qpi {M:PgM} {kind:Int} {body:List Int} (hW:M.Wf) (hk:0<=kind/\kind<256) (hB:IsB body):(makeV M kind body).2.Wf/\(makeV M kind body).2.all.Perm M.all:=by
 unfold makeV
 split
 ·exact ⟨hW,.refl _⟩
 split
 ·exact ⟨hW,.refl _⟩
 rename_i h5
 split
 ·exact ⟨hW,.refl _⟩
 ·rename_i n r hf
  have hp:=qrR (v:=(kind,body)) hf hW
  refine ⟨qe3 hW rfl rfl hW.roots hp ?_ hW.defS fun e he=>?_,hp⟩
  ·have:=hW.freeS
   rw [hf,List.pairwise_cons] at this
   exact this.2
  ·rcases qfB he with h | h
   ·exact hW.body e h
   ·rw [h]; exact ⟨hk,by show body.length<=500; omega,hB⟩
theorem qrk {M:PgM} {n kind:Int} {body:List Int} (hW:M.Wf) (hk:0<=kind/\kind<256) (hB:IsB body):(putV M n kind body).2.Wf/\(putV M n kind body).2.all.Perm M.all:=by
 unfold putV
 split
 ·exact ⟨hW,.refl _⟩
 split
 ·exact ⟨hW,.refl _⟩
 rename_i q hq
 split
 ·exact ⟨hW,.refl _⟩
 ·rename_i h5
  have hm:n∈M.fresh.map (·.1):=List.mem_map.2 ⟨_,(qa5 hq).2,rfl⟩
  have hp:({ M with fresh:=setL n (kind,body) M.fresh }:PgM).all=M.all:=by
   show M.free++(M.deferred++(M.lists++(setL n (kind,body) M.fresh).map (·.1)))=_
   rw [qlo hm]; rfl
  refine ⟨qe3 hW rfl rfl hW.roots (by rw [hp]) hW.freeS hW.defS fun e he=>?_,by rw [hp]⟩
  rcases qfB he with h | h
  ·exact hW.body e h
  ·rw [h]; exact ⟨hk,by show body.length<=500; omega,hB⟩
theorem qoM {M:PgM} {n:Int} (hW:M.Wf):(dropV M n).2.Wf:=by
 unfold dropV
 split
 ·exact hW
 split
 ·rename_i q hq
  have hm:n∈M.fresh.map (·.1):=List.mem_map.2 ⟨_,(qa5 hq).2,rfl⟩
  have hn:=hW.nodup
  have hnf:n∉M.free:=fun h=>by
   rw [List.nodup_append] at hn
   exact hn.2.2 n h n (List.mem_append_right _ (List.mem_append_right _ hm)) rfl
  have hp:({ M with fresh:=delL n M.fresh,free:=ins n M.free }:PgM).all.Perm M.all:=by
   show (ins n M.free++(M.deferred++(M.lists++(delL n M.fresh).map (·.1)))).Perm (M.free++(M.deferred++(M.lists++M.fresh.map (·.1))))
   refine ((qct hnf).append_right _).trans ?_
   have h1:=qlu hm
   have h2:(M.deferred++(M.lists++M.fresh.map (·.1))).Perm (n::(M.deferred++(M.lists++(delL n M.fresh).map (·.1)))):=by
    refine ((h1.append_left M.lists).append_left M.deferred).trans ?_
    rw [<- List.append_assoc,<- List.append_assoc]
    exact List.perm_middle
   exact (List.perm_middle.symm.trans (h2.symm.append_left M.free))
  exact qe3 hW rfl rfl hW.roots hp (qce hW.freeS) hW.defS fun e he=>hW.body e (qmI he)
 ·rename_i hq
  split
  ·rename_i hu
   have hu:=qsW.1 hu
   have hnd:n∉M.deferred:=fun h=>hu.2 (List.mem_append_right _ (List.mem_append_left _ h))
   have hp:({ M with deferred:=ins n M.deferred }:PgM).all.Perm (n::M.all):=by
    show (M.free++(ins n M.deferred++(M.lists++M.fresh.map (·.1)))).Perm (n::(M.free++(M.deferred++(M.lists++M.fresh.map (·.1)))))
    exact (((qct hnd).append_right _).append_left M.free).trans List.perm_middle
   refine { n4:=hW.n4,u32:=hW.u32,roots:=hW.roots,namedS:=hW.namedS,named:=hW.named,freeS:=hW.freeS,defS:=qce hW.defS,nodup:=hp.nodup_iff.2 (List.nodup_cons.2 ⟨hu.2,hW.nodup⟩),range:=fun x hx=>?_,body:=hW.body }
   rcases List.mem_cons.1 (hp.mem_iff.1 hx) with rfl | h
   ·exact hu.1
   ·exact hW.range x h
  ·exact hW
section
section
variable {db:Option Addr} {sup:Sup} {sl sn:Sl} {turn:Int} {over:Bool} {fb defb mb:Nat} {roots:List Int} {wk:List Value}
theorem qsJ (hl:sup.2.length=27) (hr:roots.length=24):((pgCells db sup sl sn turn over fb defb mb roots).toList.drop 36).take 24=roots.map (Value.int .u32):=by
 have h36:((Value.pointer db::supV sup.1 sup.2)++pgRest sl sn turn over fb defb mb).length=36:=by rw [List.length_append,qaU hl]; rfl
 show (((Value.pointer db::supV sup.1 sup.2)++pgRest sl sn turn over fb defb mb++roots.map (Value.int .u32)).drop 36).take 24=_
 rw [<- h36,List.drop_append_of_le_length (Nat.le_refl _),List.drop_length,List.nil_append,List.take_of_length_le (by rw [List.length_map,hr]; exact Nat.le_refl _)]
end
def dbOf (dbk:Nat) (M:PgM):Option Addr:=if M.over then none else some ⟨dbk,0,none⟩
structure Both (w:World) (dbk pb:Nat) (FD F:List Nat) (D:DiskM) (M:PgM) (k:Nat):Prop where
 disk:DiskAt w dbk FD D
 lim:Lim D k
 pager:PagerAt w FD pb (dbOf dbk M) F M
end
end Go.Proofs.YtmmkegapckbomaaGreatDoor
end
section
set_option linter.unusedVariables false
set_option linter.unusedSimpArgs false
namespace Go.Proofs.YtmmkegapckbomaaGreatDoor
open Go Go.Pt
theorem Lim.new {n:Nat} (h:n<=4096):Lim (newM n) 0:=⟨qtM h,by simp [newM],by simp [newM]⟩
def pgs (n:Nat):List Int:=(allV n).take (needP (allV n).length)
def nums (n:Nat):List Int:=(allV n).drop (needP (allV n).length)
def madeM (n:Nat):PgM:=begunM (fmtSup n) (pgs n) (nums n) 1 false (nums n)
theorem qtL {n:Nat} (h8:8<=n) (h4:n<=4096):(madeM n).Wf:=by
 have e:(fmtSup n).2.getD 0 0=n:=by show IntKind.wrap .u32 (n:Int)=_; exact qaV _ (by omega)
 exact qsR (by rw [e]; exact qjL) (by rw [e]; omega) (qgU h8 h4).u32
structure Made (D:DiskM) (n:Nat):Prop where
 quiet:Quiet D
 size:D.size=n
 waits:D.waits=[]
 opens:Opens D (fmtSup n) (pgs n) (nums n)
 fmt:formatM (newM n)=(D,0)
 zero:view D 0=zs 512
end Go.Proofs.YtmmkegapckbomaaGreatDoor
end
section
set_option linter.unusedVariables false
set_option linter.unusedSimpArgs false
namespace Go.Proofs.YtmmkegapckbomaaGreatDoor
open Go Go.Pt
attribute [local irreducible] ld ldA ldV fld fldA newZ st new idx idxS idxA slc slcS slcP mkS chk nn call callV inv run runQ runU join loop held ext rng undefer s2a nxt ent IntKind.wrap
def setRootM (M:PgM) (t r0 r1 r2:Int):Int×PgM:=
 if M.over then (7,M) else if t<0\/t>7 then (4,M) else (0,{ M with roots:=M.roots.take (3*t.toNat)++[r0,r1,r2]++M.roots.drop (3*t.toNat+3) })
def pagerReadM (D:DiskM) (M:PgM) (n:Int):Int×List Int×Int:=
 if M.over then (0,[],7) else match look n M.fresh with
 | some q=>(q.2.1,q.2.2,0)
 | none=>if usedV M n=false then (0,[],10) else if (readV D n).2≠0 then (0,[],(readV D n).2) else openV n (readV D n).1
theorem qkT {D:DiskM} {M:PgM} (hD:D.Ok) (hB:∀ e∈M.fresh,IsB e.2.2) (n:Int):IsB (pagerReadM D M n).2.1:=by
 have hz:IsB ([]:List Int):=fun x hx=>nomatch hx
 unfold pagerReadM
 split
 ·exact hz
 split
 ·rename_i q hq
  exact hB _ (qa5 hq).2
 ·split
  ·exact hz
  split
  ·exact hz
  ·exact (qlS (qbp hD n).1 n).1
def PgM.Named (M:PgM):Prop:=(M.free++M.fresh.map (·.1)).Perm M.named
theorem qoa (s:Sup) (pages numbers:List Int) (t:Int) (ov:Bool):(begunM s pages numbers t ov numbers).Named:=by
 show (numbers++[]).Perm numbers
 rw [List.append_nil]
theorem qp9 {M:PgM} {kd:Int} {l:List Int} (hW:M.Wf) (h:M.Named):(makeV M kd l).2.Named:=by
 unfold makeV
 split
 ·exact h
 split
 ·exact h
 split
 ·exact h
 ·rename_i n r hf
  have hnk:n∉M.fresh.map (·.1):=fun hm=>by
   have hn:=hW.nodup
   rw [hf,List.cons_append,List.nodup_cons] at hn
   exact hn.1 (List.mem_append_right _ (List.mem_append_right _ (List.mem_append_right _ hm)))
  show (r++(setL n (kd,l) M.fresh).map (·.1)).Perm M.named
  rw [qnp hnk,List.map_append,<- List.append_assoc]
  refine (List.perm_append_singleton n _).trans ?_
  have:=h
  rw [PgM.Named,hf] at this
  exact this
theorem qr0 {M:PgM} {n kd:Int} {l:List Int} (h:M.Named):(putV M n kd l).2.Named:=by
 unfold putV
 split
 ·exact h
 split
 ·exact h
 rename_i q hq
 split
 ·exact h
 ·have hm:n∈M.fresh.map (·.1):=List.mem_map.2 ⟨_,(qa5 hq).2,rfl⟩
  show (M.free++(setL n (kd,l) M.fresh).map (·.1)).Perm M.named
  rw [qlo hm]
  exact h
theorem qpv {M:PgM} {n:Int} (hW:M.Wf) (h:M.Named):(dropV M n).2.Named:=by
 unfold dropV
 split
 ·exact h
 split
 ·rename_i q hq
  have hm:n∈M.fresh.map (·.1):=List.mem_map.2 ⟨_,(qa5 hq).2,rfl⟩
  have hn:=hW.nodup
  have hnf:n∉M.free:=fun h=>by
   rw [List.nodup_append] at hn
   exact hn.2.2 n h n (List.mem_append_right _ (List.mem_append_right _ hm)) rfl
  show (ins n M.free++(delL n M.fresh).map (·.1)).Perm M.named
  refine (((qct hnf).append_right _).trans ?_).trans h
  exact List.perm_middle.symm.trans ((qlu hm).symm.append_left M.free)
 ·split
  ·exact h
  ·exact h
end Go.Proofs.YtmmkegapckbomaaGreatDoor
end
section
set_option linter.unusedVariables false
set_option linter.unusedSimpArgs false
namespace Go.Proofs.YtmmkegapckbomaaGreatDoor
open Go Go.Pt
open Classical
def lookv {β:Type} (n:Int) (l:List (Int×β)):Option β:=(look n l).map (·.2)
theorem qa9 {β:Type} (n:Int) (p:Int×β) (r:List (Int×β)):lookv n (p::r)=if n=p.1 then some p.2 else lookv n r:=by
 unfold lookv
 rw [look]
 split
 ·rfl
 ·cases look n r <;> rfl
theorem qrG {β:Type} (n:Int) (v:β) (p:Int×β) (r:List (Int×β)):setL n v (p::r)=if n=p.1 then (n,v)::r else p::setL n v r:=by
 by_cases h:n=p.1
 ·rw [if_pos h]
  unfold setL
  rw [look,if_pos h]
  rfl
 ·rw [if_neg h]
  unfold setL
  rw [look,if_neg h]
  cases look n r <;> rfl
theorem qqW {β:Type} (n:Int) (p:Int×β) (r:List (Int×β)):delL n (p::r)=if n=p.1 then r else p::delL n r:=by
 by_cases h:n=p.1
 ·rw [if_pos h]
  unfold delL
  rw [look,if_pos h]
  rfl
 ·rw [if_neg h]
  unfold delL
  rw [look,if_neg h]
  cases look n r <;> rfl
theorem qf9 {β:Type} (n q:Int) (v:β):∀ l:List (Int×β),lookv q (setL n v l)=if q=n then some v else lookv q l
 | []=>by
  show lookv q [(n,v)]=_
  rw [qa9]
 | p::r=>by
  rw [qrG]
  by_cases h:n=p.1
  ·rw [if_pos h,qa9,qa9,<- h]
   by_cases h2:q=n
   ·rw [if_pos h2,if_pos h2]
   ·rw [if_neg h2,if_neg h2,if_neg h2]
  ·rw [if_neg h,qa9,qf9 n q v r,qa9]
   by_cases h2:q=p.1
   ·rw [if_pos h2,if_neg (fun e=>h (by rw [<- e,h2])),if_pos h2]
   ·rw [if_neg h2,if_neg h2]
theorem qft {β:Type} {n:Int} {l:List (Int×β)}:lookv n l=none↔n∉l.map (·.1):=by
 unfold lookv
 rw [Option.map_eq_none_iff,qbn]
theorem qlF {β:Type} (n q:Int):∀ l:List (Int×β),(l.map (·.1)).Nodup->lookv q (delL n l)=if q=n then none else lookv q l
 | [],_=>by
  show lookv q []=_
  split <;> rfl
 | p::r,hn=>by
  have h1:=List.nodup_cons.1 (show (p.1::r.map (·.1)).Nodup from hn)
  rw [qqW]
  by_cases h:n=p.1
  ·rw [if_pos h,qa9]
   by_cases h2:q=n
   ·rw [if_pos h2,h2,h]; exact qft.2 h1.1
   ·rw [if_neg h2,if_neg (fun e=>h2 (by rw [e,h]))]
  ·rw [if_neg h,qa9,qlF n q r h1.2,qa9]
   by_cases h2:q=p.1
   ·rw [if_pos h2,if_neg (fun e=>h (by rw [<- e,h2])),if_pos h2]
   ·rw [if_neg h2,if_neg h2]
theorem qrA (n:Int):∀ l:List Int,l.length<=(ins n l).length
 | []=>Nat.zero_le _
 | a::l=>by
  have:=qrA n l
  simp only [ins]
  split
  ·simp
  split
  ·exact Nat.le_refl _
  ·simp only [List.length_cons]; omega
theorem qaE {M:PgM} {n:Int}:usedV M n=true↔2<=n/\n<M.sup.2.getD 0 0/\n∉M.lists/\n∉M.free/\n∉M.deferred/\lookv n M.fresh=none:=by
 unfold usedV lookv
 rw [Option.map_eq_none_iff]
 simp only [Bool.and_eq_true,Bool.not_eq_true',Bool.or_eq_false_iff,decide_eq_false_iff_not,Option.isNone_iff_eq_none]
 constructor
 ·rintro ⟨⟨⟨⟨⟨h1,h2⟩,h3⟩,h4⟩,h5⟩,h6⟩
  exact ⟨by omega,by omega,h3,h4,h5,h6⟩
 ·rintro ⟨h1,h2,h3,h4,h5,h6⟩
  exact ⟨⟨⟨⟨⟨by omega,by omega⟩,h3⟩,h4⟩,h5⟩,h6⟩
def InUse (M:PgM) (x:Int):Prop:=x∈M.fresh.map (·.1)\/usedV M x=true
theorem fresh_look {M:PgM} {x:Int}:x∈M.fresh.map (·.1)↔∃ q,lookv x M.fresh=some q:=by
 constructor
 ·intro h
  cases e:lookv x M.fresh with
  | none=>exact absurd h (qft.1 e)
  | some q=>exact ⟨q,rfl⟩
 ·rintro ⟨q,e⟩
  exact Classical.byContradiction fun h=>by rw [qft.2 h] at e; cases e
theorem qmu {D:DiskM} {M:PgM} (ho:M.over=false) (n:Int):pagerReadM D M n=match lookv n M.fresh with
  | some q=>(q.1,q.2,0)
  | none=>if usedV M n=false then (0,[],10) else if (readV D n).2≠0 then (0,[],(readV D n).2) else openV n (readV D n).1:=by
 unfold pagerReadM lookv
 rw [if_neg (by rw [ho]; decide)]
 cases look n M.fresh <;> rfl
theorem qnG {D:DiskM} {M:PgM} (ho:M.over=false) {n:Int} (h:(pagerReadM D M n).2.2=0):InUse M n:=by
 rw [qmu ho] at h
 cases e:lookv n M.fresh with
 | some q=>exact .inl (fresh_look.2 ⟨q,e⟩)
 | none=>
  rw [e] at h
  dsimp only at h
  split at h
  ·cases h
  ·rename_i hu; exact .inr (by simpa using hu)
theorem qrn {D:DiskM} (M:PgM) (ho:M.over=false) {n:Int} {q:Int×List Int} (h:lookv n M.fresh=some q):pagerReadM D M n=(q.1,q.2,0):=by rw [qmu ho,h]
theorem qhg {D:DiskM} {M:PgM} (M':PgM) (ho:M.over=false) (ho':M'.over=false) {n:Int} (h1:lookv n M'.fresh=lookv n M.fresh) (h2:usedV M' n=usedV M n):pagerReadM D M' n=pagerReadM D M n:=by
 rw [qmu ho,qmu ho',h1,h2]
theorem qfu {M:PgM} (M':PgM) {n:Int} (h1:lookv n M'.fresh=lookv n M.fresh) (h2:usedV M' n=usedV M n):InUse M' n↔InUse M n:=by
 unfold InUse
 rw [fresh_look,fresh_look,h1,h2]
theorem qem {M:PgM} (hW:M.Wf) {x:Int} (h:InUse M x):2<=x/\x<M.sup.2.getD 0 0:=by
 rcases h with h | h
 ·exact hW.range x (by simp only [List.mem_append]; exact .inr (.inr (.inr h)))
 ·exact ⟨(qaE.1 h).1,(qaE.1 h).2.1⟩
structure Turned (D:DiskM) (M M':PgM) (q p:Int) (r:Option (Int×List Int)):Prop where
 wf:M'.Wf
 over:M'.over=false
 roots:M'.roots=M.roots
 sup:M'.sup=M.sup
 lists:M'.lists=M.lists
 named:M'.named=M.named
 Named:M.Named->M'.Named
 turn:M'.turn=M.turn
 rest:∀ x,x≠q->x≠p->pagerReadM D M' x=pagerReadM D M x
 use:∀ x,x≠q->x≠p->(InUse M' x↔InUse M x)
 old:∀ x,usedV M' x=true->usedV M x=true
 wrote:∀ y,r=some y->pagerReadM D M' q=(y.1,y.2,0)/\InUse M' q
 left:p≠q->¬ InUse M' p
section
variable {D:DiskM} {M:PgM}
theorem qoD {kd:Int} {b:List Int} {n:Int} {fr:List Int} (hW:M.Wf) (ho:M.over=false) (hk:0<=kd/\kd<256) (hB:IsB b) (hl:b.length<=500) (hf:M.free=n::fr) :
  ∃ M',makeV M kd b=((n,0),M')/\Turned D M M' n n (some (kd,b))/\¬ InUse M n/\M'.free=fr/\M'.deferred=M.deferred:=by
 have e:makeV M kd b=((n,0),{ M with free:=fr,fresh:=setL n (kd,b) M.fresh }):=by rw [makeV,if_neg (by rw [ho]; decide),if_neg (by omega),hf]
 have hw:=(qpi (kind:=kd) (body:=b) hW hk hB).1
 rw [e] at hw
 have hnd:(n::(fr++(M.deferred++(M.lists++M.fresh.map (·.1))))).Nodup:=by have:=hW.nodup; rw [hf] at this; exact this
 have hn1:=List.nodup_cons.1 hnd
 have hnf:n∉M.fresh.map (·.1):=fun h=>hn1.1 (by simp only [List.mem_append]; exact .inr (.inr (.inr h)))
 have hnu:¬ InUse M n:=fun h=>by
  rcases h with h | h
  ·exact hnf h
  ·exact (qaE.1 h).2.2.2.1 (by rw [hf]; simp)
 have hlk:∀ x,lookv x (setL n (kd,b) M.fresh)=if x=n then some (kd,b) else lookv x M.fresh:=fun x=>qf9 n x _ _
 have hus:∀ x,x≠n->usedV { M with free:=fr,fresh:=setL n (kd,b) M.fresh } x=usedV M x:=fun x hx=>by
  rw [Bool.eq_iff_iff,qaE,qaE]
  dsimp only
  rw [hlk,if_neg hx,hf,List.mem_cons]
  constructor
  ·rintro ⟨h1,h2,h3,h4,h5⟩; exact ⟨h1,h2,h3,fun h=>h.elim hx h4,h5⟩
  ·rintro ⟨h1,h2,h3,h4,h5⟩; exact ⟨h1,h2,h3,fun h=>h4 (.inr h),h5⟩
 refine ⟨_,e,⟨hw,ho,rfl,rfl,rfl,rfl,fun h=>?_,rfl,fun x hx _=>qhg { M with free:=fr,fresh:=setL n (kd,b) M.fresh } ho ho (by dsimp only; rw [hlk,if_neg hx]) (hus x hx),fun x hx _=>qfu { M with free:=fr,fresh:=setL n (kd,b) M.fresh } (by dsimp only; rw [hlk,if_neg hx]) (hus x hx),fun x hx=>?_,fun y hy=>?_,fun h=>absurd rfl h⟩,hnu,rfl,rfl⟩
 ·have:=qp9 (kd:=kd) (l:=b) hW h
  rw [e] at this
  exact this
 ·by_cases hxn:x=n
  ·have:=(qaE.1 hx).2.2.2.2.2
   dsimp only at this
   rw [hlk,if_pos hxn] at this
   cases this
  ·rw [hus x hxn] at hx; exact hx
 ·cases hy
  refine ⟨?_,.inl (fresh_look.2 ⟨(kd,b),by dsimp only; rw [hlk,if_pos rfl]⟩)⟩
  exact qrn { M with free:=fr,fresh:=setL n (kd,b) M.fresh } ho (by dsimp only; rw [hlk,if_pos rfl])
theorem qp2 {kd:Int} {b:List Int} {n:Int} (hW:M.Wf) (ho:M.over=false) (hk:0<=kd/\kd<256) (hB:IsB b) (hl:b.length<=500) (hf:n∈M.fresh.map (·.1)) :
  ∃ M',putV M n kd b=(0,M')/\Turned D M M' n n (some (kd,b))/\M'.free=M.free/\M'.deferred=M.deferred:=by
 obtain ⟨v,hv⟩:=fresh_look.1 hf
 have e:putV M n kd b=(0,{ M with fresh:=setL n (kd,b) M.fresh }):=by
  unfold lookv at hv
  obtain ⟨q,hq,_⟩:=Option.map_eq_some_iff.1 hv
  rw [putV,if_neg (by rw [ho]; decide),hq]
  dsimp only
  rw [if_neg (by omega)]
 have hw:=(qrk (n:=n) (kind:=kd) (body:=b) hW hk hB).1
 rw [e] at hw
 have hlk:∀ x,lookv x (setL n (kd,b) M.fresh)=if x=n then some (kd,b) else lookv x M.fresh:=fun x=>qf9 n x _ _
 have hus:∀ x,usedV { M with fresh:=setL n (kd,b) M.fresh } x=usedV M x:=fun x=>by
  rw [Bool.eq_iff_iff,qaE,qaE]
  dsimp only
  rw [hlk]
  by_cases hx:x=n
  ·rw [if_pos hx,hx,hv]; simp
  ·rw [if_neg hx]
 refine ⟨_,e,⟨hw,ho,rfl,rfl,rfl,rfl,fun h=>?_,rfl,fun x hx _=>qhg { M with fresh:=setL n (kd,b) M.fresh } ho ho (by dsimp only; rw [hlk,if_neg hx]) (hus x),fun x hx _=>qfu { M with fresh:=setL n (kd,b) M.fresh } (by dsimp only; rw [hlk,if_neg hx]) (hus x),fun x hx=>by rw [hus x] at hx; exact hx,fun y hy=>?_,fun h=>absurd rfl h⟩,rfl,rfl⟩
 ·have:=qr0 (n:=n) (kd:=kd) (l:=b) h
  rw [e] at this
  exact this
 ·cases hy
  refine ⟨?_,.inl (fresh_look.2 ⟨(kd,b),by dsimp only; rw [hlk,if_pos rfl]⟩)⟩
  exact qrn { M with fresh:=setL n (kd,b) M.fresh } ho (by dsimp only; rw [hlk,if_pos rfl])
theorem qrz {kd:Int} {b:List Int} {n:Int} (ho:M.over=false) (hf:n∉M.fresh.map (·.1)):putV M n kd b=(10,M):=by
 rw [putV,if_neg (by rw [ho]; decide),qbn.2 hf]
theorem qh5 {n q:Int} (hW:M.Wf) (ho:M.over=false) (hu:InUse M n) (hnq:n≠q) :
  ∃ M',dropV M n=(0,M')/\Turned D M M' q n none/\(pagerReadM D M' q=pagerReadM D M q)/\(InUse M' q↔InUse M q)/\M.free.length<=M'.free.length:=by
 have hw:=qoM (n:=n) hW
 by_cases hf:n∈M.fresh.map (·.1)
 ·obtain ⟨v,hv⟩:=fresh_look.1 hf
  have hnd:(M.fresh.map (·.1)).Nodup:=hW.keysNodup
  have e:dropV M n=(0,{ M with fresh:=delL n M.fresh,free:=ins n M.free }):=by
   unfold lookv at hv
   obtain ⟨y,hy,_⟩:=Option.map_eq_some_iff.1 hv
   rw [dropV,if_neg (by rw [ho]; decide),hy]
  rw [e] at hw
  have hlk:∀ x,lookv x (delL n M.fresh)=if x=n then none else lookv x M.fresh:=fun x=>qlF n x _ hnd
  have hus:∀ x,x≠n->usedV { M with fresh:=delL n M.fresh,free:=ins n M.free } x=usedV M x:=fun x hx=>by
   rw [Bool.eq_iff_iff,qaE,qaE]
   dsimp only
   rw [hlk,if_neg hx,qeF]
   constructor
   ·rintro ⟨h1,h2,h3,h4,h5⟩; exact ⟨h1,h2,h3,fun h=>h4 (.inr h),h5⟩
   ·rintro ⟨h1,h2,h3,h4,h5⟩; exact ⟨h1,h2,h3,fun h=>h.elim hx h4,h5⟩
  have hnu:¬ InUse { M with fresh:=delL n M.fresh,free:=ins n M.free } n:=fun h=>by
   rcases h with h | h
   ·obtain ⟨y,hy⟩:=fresh_look.1 h
    dsimp only at hy
    rw [hlk,if_pos rfl] at hy
    cases hy
   ·exact (qaE.1 h).2.2.2.1 (qeF.2 (.inl rfl))
  have all:∀ x,x≠n->pagerReadM D { M with fresh:=delL n M.fresh,free:=ins n M.free } x=pagerReadM D M x:=fun x hx=>qhg { M with fresh:=delL n M.fresh,free:=ins n M.free } ho ho (by dsimp only; rw [hlk,if_neg hx]) (hus x hx)
  have allu:∀ x,x≠n->(InUse { M with fresh:=delL n M.fresh,free:=ins n M.free } x↔InUse M x):=fun x hx=>qfu { M with fresh:=delL n M.fresh,free:=ins n M.free } (by dsimp only; rw [hlk,if_neg hx]) (hus x hx)
  refine ⟨_,e,⟨hw,ho,rfl,rfl,rfl,rfl,fun h=>?_,rfl,fun x _ hx=>all x hx,fun x _ hx=>allu x hx,fun x hx=>?_,fun y hy=>(nomatch hy),fun _=>hnu⟩,all q fun e=>hnq e.symm,allu q fun e=>hnq e.symm,?_⟩
  ·have:=qpv (n:=n) hW h
   rw [e] at this
   exact this
  ·by_cases hxn:x=n
   ·subst hxn; exact absurd (.inr hx) hnu
   ·rw [hus x hxn] at hx; exact hx
  ·exact qrA n M.free
 ·have hus0:usedV M n=true:=hu.resolve_left hf
  have e:dropV M n=(0,{ M with deferred:=ins n M.deferred }):=by
   rw [dropV,if_neg (by rw [ho]; decide),qbn.2 hf]
   dsimp only
   rw [if_pos hus0]
  rw [e] at hw
  have hus:∀ x,x≠n->usedV { M with deferred:=ins n M.deferred } x=usedV M x:=fun x hx=>by
   rw [Bool.eq_iff_iff,qaE,qaE]
   dsimp only
   rw [qeF]
   constructor
   ·rintro ⟨h1,h2,h3,h4,h5,h6⟩; exact ⟨h1,h2,h3,h4,fun h=>h5 (.inr h),h6⟩
   ·rintro ⟨h1,h2,h3,h4,h5,h6⟩; exact ⟨h1,h2,h3,h4,fun h=>h.elim hx h5,h6⟩
  have hnu:¬ InUse { M with deferred:=ins n M.deferred } n:=fun h=>by
   rcases h with h | h
   ·exact hf h
   ·exact (qaE.1 h).2.2.2.2.1 (qeF.2 (.inl rfl))
  have all:∀ x,x≠n->pagerReadM D { M with deferred:=ins n M.deferred } x=pagerReadM D M x:=fun x hx=>qhg { M with deferred:=ins n M.deferred } ho ho rfl (hus x hx)
  have allu:∀ x,x≠n->(InUse { M with deferred:=ins n M.deferred } x↔InUse M x):=fun x hx=>qfu { M with deferred:=ins n M.deferred } rfl (hus x hx)
  refine ⟨_,e,⟨hw,ho,rfl,rfl,rfl,rfl,fun h=>?_,rfl,fun x _ hx=>all x hx,fun x _ hx=>allu x hx,fun x hx=>?_,fun y hy=>(nomatch hy),fun _=>hnu⟩,all q fun e=>hnq e.symm,allu q fun e=>hnq e.symm,Nat.le_refl _⟩
  ·exact h
  ·by_cases hxn:x=n
   ·subst hxn; exact absurd (.inr hx) hnu
   ·rw [hus x hxn] at hx; exact hx
end
noncomputable def loadN (D:DiskM) (M:PgM) (k v:Nat) (p:Int):NodeM×Int:=
 if (pagerReadM D M p).2.2≠0 then (zeroN,(pagerReadM D M p).2.2) else readNV (pagerReadM D M p).1 (pagerReadM D M p).2.1 k v
noncomputable def storeN (k v:Nat) (M:PgM) (p:Int) (n:NodeM):(Int×Int)×PgM:=
 if (writeNV n k v).2.2≠0 then ((0,2),M)
 else if p≠0/\(putV M p (writeNV n k v).1 (writeNV n k v).2.1).1≠10 then ((p,(putV M p (writeNV n k v).1 (writeNV n k v).2.1).1),(putV M p (writeNV n k v).1 (writeNV n k v).2.1).2)
 else if (makeV M (writeNV n k v).1 (writeNV n k v).2.1).1.2=0/\p≠0 then (((makeV M (writeNV n k v).1 (writeNV n k v).2.1).1.1,(dropV (makeV M (writeNV n k v).1 (writeNV n k v).2.1).2 p).1),(dropV (makeV M (writeNV n k v).1 (writeNV n k v).2.1).2 p).2)
 else makeV M (writeNV n k v).1 (writeNV n k v).2.1
structure NodeOk (n:NodeM) (k v:Nat):Prop where
 right:rightV n k v
 keys:∀ a∈n.keys,IsB a
 vals:∀ a∈n.vals,IsB a
 kids:∀ x∈n.kids,x<4294967296
theorem NodeOk.load {D:DiskM} {M:PgM} {k v:Nat} {p:Int} {n:NodeM} (h:NodeOk n k v) (hr:pagerReadM D M p=(kindN n,bodyN n,0)):loadN D M k v p=(n,0):=by
 unfold loadN
 rw [hr]
 exact (if_neg (fun h=>h rfl)).trans (qpA h.right h.kids)
theorem qm7 {D:DiskM} {M:PgM} {k v:Nat} {p:Int} {n:NodeM} (hW:M.Wf) (ho:M.over=false) (hn:NodeOk n k v) (hp:p=0\/InUse M p) (hf:M.free≠[]) :
  ∃ q M',storeN k v M p n=((q,0),M')/\Turned D M M' q (if p=0 then q else p) (some (kindN n,bodyN n))/\(q=p\/¬ InUse M q)/\M.free.length<=M'.free.length+1/\(p∈M.fresh.map (·.1)->q=p/\M'.free=M.free):=by
 have hw:writeNV n k v=(kindN n,bodyN n,0):=by unfold writeNV; rw [if_pos hn.right]
 have hB:=qlM hn.keys hn.vals
 have hl:=(qdH hn.right).2
 have hk:0<=kindN n/\kindN n<256:=by unfold kindN; split <;> exact ⟨by decide,by decide⟩
 unfold storeN
 rw [hw]
 dsimp only
 rw [if_neg (fun h=>h rfl)]
 obtain ⟨q,fr,hfr⟩:∃ q fr,M.free=q::fr:=by
  cases e:M.free with
  | nil=>exact absurd e hf
  | cons q fr=>exact ⟨q,fr,rfl⟩
 obtain ⟨M1,e1,t1,hnu,hf1,_⟩:=qoD (D:=D) hW ho hk hB hl hfr
 rcases hp with rfl | hp
 ·rw [if_neg (fun h=>h.1 rfl),if_neg (fun h=>h.2 rfl),e1]
  refine ⟨q,M1,rfl,by rw [if_pos rfl]; exact t1,.inr hnu,by rw [hfr,hf1]; exact Nat.le_refl _,fun h=>?_⟩
  have:=(qem hW (.inl h)).1
  omega
 ·have hp0:p≠0:=by have:=(qem hW hp).1; omega
  by_cases hfp:p∈M.fresh.map (·.1)
  ·obtain ⟨M2,e2,t2,hf2,_⟩:=qp2 (D:=D) hW ho hk hB hl hfp
   rw [e2,if_pos ⟨hp0,(show (0:Int)≠10 by decide)⟩]
   exact ⟨p,M2,rfl,by rw [if_neg hp0]; exact t2,.inl rfl,by rw [hf2]; omega,fun _=>⟨rfl,hf2⟩⟩
  ·rw [qrz ho hfp,if_neg (fun h=>h.2 rfl),e1,if_pos ⟨rfl,hp0⟩]
   have hpq:p≠q:=fun e=>hnu (e▸hp)
   have hu1:InUse M1 p:=(t1.use p hpq hpq).2 hp
   obtain ⟨M2,e2,t2,hr2,hu2,hf2⟩:=qh5 (D:=D) t1.wf t1.over hu1 hpq
   dsimp only
   rw [e2]
   refine ⟨q,M2,rfl,?_,.inr hnu,by rw [hfr,List.length_cons,<- hf1]; omega,fun h=>absurd h hfp⟩
   rw [if_neg hp0]
   exact ⟨t2.wf,t2.over,t2.roots.trans t1.roots,t2.sup.trans t1.sup,t2.lists.trans t1.lists,t2.named.trans t1.named,fun h=>t2.Named (t1.Named h),t2.turn.trans t1.turn,fun x hx hxp=>(t2.rest x hx hxp).trans (t1.rest x hx hx),fun x hx hxp=>(t2.use x hx hxp).trans (t1.use x hx hx),fun x hx=>t1.old x (t2.old x hx),fun y hy=>by
    have:=t1.wrote y hy
    exact ⟨hr2.trans this.1,hu2.2 this.2⟩,fun h=>t2.left h⟩
section
structure Grown where
 page:Int
 fresh:Bool
 key:Key
 other:Int
def zeroG:Grown:=⟨0,false,[],0⟩
def insAt {α:Type} (l:List α) (i:Nat) (x:α):List α:=l.take i++[x]++l.drop i
def sizeN (n:NodeM) (k v:Nat):Nat×Nat:=if n.leaf then (n.keys.length,(capsV k v).1) else (n.kids.length,(capsV k v).2)
def halvesN (n:NodeM) (mid:Nat):NodeM×NodeM×Key:=
 if n.leaf then ({ n with keys:=n.keys.take mid,vals:=n.vals.take mid },{ n with keys:=n.keys.drop mid,vals:=n.vals.drop mid },n.keys.getD mid [])
 else ({ n with kids:=n.kids.take mid,keys:=n.keys.take (mid-1) },{ n with kids:=n.kids.drop mid,keys:=n.keys.drop mid },n.keys.getD (mid-1) [])
noncomputable def splitN (k v:Nat) (M:PgM) (p:Int) (n:NodeM) (fresh:Bool):(Grown×Int)×PgM:=
 if (sizeN n k v).1>(sizeN n k v).2 then
  if (storeN k v M 0 (halvesN n ((sizeN n k v).1 / 2)).2.1).1.2≠0 then ((zeroG,(storeN k v M 0 (halvesN n ((sizeN n k v).1 / 2)).2.1).1.2),(storeN k v M 0 (halvesN n ((sizeN n k v).1 / 2)).2.1).2)
  else ((⟨(storeN k v (storeN k v M 0 (halvesN n ((sizeN n k v).1 / 2)).2.1).2 p (halvesN n ((sizeN n k v).1 / 2)).1).1.1,fresh,(halvesN n ((sizeN n k v).1 / 2)).2.2,(storeN k v M 0 (halvesN n ((sizeN n k v).1 / 2)).2.1).1.1⟩,
    (storeN k v (storeN k v M 0 (halvesN n ((sizeN n k v).1 / 2)).2.1).2 p (halvesN n ((sizeN n k v).1 / 2)).1).1.2),
    (storeN k v (storeN k v M 0 (halvesN n ((sizeN n k v).1 / 2)).2.1).2 p (halvesN n ((sizeN n k v).1 / 2)).1).2)
 else ((⟨(storeN k v M p n).1.1,fresh,[],0⟩,(storeN k v M p n).1.2),(storeN k v M p n).2)
def grownN (n:NodeM) (c:Nat) (g:Grown):NodeM:=
 if g.other≠0 then { n with kids:=insAt (n.kids.set c g.page) (c+1) g.other,keys:=insAt n.keys c g.key } else { n with kids:=n.kids.set c g.page }
noncomputable def putN (D:DiskM) (k v:Nat) (key val:Key):Nat->PgM->Int->(Grown×Int)×PgM
 | 0,M,_=>((zeroG,-1),M)
 | f+1,M,p=>
  if (loadN D M k v p).2≠0 then ((zeroG,(loadN D M k v p).2),M)
  else if (loadN D M k v p).1.leaf then
   if (loadN D M k v p).1.keys[placeV (loadN D M k v p).1.keys key]?=some key then splitN k v M p { (loadN D M k v p).1 with vals:=(loadN D M k v p).1.vals.set (placeV (loadN D M k v p).1.keys key) val } false
   else splitN k v M p { (loadN D M k v p).1 with keys:=insAt (loadN D M k v p).1.keys (placeV (loadN D M k v p).1.keys key) key,vals:=insAt (loadN D M k v p).1.vals (placeV (loadN D M k v p).1.keys key) val } true
  else if (putN D k v key val f M ((loadN D M k v p).1.kids.getD (kidV (loadN D M k v p).1.keys key) 0)).1.2≠0 then
   ((zeroG,(putN D k v key val f M ((loadN D M k v p).1.kids.getD (kidV (loadN D M k v p).1.keys key) 0)).1.2),(putN D k v key val f M ((loadN D M k v p).1.kids.getD (kidV (loadN D M k v p).1.keys key) 0)).2)
  else if (putN D k v key val f M ((loadN D M k v p).1.kids.getD (kidV (loadN D M k v p).1.keys key) 0)).1.1.page=(loadN D M k v p).1.kids.getD (kidV (loadN D M k v p).1.keys key) 0/\(putN D k v key val f M ((loadN D M k v p).1.kids.getD (kidV (loadN D M k v p).1.keys key) 0)).1.1.other=0 then
   ((⟨p,(putN D k v key val f M ((loadN D M k v p).1.kids.getD (kidV (loadN D M k v p).1.keys key) 0)).1.1.fresh,[],0⟩,0),(putN D k v key val f M ((loadN D M k v p).1.kids.getD (kidV (loadN D M k v p).1.keys key) 0)).2)
  else splitN k v (putN D k v key val f M ((loadN D M k v p).1.kids.getD (kidV (loadN D M k v p).1.keys key) 0)).2 p (grownN (loadN D M k v p).1 (kidV (loadN D M k v p).1.keys key) (putN D k v key val f M ((loadN D M k v p).1.kids.getD (kidV (loadN D M k v p).1.keys key) 0)).1.1) (putN D k v key val f M ((loadN D M k v p).1.kids.getD (kidV (loadN D M k v p).1.keys key) 0)).1.1.fresh
structure Seg where
 page:Int
 size:Nat
 prs:Prs
 pages:List Int
abbrev Ent:=Key×Seg
def lfOf (L:Prs):NodeM:=⟨true,L.map (·.1),L.map (·.2),[]⟩
def inOf (es:List Ent):NodeM:=⟨false,(es.map (·.1)).tail,[],es.map (·.2.page)⟩
structure SepE (es:List Ent):Prop where
 pair:es.Pairwise fun a b=>KLt a.1 b.1/\∀ x∈a.2.prs,KLt x.1 b.1
 low:∀ e∈es,∀ x∈e.2.prs,KLe e.1 x.1
def minOf (k v:Nat) (h:Nat):Nat:=if h=0 then (capsV k v).1 / 2 else (capsV k v).2 / 2
def Has (D:DiskM) (M:PgM) (k v:Nat):Nat->Seg->Prop
 | 0,s=>s.pages=[s.page]/\s.size=s.prs.length/\NodeOk (lfOf s.prs) k v/\pagerReadM D M s.page=(3,bodyN (lfOf s.prs),0)
 | h+1,s=>∃ es:List Ent,(es.map (·.1)).head?=some []/\s.size=es.length/\s.prs=es.flatMap (·.2.prs)/\s.pages=s.page::es.flatMap (·.2.pages)/\NodeOk (inOf es) k v/\pagerReadM D M s.page=(4,bodyN (inOf es),0)/\SepE es/\
   ∀ e∈es,Has D M k v h e.2/\minOf k v h<=e.2.size
theorem qeu (x:Key):KLe [] x:=by
 unfold KLe KLt
 cases x <;> simp [cmpL]
theorem qir {x:Key}:¬ KLt x []:=qeu x
section
variable {D:DiskM} {M M':PgM} {k v:Nat}
theorem Has.mem:∀ {h:Nat} {s:Seg},Has D M k v h s->s.page∈s.pages
 | 0,s,hs=>by rw [hs.1]; simp
 | h+1,s,⟨es,_,_,_,hp,_⟩=>by rw [hp]; simp
theorem Has.frame:∀ {h:Nat} {s:Seg},Has D M k v h s->(∀ x∈s.pages,pagerReadM D M' x=pagerReadM D M x)->Has D M' k v h s
 | 0,s,⟨h1,h2,h3,h4⟩,hr=>⟨h1,h2,h3,by rw [hr s.page (by rw [h1]; simp)]; exact h4⟩
 | h+1,s,⟨es,h0,h1,h2,h3,h4,h5,h6,h7⟩,hr=>⟨es,h0,h1,h2,h3,h4,by rw [hr s.page (by rw [h3]; simp)]; exact h5,h6,fun e he=>⟨(h7 e he).1.frame fun x hx=>hr x (by rw [h3]; exact List.mem_cons_of_mem _ (List.mem_flatMap.2 ⟨e,he,hx⟩)),(h7 e he).2⟩⟩
theorem Has.read:∀ {h:Nat} {s:Seg},Has D M k v h s->∀ x∈s.pages,(pagerReadM D M x).2.2=0
 | 0,s,⟨h1,h2,h3,h4⟩,x,hx=>by
  rw [h1] at hx
  rw [List.mem_singleton.1 hx,h4]
 | h+1,s,⟨es,h0,h1,h2,h3,h4,h5,h6,h7⟩,x,hx=>by
  rw [h3] at hx
  rcases List.mem_cons.1 hx with rfl | hx
  ·rw [h5]
  ·obtain ⟨e,he,hx⟩:=List.mem_flatMap.1 hx
   exact (h7 e he).1.read x hx
theorem Has.used (ho:M.over=false) {h:Nat} {s:Seg} (hs:Has D M k v h s):∀ x∈s.pages,InUse M x:=fun x hx=>qnG ho (hs.read x hx)
theorem rightV.leafNe {L:Prs} (h:rightV (lfOf L) k v):L≠[]:=fun e=>by
 have:=h.2.2.2
 rw [if_pos (show (lfOf L).leaf=true from rfl)] at this
 have h1:=this.2.1
 rw [e] at h1
 exact absurd h1 (by decide)
theorem rightV.innerTwo {es:List Ent} (h:rightV (inOf es) k v):2<=es.length/\es.length<=(capsV k v).2:=by
 have:=h.2.2.2
 rw [if_neg (show ¬ (inOf es).leaf=true from fun e=>nomatch e)] at this
 have h1:=this.2.2.1
 have h2:=this.2.2.2.1
 have e:(inOf es).kids.length=es.length:=by show (es.map _).length=_; rw [List.length_map]
 rw [e] at h1 h2
 exact ⟨h1,h2⟩
theorem Has.ne:∀ {h:Nat} {s:Seg},Has D M k v h s->s.prs≠[]
 | 0,s,⟨h1,h2,h3,h4⟩=>h3.right.leafNe
 | h+1,s,⟨es,h0,h1,h2,h3,h4,h5,h6,h7⟩=>fun e=>by
  have:=h4.right.innerTwo
  cases es with
  | nil=>simp at this
  | cons a r=>
   rw [h2,List.flatMap_cons] at e
   exact (h7 a (by simp)).1.ne (List.append_eq_nil_iff.1 e).1
theorem SepE.mid {A B:List Ent} {e:Ent} (h:SepE (A++e::B)):(∀ a∈A,∀ x∈a.2.prs,KLt x.1 e.1)/\(∀ b∈B,KLt e.1 b.1/\(∀ x∈e.2.prs,KLt x.1 b.1)/\∀ y∈b.2.prs,KLe b.1 y.1):=by
 have hp:=List.pairwise_append.1 h.pair
 refine ⟨fun a ha x hx=>(hp.2.2 a ha e (by simp)).2 x hx,fun b hb=>?_⟩
 have:=(List.pairwise_cons.1 hp.2.1).1 b hb
 exact ⟨this.1,this.2,h.low b (by simp [hb])⟩
theorem SepE.sort:∀ {es:List Ent},SepE es->(∀ e∈es,SortP e.2.prs)->SortP (es.flatMap (·.2.prs))
 | [],_,_=>.nil
 | e::es,h,hs=>by
  rw [List.flatMap_cons,SortP.app]
  have hp:=List.pairwise_cons.1 h.pair
  refine ⟨hs e (by simp),SepE.sort ⟨hp.2,fun e he=>h.low e (List.mem_cons_of_mem _ he)⟩ fun e he=>hs e (List.mem_cons_of_mem _ he),fun x hx y hy=>?_⟩
  obtain ⟨b,hb,hy⟩:=List.mem_flatMap.1 hy
  exact qbc ((hp.1 b hb).2 x hx) (h.low b (List.mem_cons_of_mem _ hb) y hy)
theorem Has.sort:∀ {h:Nat} {s:Seg},Has D M k v h s->SortP s.prs
 | 0,s,⟨h1,h2,h3,h4⟩=>h3.right.2.2.1
 | h+1,s,⟨es,h0,h1,h2,h3,h4,h5,h6,h7⟩=>by
  rw [h2]
  exact h6.sort fun e he=>(h7 e he).1.sort
def PrsOk (k v:Nat) (L:Prs):Prop:=∀ x∈L,x.1.length=k/\x.2.length=v/\IsB x.1/\IsB x.2
theorem Has.prsOk:∀ {h:Nat} {s:Seg},Has D M k v h s->PrsOk k v s.prs
 | 0,s,⟨h1,h2,h3,h4⟩=>fun x hx=>⟨h3.right.1 x.1 (List.mem_map_of_mem hx),h3.right.2.1 x.2 (List.mem_map_of_mem hx),h3.keys x.1 (List.mem_map_of_mem hx),h3.vals x.2 (List.mem_map_of_mem hx)⟩
 | h+1,s,⟨es,h0,h1,h2,h3,h4,h5,h6,h7⟩=>fun x hx=>by
  rw [h2] at hx
  obtain ⟨e,he,hx⟩:=List.mem_flatMap.1 hx
  exact (h7 e he).1.prsOk x hx
theorem qez {L:Prs} (hL:PrsOk k v L) (hs:SortP L) (h1:1<=L.length) (h2:L.length<=(capsV k v).1):NodeOk (lfOf L) k v:=by
 refine ⟨⟨fun a ha=>?_,fun a ha=>?_,hs,?_⟩,fun a ha=>?_,fun a ha=>?_,fun x hx=>nomatch hx⟩
 ·obtain ⟨x,hx,rfl⟩:=List.mem_map.1 ha; exact (hL x hx).1
 ·obtain ⟨x,hx,rfl⟩:=List.mem_map.1 ha; exact (hL x hx).2.1
 ·rw [if_pos (show (lfOf L).leaf=true from rfl)]
  refine ⟨rfl,?_,?_,?_⟩
  ·show 1<=(L.map _).length; rw [List.length_map]; exact h1
  ·show (L.map _).length<=_; rw [List.length_map]; exact h2
  ·show (L.map _).length=(L.map _).length; rw [List.length_map,List.length_map]
 ·obtain ⟨x,hx,rfl⟩:=List.mem_map.1 ha; exact (hL x hx).2.2.1
 ·obtain ⟨x,hx,rfl⟩:=List.mem_map.1 ha; exact (hL x hx).2.2.2
theorem qtz {es:List Ent} (hk:∀ a∈(es.map (·.1)).tail,a.length=k/\IsB a) (hr:Rising (es.map (·.1)).tail) (h2:2<=es.length) (h3:es.length<=(capsV k v).2) (hp:∀ e∈es,2<=e.2.page/\e.2.page<4294967296):NodeOk (inOf es) k v:=by
 refine ⟨⟨fun a ha=>(hk a ha).1,fun a ha=>(nomatch ha),hr,?_⟩,fun a ha=>(hk a ha).2,fun a ha=>(nomatch ha),fun x hx=>?_⟩
 ·rw [if_neg (show ¬ (inOf es).leaf=true from fun e=>nomatch e)]
  have e1:(inOf es).kids.length=es.length:=by show (es.map _).length=_; rw [List.length_map]
  have e2:(inOf es).keys.length=es.length-1:=by show ((es.map _).tail).length=_; rw [List.length_tail,List.length_map]
  refine ⟨fun x hx=>?_,rfl,by rw [e1]; exact h2,by rw [e1]; exact h3,by rw [e1,e2]; omega⟩
  obtain ⟨e,he,rfl⟩:=List.mem_map.1 hx
  exact (hp e he).1
 ·obtain ⟨e,he,rfl⟩:=List.mem_map.1 hx
  exact (hp e he).2
theorem SepE.rising {es:List Ent} (h:SepE es):Rising (es.map (·.1)).tail:=by
 have h1:(es.map (·.1)).Pairwise KLt:=List.pairwise_map.2 (h.pair.imp fun h=>h.1)
 exact List.Pairwise.sublist (List.tail_sublist _) h1
structure Step (D:DiskM) (M M':PgM) (P P':List Int):Prop where
 wf:M'.Wf
 over:M'.over=false
 roots:M'.roots=M.roots
 sup:M'.sup=M.sup
 lists:M'.lists=M.lists
 named:M'.named=M.named
 Named:M.Named->M'.Named
 turn:M'.turn=M.turn
 rest:∀ x,InUse M x->x∉P->pagerReadM D M' x=pagerReadM D M x/\InUse M' x/\x∉P'
 use:∀ x,InUse M' x->x∈P'\/(InUse M x/\x∉P)
 has:∀ x∈P',InUse M' x
 new:∀ x∈P',x∈P\/¬ InUse M x
 nodup:P'.Nodup
 old:∀ x,usedV M' x=true->usedV M x=true
theorem Step.refl (hW:M.Wf) (ho:M.over=false) {P:List Int} (hP:∀ x∈P,InUse M x) (hn:P.Nodup):Step D M M P P:=
 ⟨hW,ho,rfl,rfl,rfl,rfl,id,rfl,fun x hx hp=>⟨rfl,hx,hp⟩,fun x hx=>by by_cases h:x∈P; exact .inl h; exact .inr ⟨hx,h⟩,hP,fun x hx=>.inl hx,hn,fun x hx=>hx⟩
theorem Step.perm {P P' Q Q':List Int} (h:Step D M M' P P') (hP:P.Perm Q) (hP':P'.Perm Q'):Step D M M' Q Q':=
 ⟨h.wf,h.over,h.roots,h.sup,h.lists,h.named,h.Named,h.turn,fun x hx hp=>by
  obtain ⟨h1,h2,h3⟩:=h.rest x hx (fun hm=>hp (hP.mem_iff.1 hm))
  exact ⟨h1,h2,fun hm=>h3 (hP'.mem_iff.2 hm)⟩,fun x hx=>(h.use x hx).imp (fun h=>hP'.mem_iff.1 h) fun h=>⟨h.1,fun hm=>h.2 (hP.mem_iff.2 hm)⟩,fun x hx=>h.has x (hP'.mem_iff.2 hx),fun x hx=>(h.new x (hP'.mem_iff.2 hx)).imp (fun h=>hP.mem_iff.1 h) id,hP'.nodup_iff.1 h.nodup,h.old⟩
theorem Step.beside {P P' Z:List Int} (h:Step D M M' P P') (hZ:∀ x∈Z,InUse M x) (hn:(Z++P).Nodup):Step D M M' (Z++P) (Z++P'):=by
 have hd:=List.nodup_append.1 hn
 have hzp:∀ x∈Z,x∉P:=fun x hx hp=>hd.2.2 x hx x hp rfl
 refine ⟨h.wf,h.over,h.roots,h.sup,h.lists,h.named,h.Named,h.turn,fun x hx hp=>?_,fun x hx=>?_,fun x hx=>?_,fun x hx=>?_,?_,h.old⟩
 ·obtain ⟨h1,h2,h3⟩:=h.rest x hx (fun hm=>hp (List.mem_append_right _ hm))
  exact ⟨h1,h2,fun hm=>(List.mem_append.1 hm).elim (fun hm=>hp (List.mem_append_left _ hm)) h3⟩
 ·rcases h.use x hx with h1 | ⟨h1,h2⟩
  ·exact .inl (List.mem_append_right _ h1)
  ·by_cases hz:x∈Z
   ·exact .inl (List.mem_append_left _ hz)
   ·exact .inr ⟨h1,fun hm=>(List.mem_append.1 hm).elim hz h2⟩
 ·rcases List.mem_append.1 hx with hx | hx
  ·exact (h.rest x (hZ x hx) (hzp x hx)).2.1
  ·exact h.has x hx
 ·rcases List.mem_append.1 hx with hx | hx
  ·exact .inl (List.mem_append_left _ hx)
  ·exact (h.new x hx).imp (fun h=>List.mem_append_right _ h) id
 ·rw [List.nodup_append]
  exact ⟨hd.1,h.nodup,fun x hx y hy e=>(h.rest x (hZ x hx) (hzp x hx)).2.2 (e▸hy)⟩
theorem Step.trans {M1:PgM} {P Q R:List Int} (h:Step D M M1 P Q) (g:Step D M1 M' Q R):Step D M M' P R:=
 ⟨g.wf,g.over,g.roots.trans h.roots,g.sup.trans h.sup,g.lists.trans h.lists,g.named.trans h.named,fun x=>g.Named (h.Named x),g.turn.trans h.turn,fun x hx hp=>by
  obtain ⟨h1,h2,h3⟩:=h.rest x hx hp
  obtain ⟨g1,g2,g3⟩:=g.rest x h2 h3
  exact ⟨g1.trans h1,g2,g3⟩,fun x hx=>by
  rcases g.use x hx with h1 | ⟨h1,h2⟩
  ·exact .inl h1
  ·exact (h.use x h1).elim (fun h3=>absurd h3 h2) .inr,g.has,fun x hx=>by
  rcases g.new x hx with h1 | h1
  ·exact h.new x h1
  ·by_cases hP:x∈P
   ·exact .inl hP
   ·by_cases hu:InUse M x
    ·exact absurd (h.rest x hu hP).2.1 h1
    ·exact .inr hu,g.nodup,fun x hx=>h.old x (g.old x hx)⟩
theorem Turned.step {q p:Int} {r:Int×List Int} (ho:M.over=false) (h:Turned D M M' q p (some r)) (hp:InUse M p) (hq:q=p\/¬ InUse M q):Step D M M' [p] [q]:=by
 have hw:=h.wrote r rfl
 refine ⟨h.wf,h.over,h.roots,h.sup,h.lists,h.named,h.Named,h.turn,fun x hx hxp=>?_,fun x hx=>?_,fun x hx=>?_,fun x hx=>?_,by simp,h.old⟩
 ·have hxp:x≠p:=by simpa using hxp
  have hxq:x≠q:=fun e=>by
   rcases hq with hq | hq
   ·exact hxp (e.trans hq)
   ·exact hq (e▸hx)
  exact ⟨h.rest x hxq hxp,(h.use x hxq hxp).2 hx,by simpa using hxq⟩
 ·by_cases hxq:x=q
  ·exact .inl (by simp [hxq])
  ·by_cases hxp:x=p
   ·subst hxp
    exact absurd hx (h.left (fun e=>hxq e))
   ·exact .inr ⟨(h.use x hxq hxp).1 hx,by simpa using hxp⟩
 ·rw [List.mem_singleton.1 hx]; exact hw.2
 ·rw [List.mem_singleton.1 hx]
  rcases hq with hq | hq
  ·exact .inl (by simp [hq])
  ·exact .inr hq
theorem Turned.fresh {q:Int} {r:Int×List Int} (ho:M.over=false) (h:Turned D M M' q q (some r)) (hq:¬ InUse M q):Step D M M' [] [q]:=by
 have hw:=h.wrote r rfl
 refine ⟨h.wf,h.over,h.roots,h.sup,h.lists,h.named,h.Named,h.turn,fun x hx _=>?_,fun x hx=>?_,fun x hx=>?_,fun x hx=>?_,by simp,h.old⟩
 ·have hxq:x≠q:=fun e=>hq (e▸hx)
  exact ⟨h.rest x hxq hxq,(h.use x hxq hxq).2 hx,by simpa using hxq⟩
 ·by_cases hxq:x=q
  ·exact .inl (by simp [hxq])
  ·exact .inr ⟨(h.use x hxq hxq).1 hx,by simp⟩
 ·rw [List.mem_singleton.1 hx]; exact hw.2
 ·rw [List.mem_singleton.1 hx]; exact .inr hq
end
end
end Go.Proofs.YtmmkegapckbomaaGreatDoor
end
section
set_option linter.unusedVariables false
namespace Go.Pt
open Go
variable {w:World} {P:Program}
theorem qty {b:Nat} {o:Obj} (hb:w.heap[b]?=some o):Own [b] w w [(b,o)]:=⟨fun p hp=>by rw [List.mem_singleton.1 hp]; exact hb,by simp,.refl _ _,fun p hp=>.inl (by rw [List.mem_singleton.1 hp]; simp)⟩
theorem qiV {t tn ty e:TypeId} {i:TypeInfo} {z:Value} {kn kq:IntKind} {base:Option Addr} {n cap k:Nat} {olds:List Value} {K:Sl->World->Prop}
  (ht:P.underlying t=some (.slice e)) (htn:P.underlying tn=some (.int kn)) (hi:P.info? e=some i) (hz:i.zero=some z) (hsz:i.size=1) (hzs:z.cells.size=1) (hl:olds.length=n) (hb:base=none->olds=[]) (hc:∀ a,base=some a->∀ (j:Nat) u,olds[j]?=some u->w.cell? (a.add j)=some u)
  (hk:0<k) (hg:cap<n+k) (hbytes:(n+k)*i.bytes<=140737488355328) (h63:n+k<=9223372036854775807)
  (kk:∀ b cs c w',b=w.heap.size->w'.heap[b]?=some (.cells cs e (0,0))->Fr [] w w'->n+k<=c->c<=cs.size->cs.toList.take n=olds->K ⟨some ⟨b,0,none⟩,n+k,c⟩ w') :
  Pt.run [Ty1.one Cell.slice] ((Builtin.append_ #[t,tn] ty #[.slice base n cap,.int kq k]).run P w) K:=by
 subst hl
 have hold:(Builtin.firstCells i.size olds.length (.slice base olds.length cap)).run P w.drew=.ok olds.toArray w.drew:=by
  rw [hsz]
  cases base with
  | none=>rw [hb rfl]; exact run_firstCells_none _ _ _ _ _
  | some a=>exact run_firstCells_some _ _ _ _ _ _ _ (by rw [Nat.mul_one]) (by simpa using hc a rfl)
 have hge:olds.length+k<=grownCap w (olds.length+k) cap e:=grownCap_ge w (olds.length+k) cap e
 have hbk:k*i.bytes<=(olds.length+k)*i.bytes:=Nat.mul_le_mul_right _ (by omega)
 refine qb6 ⟨_,_,_⟩ _ (Lib.run_append_grow_zeros w t tn ty e i z kq kn ht htn hi hz base olds.length cap olds hold k hk (by omega) hg (by omega) (by omega) (growslice_fits hg hbytes)) ?_
 refine kk w.heap.size _ (grownCap w (olds.length+k) cap e) _ rfl (by rw [qb8]; exact if_pos rfl) ((Fr.refl [] w).drew.alloc _) hge ?_ ?_
 ·rw [Array.size_append,Array.size_append,qcn,qcn,hzs,List.size_toArray]
  generalize grownCap w (olds.length+k) cap e=G at hge ⊢
  omega
 ·rw [Array.toList_append,Array.toList_append,List.append_assoc]
  exact List.take_left' (by simp)
theorem qoY {t tx ty e:TypeId} {i:TypeInfo} {b n cap m:Nat} {cs:Array Value} {T:TypeId} {news:List Value} {x:Value} {K:Sl->World->Prop}
  (hb:w.heap[b]?=some (.cells cs T (0,0))) (ht:P.underlying t=some (.slice e)) (hi:P.info? e=some i) (hsz:i.size=1) (hs:Src P 1 tx x m news w) (hroom:n+m<=cap) (hcs:cap<=cs.size)
  (kk:∀ w',w'.heap[b]?=some (.cells (splice cs n news) T (0,0))->Fr [b] w w'->K ⟨some ⟨b,0,none⟩,n+m,cap⟩ w') :
  Pt.run [Ty1.one Cell.slice] ((Builtin.append_ #[t,tx] ty #[.slice (some ⟨b,0,none⟩) n cap,x]).run P w) K:=by
 have hnl:=hs.newsLen
 rw [Nat.mul_one] at hnl
 refine qb6 ⟨_,_,_⟩ _ (run_append_room_src w t tx ty e i ht hi b 0 n cap x m _ (by rw [hsz]; exact hs) hroom (fun j hj=>?_) (fun j hj=>?_)) ?_
 ·rw [hnl] at hj
  rw [hsz,qai hb]
  have:n+j<cs.size:=by omega
  simp [this]
 ·simp [World.frozen?,hb]
 ·rw [qbm hb,hsz,Nat.mul_one,Nat.zero_add]
  exact kk _ (by rw [qaz _ _ _ _ (qac hb),if_pos rfl]) (qb3 (qac hb) _)
theorem qcG {t t' ty el b:Nat} {cs:Array Value} {T:TypeId} {o dLen dCap:Nat} {src:Sl} {vs:List Value} {K:Int->World->Prop} (hb:w.heap[b]?=some (.cells cs T (0,0)))
  (hu:P.underlying t=some (.slice el)) (hs:(P.info? el).map (·.size)=some 1) (hlen:vs.length=Nat.min src.len dLen) (hvs:vs≠[]->∃ a,src.a=some a/\∀ (j:Nat) v,vs[j]?=some v->w.cell? (a.add j)=some v) (h1:∀ v∈vs,v.oneCell'=true)
  (hfit:o+vs.length<=cs.size) (k:∀ w',w'.heap[b]?=some (.cells (splice cs o vs) T (0,0))->Fr [b] w w'->K vs.length w') :
  Pt.run [Ty1.one (Cell.int .i64)] ((Builtin.copy_ #[t,t'] ty #[.slice (some ⟨b,o,none⟩) dLen dCap,.slice src.a src.len src.cap]).run P w) K:=
 (qty hb).copy1 0 rfl hu hs hlen hvs h1 hfit fun w' h'=>k w' (h'.at (i:=0) rfl) h'.fr
theorem qpc {t e ty b o n c:Nat} {cs:Array Value} {T:TypeId} {z:Value} {K:Unit->World->Prop} (hb:w.heap[b]?=some (.cells cs T (0,0))) (ht:P.underlying t=some (.slice e)) (hz:(P.info? e).bind (·.zero)=some z) (hzc:z.cells = #[z]) (h1:z.oneCell'=true)
  (hn:0<n) (hfit:o+n<=cs.size) (k:∀ w',w'.heap[b]?=some (.cells (splice cs o (List.replicate n z)) T (0,0))->Fr [b] w w'->K () w') :
  Pt.run [] ((Builtin.clear_ #[t] ty #[.slice (some ⟨b,o,none⟩) n c]).run P w) K:=by
 refine ⟨(),_,Lib.run_clear_slice w t e ty z ht (qaG hz) hzc h1 b o n c hn (fun j hj=>?_) (fun j hj=>?_),?_⟩
 ·rw [qai hb]; simp [show o+j<cs.size by omega]
 ·simp [World.frozen?,hb]
 ·rw [qbm hb]
  exact k _ (by rw [qaz _ _ _ _ (qac hb),if_pos rfl]) (qb3 (qac hb) _)
theorem qqR {cs:Array Value} {M:List Value} {i:Nat} {v:Value} (hi:i<=M.length) (hL:M.length+1<=cs.size) (hM:cs.toList.take i=M.take i):(splice (splice cs (i+1) (M.drop i)) i [v]).toList.take (M.length+1)=M.take i++[v]++M.drop i:=by
 have hl:cs.toList.length=cs.size:=Array.length_toList
 rw [qar _ _ _ (by rw [qan]; simp; omega),qar _ _ _ (by simp; omega)]
 have e0:(cs.toList.take (i+1)++(M.drop i++cs.toList.drop (i+1+(M.drop i).length))).take i=M.take i:=by
  rw [List.take_append_of_le_length (by simp; omega),List.take_take,Nat.min_eq_left (by omega),hM]
 rw [List.append_assoc (cs.toList.take (i+1)),e0]
 rw [List.drop_append,List.drop_of_length_le (l:=cs.toList.take (i+1)) (by rw [List.length_take]; exact Nat.min_le_left _ _),List.nil_append]
 have e:(List.take (i+1) cs.toList).length=i+1:=by simp; omega
 rw [e,List.length_singleton,Nat.sub_self,List.drop_zero,<- List.append_assoc]
 exact List.take_left' (by simp; omega)
theorem qqM {cs:Array Value} {M:List Value} {i:Nat} {v:Value} (hi:i<=M.length) (hL:M.length+1<=cs.size) (hM:cs.toList.take i=M.take i):(splice (splice cs i [v]) (i+1) (M.drop i)).toList.take (M.length+1)=M.take i++[v]++M.drop i:=by
 have hl:cs.toList.length=cs.size:=Array.length_toList
 rw [qar _ _ _ (by rw [qan]; simp; omega),qar _ _ _ (by simp; omega),hM]
 have e:(M.take i++[v]).length=i+1:=by simp; omega
 rw [List.take_append_of_le_length (l₁:=M.take i++[v]) (by rw [e]; exact Nat.le_refl _),List.take_of_length_le (l:=M.take i++[v]) (by rw [e]; exact Nat.le_refl _)]
 exact List.take_left' (by simp; omega)
theorem qq1 {cs:Array Value} {M:List Value} {i:Nat} {z:Value} (hi:i+1<=M.length) (hM:cs.toList.take M.length=M):(splice (splice cs i (M.drop (i+1))) (M.length-1) [z]).toList.take (M.length-1)=M.take i++M.drop (i+1):=by
 have hl:cs.toList.length=cs.size:=Array.length_toList
 have hle:M.length<=cs.size:=by
  have:=congrArg List.length hM
  rw [List.length_take,hl] at this
  omega
 have hi':cs.toList.take i=M.take i:=by
  conv=>rhs; rw [<- hM]
  rw [List.take_take,Nat.min_eq_left (by omega)]
 rw [qar _ _ _ (by rw [qan]; simp; omega),qar _ _ _ (by simp; omega),hi']
 have e:(M.take i++M.drop (i+1)).length=M.length-1:=by simp; omega
 rw [List.take_append_of_le_length (l₁:=M.take i++M.drop (i+1)) (by rw [e]; exact Nat.le_refl _),List.take_of_length_le (l:=M.take i++M.drop (i+1)) (by rw [e]; exact Nat.le_refl _),List.append_assoc]
 exact List.take_left' e
theorem qkn {tS tR e:TypeId} {i:TypeInfo} {a b oa ob la ca lb cb:Nat} {ca' cb':Array Value} {Ta Tb:TypeId} {fb:Nat×Nat} (ht:P.underlying tS=some (.slice e)) (hi:P.info? e=some i) (ha:w.heap[a]?=some (.cells ca' Ta (0,0))) (hb:w.heap[b]?=some (.cells cb' Tb fb)) (hne:a≠b) (hpos:cb'.size≠0) :
  (Extern.SlicesOverlaps.overlaps #[tS,tS] #[tR] #[.slice (some ⟨a,oa,none⟩) la ca,.slice (some ⟨b,ob,none⟩) lb cb]).run P w=.ok (.bool false) w:=
 Lib.run_overlaps_apart w tS tR e ht i.size (fun w=>by simp [sizeOf,typeInfo,hi]) ⟨a,oa,none⟩ ⟨b,ob,none⟩ la ca lb cb hne Ta Tb ca'.size cb'.size (by simp [World.shape?,ha]) (by simp [World.shape?,hb]) hpos (by simp [World.frozen?,ha]) (by simp [World.frozen?,ha])
section
variable {α:Type} {enc:α->List Value} {e:α->Value} {k:Nat}
theorem qcs (he:∀ x,enc x=[e x]) (l:List α):l.flatMap enc=l.map e:=by
 induction l with
 | nil=>rfl
 | cons a l ih=>rw [List.flatMap_cons,ih,he]; rfl
theorem Buf.ptr {s:Sl} {l:List α} {B:List Nat} (h:Buf enc 1 w s l B) (hl:l≠[]):∃ b cs T,B=[b]/\s.a=some ⟨b,0,none⟩/\w.heap[b]?=some (.cells cs T (0,0))/\s.len=l.length/\s.len<=s.cap/\s.cap<=cs.size/\cs.toList.take l.length=l.flatMap enc:=by
 rcases h with ⟨_,h,_⟩ | ⟨b,o,cs,T,h1,rfl,h3,h4,h5,h6,h7,h8⟩
 ·exact absurd h hl
 ·exact ⟨b,cs,T,h1,h3,h4,h5,h6,by omega,by simpa using h8⟩
theorem qq2 {cs:Array Value} {M:List Value} {i:Nat} {v:Value} (hi:i<M.length) (hM:cs.toList.take M.length=M):(splice cs i [v]).toList.take M.length=M.set i v:=by
 have hl:cs.toList.length=cs.size:=Array.length_toList
 have hle:M.length<=cs.size:=by
  have:=congrArg List.length hM
  rw [List.length_take,hl] at this
  omega
 have hi':cs.toList.take i=M.take i:=by
  conv=>rhs; rw [<- hM]
  rw [List.take_take,Nat.min_eq_left (by omega)]
 have hd:(cs.toList.drop (i+1)).take (M.length-(i+1))=M.drop (i+1):=by
  conv=>rhs; rw [<- hM]
  rw [List.drop_take]
 rw [qar _ _ _ (by simp; omega),hi',List.set_eq_take_append_cons_drop,if_pos hi,List.append_assoc,List.take_append,List.take_of_length_le (by rw [List.length_take]; omega)]
 have e1:M.length-(M.take i).length=(M.length-(i+1))+1:=by simp; omega
 rw [e1,List.singleton_append,List.take_succ_cons]
 simp only [List.length_singleton]
 rw [hd]
theorem Buf.stAt (he:∀ x,enc x=[e x]) {s:Sl} {l:List α} {b:Nat} {i:Nat} {x:α} {v:Value} {K:World->Prop} (h:Buf enc 1 w s l [b]) (hi:i<l.length) (hv:v=e x) (h1:v.oneCell'=true)
  (kk:∀ w',Buf enc 1 w' s (l.set i x) [b]->Fr [b] w w'->K w'):Pt.st ⟨b,i,none⟩ [v] w K:=by
 subst hv
 obtain ⟨b',cs,T,hB,h2,h3,h4,h5,h6,h7⟩:=h.ptr (fun e=>by rw [e] at hi; exact absurd hi (Nat.not_lt_zero _))
 cases hB
 refine qhm h3 _ rfl (by simp [h1]) (by simp; omega) fun w' hb f=>kk w' (.inr ⟨b,0,_,T,rfl,rfl,h2,hb,by rw [List.length_set]; exact h4,h5,by rw [qan]; omega,?_⟩) f
 have hm:=qcs he l
 have:=qq2 (cs:=cs) (M:=l.flatMap enc) (i:=i) (v:=e x) (by rw [hm,List.length_map]; exact hi) (by rw [hm,List.length_map,<- hm]; exact h7)
 rw [List.drop_zero,Nat.mul_one,List.length_set,qcs he,List.map_set,<- hm]
 rw [hm,List.length_map] at this
 rw [hm]
 exact this
theorem Buf.idxAt {s:Sl} {l:List α} {B:List Nat} {n:Nat} {i:Int} {K:Addr->Prop} (h:Buf enc 1 w s l B) (hi:i=n) (hn:n<l.length) (kk:∀ b,B=[b]->K ⟨b,n,none⟩):idx s i 1 K:=by
 obtain ⟨b,cs,T,hB,h2,h3,h4,h5,h6,h7⟩:=h.ptr (fun e=>by rw [e] at hn; exact absurd hn (Nat.not_lt_zero _))
 subst hi
 refine qbk h2 ⟨by omega,by omega⟩ ?_
 have:=kk b hB
 simpa using this
theorem Buf.one (he:∀ x,enc x=[e x]) {b n c:Nat} {cs:Array Value} {T:TypeId} {l:List α} (hb:w.heap[b]?=some (.cells cs T (0,0))) (hn:n=l.length) (hc:n<=c) (hcs:c<=cs.size) (hl:cs.toList.take l.length=l.map e):Buf enc 1 w ⟨some ⟨b,0,none⟩,n,c⟩ l [b]:=
 .inr ⟨b,0,cs,T,rfl,rfl,rfl,hb,hn,hc,by simpa using hcs,by rw [List.drop_zero,Nat.mul_one,qcs he]; exact hl⟩
end
end Go.Pt
end
section
set_option linter.unusedVariables false
set_option linter.unusedSimpArgs false
namespace Go.Proofs.YtmmkegapckbomaaGreatDoor
open Go Go.Pt
attribute [local irreducible] ld ldA ldV fld fldA newZ st new idx idxS idxA slc slcS slcP mkS chk nn call callV inv run runQ runU join loop held ext rng undefer s2a nxt ent IntKind.wrap
theorem qdr {α:Type} {p:α->Bool}:∀ {l:List α} {r:Nat},r<=l.length->(∀ (i:Nat) a,i<r->l[i]?=some a->p a=true)->(∀ a,l[r]?=some a->p a=false)->(l.takeWhile p).length=r
 | [],r,hr,_,_=>by simp at hr; simp [hr]
 | x::l,0,hr,_,h2=>by
  have:=h2 x rfl
  rw [List.takeWhile_cons,this]; rfl
 | x::l,r+1,hr,h1,h2=>by
  have h0:=h1 0 x (Nat.succ_pos r) rfl
  have:=qdr (p:=p) (l:=l) (r:=r) (by simpa using hr) (fun i a hi ha=>h1 (i+1) a (by omega) (by simpa using ha)) (fun a ha=>h2 a (by simpa using ha))
  rw [List.takeWhile_cons,h0]
  simp [this]
theorem qtX {l:List Key} {k:Key} {r:Nat} (hr:r<=l.length) (h1:∀ (i:Nat) a,i<r->l[i]?=some a->KLe a k) (h2:∀ a,l[r]?=some a->KLt k a):kidV l k=r:=
 qdr hr (fun i a hi ha=>decide_eq_true (h1 i a hi ha)) fun a ha=>decide_eq_false fun h=>h (h2 a ha)
theorem qrc {l:List Key} {k:Key} {r:Nat} (hr:r<=l.length) (h1:∀ (i:Nat) a,i<r->l[i]?=some a->KLt a k) (h2:∀ a,l[r]?=some a->KLe k a):placeV l k=r:=
 qdr hr (fun i a hi ha=>decide_eq_true (h1 i a hi ha)) fun a ha=>decide_eq_false (h2 a ha)
theorem qf8 {l:List Key} (h:Rising l) {i j:Nat} {a b:Key} (hij:i<j) (ha:l[i]?=some a) (hb:l[j]?=some b):KLt a b:=by
 obtain ⟨hi,rfl⟩:=List.getElem?_eq_some_iff.1 ha
 obtain ⟨hj,rfl⟩:=List.getElem?_eq_some_iff.1 hb
 exact List.pairwise_iff_getElem.1 h i j hi hj hij
abbrev NdC:=Bool×Sl×Sl×Sl
def ndV (x:NdC):Array Value:=#[.bool x.1,.slice x.2.1.a x.2.1.len x.2.1.cap,.slice x.2.2.1.a x.2.2.1.len x.2.2.1.cap,.slice x.2.2.2.a x.2.2.2.len x.2.2.2.cap]
def zeroX:NdC:=(false,⟨none,0,0⟩,⟨none,0,0⟩,⟨none,0,0⟩)
def NB (n:NodeM):Prop:=(∀ a∈n.keys,IsB a)/\(∀ a∈n.vals,IsB a)/\∀ x∈n.kids,U32 x
def NodeR (S:List Nat) (w:World) (x:NdC) (n:NodeM):Prop:=
 x.1=n.leaf/\NB n/\(∃ pk,RdK S w x.2.1 pk/\keyP pk=n.keys)/\(∃ pv,RdK S w x.2.2.1 pv/\keyP pv=n.vals)/\Rds encU 1 S w x.2.2.2 n.kids
def BufK (Z:List Nat) (w:World) (s:Sl) (l:List Key) (B:List Nat):Prop:=∃ pk:Kps,Buf encSl 1 w s (slsP pk) B/\keyP pk=l/\∀ p∈pk,RdB Z w p.1 p.2
def NodeB (Z:List Nat) (w:World) (x:NdC) (n:NodeM) (B:List Nat):Prop:=
 x.1=n.leaf/\NB n/\∃ Bk Bv Bi,B=Bk++(Bv++Bi)/\B.Nodup/\BufK Z w x.2.1 n.keys Bk/\BufK Z w x.2.2.1 n.vals Bv/\Buf encU 1 w x.2.2.2 n.kids Bi
theorem BufK.nil (Z:List Nat) (w:World):BufK Z w ⟨none,0,0⟩ [] []:=⟨[],.nil _ _ _,rfl,fun p hp=>nomatch hp⟩
theorem NodeB.zero (Z:List Nat) (w:World):NodeB Z w zeroX zeroN []:=⟨rfl,⟨fun _ h=>(nomatch h),fun _ h=>(nomatch h),fun _ h=>(nomatch h)⟩,[],[],[],rfl,List.nodup_nil,.nil _ _,.nil _ _,.nil _ _ _⟩
section
variable {Z Z' S:List Nat} {w w':World} {s:Sl} {l:List Key} {B:List Nat} {x:NdC} {n:NodeM}
theorem BufK.lt (h:BufK Z w s l B):∀ b∈B,b<w.heap.size:=by
 obtain ⟨pk,h1,rfl,_⟩:=h
 exact h1.lt
theorem BufK.frame (h:BufK Z w s l B) (f:Fr S w w') (hB:∀ b∈B,b∉S) (hS:∀ b∈S,b∈Z\/w.heap.size<=b) (hZ:∀ b∈Z',b∈Z\/w.heap.size<=b):BufK Z' w' s l B:=by
 obtain ⟨pk,h1,h2,h3⟩:=h
 exact ⟨pk,h1.frame f hB,h2,fun p hp=>(h3 p hp).frame (f.mono fun i hi hl=>(hS i hi).elim id fun h=>absurd hl (by omega)) hZ⟩
theorem BufK.frame0 (h:BufK Z w s l B) (f:Fr [] w w'):BufK Z w' s l B:=h.frame f (fun _ _ h=>nomatch h) (fun _ h=>nomatch h) fun _ h=>.inl h
theorem NodeB.lt (h:NodeB Z w x n B):∀ b∈B,b<w.heap.size:=by
 obtain ⟨_,_,Bk,Bv,Bi,rfl,_,h1,h2,h3⟩:=h
 intro b hb
 rcases List.mem_append.1 hb with hb | hb
 ·exact h1.lt b hb
 ·rcases List.mem_append.1 hb with hb | hb
  ·exact h2.lt b hb
  ·exact h3.lt b hb
theorem NodeB.frame (h:NodeB Z w x n B) (f:Fr S w w') (hB:∀ b∈B,b∉S) (hS:∀ b∈S,b∈Z\/w.heap.size<=b) (hZ:∀ b∈Z',b∈Z\/w.heap.size<=b):NodeB Z' w' x n B:=by
 obtain ⟨h0,hb,Bk,Bv,Bi,rfl,hn,h1,h2,h3⟩:=h
 exact ⟨h0,hb,Bk,Bv,Bi,rfl,hn,h1.frame f (fun b hb=>hB b (by simp [hb])) hS hZ,h2.frame f (fun b hb=>hB b (by simp [hb])) hS hZ,h3.frame f fun b hb=>hB b (by simp [hb])⟩
theorem NodeB.frame0 (h:NodeB Z w x n B) (f:Fr [] w w'):NodeB Z w' x n B:=h.frame f (fun _ _ h=>nomatch h) (fun _ h=>nomatch h) fun _ h=>.inl h
theorem NodeB.weak (h:NodeB Z w x n B) (hZ:∀ b∈Z',b∈Z\/w.heap.size<=b):NodeB Z' w x n B:=h.frame (.refl [] _) (fun _ _ h=>nomatch h) (fun _ h=>nomatch h) hZ
theorem BufK.rd (h:BufK Z w s l B) (hB:∀ b∈B,b∉S) (hZ:∀ b∈S,b∈Z\/w.heap.size<=b):∃ pk,RdK S w s pk/\keyP pk=l:=by
 obtain ⟨pk,h1,h2,h3⟩:=h
 exact ⟨pk,⟨h1.rds qb0 hB,fun p hp=>(h3 p hp).frame (.refl _ _) hZ⟩,h2⟩
theorem NodeB.rd (h:NodeB Z w x n B) (hB:∀ b∈B,b∉S) (hZ:∀ b∈S,b∈Z\/w.heap.size<=b):NodeR S w x n:=by
 obtain ⟨h0,hb,Bk,Bv,Bi,rfl,hn,h1,h2,h3⟩:=h
 exact ⟨h0,hb,h1.rd (fun b hb=>hB b (by simp [hb])) hZ,h2.rd (fun b hb=>hB b (by simp [hb])) hZ,h3.rds (fun _=>rfl) fun b hb=>hB b (by simp [hb])⟩
theorem NodeR.frame {S':List Nat} (h:NodeR S w x n) (f:Fr S w w') (hS:∀ b∈S',b∈S\/w.heap.size<=b):NodeR S' w' x n:=by
 obtain ⟨h0,hb,⟨pk,h1,h2⟩,⟨pv,h3,h4⟩,h5⟩:=h
 exact ⟨h0,hb,⟨pk,h1.frame f hS,h2⟩,⟨pv,h3.frame f hS,h4⟩,h5.frame f hS⟩
theorem NodeR.frame0 (h:NodeR S w x n) (f:Fr [] w w'):NodeR S w' x n:=h.frame (f.mono fun b hb=>nomatch hb) fun b hb=>.inl hb
theorem NodeR.weak {S':List Nat} (h:NodeR S w x n) (hS:∀ b∈S',b∈S\/w.heap.size<=b):NodeR S' w x n:=h.frame (.refl _ _) hS
end
theorem qg3:∀ {l:List Key},(∀ (i:Nat) a b,l[i]?=some a->l[i+1]?=some b->KLt a b)->Rising l
 | [],_=>.nil
 | [x],_=>List.pairwise_singleton _ _
 | x::y::r,h=>by
  have ih:Rising (y::r):=qg3 fun i a b ha hb=>h (i+1) a b (by simpa using ha) (by simpa using hb)
  have hxy:KLt x y:=h 0 x y rfl rfl
  refine List.pairwise_cons.2 ⟨fun a ha=>?_,ih⟩
  rcases List.mem_cons.1 ha with rfl | ha
  ·exact hxy
  ·exact qaw hxy (qbf ih a ha)
theorem qd4 {α:Type} {l:List α} {i:Nat} {x y:α} (h:y∈insAt l i x):y=x\/y∈l:=by
 unfold insAt at h
 simp only [List.mem_append,List.mem_singleton] at h
 rcases h with (h | h) | h
 ·exact .inr (List.mem_of_mem_take h)
 ·exact .inl h
 ·exact .inr (List.mem_of_mem_drop h)
theorem qgE {k v:Nat}:∀ (c:Nat) {b:List Int},IsB b->(∀ a∈(leafR k v c b).1,IsB a)/\∀ a∈(leafR k v c b).2,IsB a
 | 0,_,_=>⟨fun _ h=>(nomatch h),fun _ h=>(nomatch h)⟩
 | c+1,b,h=>by
  have ih:=qgE (k:=k) (v:=v) c (b:=b.drop (k+v)) (h.drop _)
  refine ⟨fun a ha=>?_,fun a ha=>?_⟩
  ·rcases List.mem_cons.1 ha with rfl | ha
   ·exact h.take _
   ·exact ih.1 a ha
  ·rcases List.mem_cons.1 ha with rfl | ha
   ·exact (h.drop _).take _
   ·exact ih.2 a ha
theorem qlN {k:Nat}:∀ (c:Nat) {b:List Int},IsB b->∀ a∈keysR k c b,IsB a
 | 0,_,_=>fun _ h=>(nomatch h)
 | c+1,b,h=>fun a ha=>by
  rcases List.mem_cons.1 ha with rfl | ha
  ·exact h.take _
  ·exact qlN c (h.drop _) a ha
end Go.Proofs.YtmmkegapckbomaaGreatDoor
end
section
set_option linter.unusedVariables false
set_option linter.unusedSimpArgs false
namespace Go.Proofs.YtmmkegapckbomaaGreatDoor
open Go Go.Pt
open Classical
section
variable {D:DiskM} {M M':PgM} {k v:Nat}
theorem qe9 {p:Int} {n:NodeM} (hW:M.Wf) (ho:M.over=false) (hn:NodeOk n k v) (hp:InUse M p) (hf:M.free≠[]) :
  ∃ q M',storeN k v M p n=((q,0),M')/\Step D M M' [p] [q]/\pagerReadM D M' q=(kindN n,bodyN n,0)/\M.free.length<=M'.free.length+1/\(p∈M.fresh.map (·.1)->q=p/\M'.free=M.free):=by
 obtain ⟨q,M',e,t,hq,hl,hx⟩:=qm7 (D:=D) hW ho hn (.inr hp) hf
 have hp0:p≠0:=by have:=(qem hW hp).1; omega
 rw [if_neg hp0] at t
 exact ⟨q,M',e,t.step ho hp hq,(t.wrote _ rfl).1,hl,hx⟩
theorem qgB {n:NodeM} (hW:M.Wf) (ho:M.over=false) (hn:NodeOk n k v) (hf:M.free≠[]) :
  ∃ q M',storeN k v M 0 n=((q,0),M')/\Step D M M' [] [q]/\pagerReadM D M' q=(kindN n,bodyN n,0)/\M.free.length<=M'.free.length+1/\q≠0:=by
 obtain ⟨q,M',e,t,hq,hl,_⟩:=qm7 (D:=D) hW ho hn (.inl rfl) hf
 rw [if_pos rfl] at t
 have hw:=t.wrote _ rfl
 have h2:=(qem t.wf hw.2).1
 have hnu:¬ InUse M q:=hq.resolve_left (by omega)
 exact ⟨q,M',e,t.fresh ho hnu,hw.1,hl,by omega⟩
theorem qih {p:Int} {n:NodeM} {fresh:Bool} (hW:M.Wf) (ho:M.over=false) (hn:NodeOk n k v) (hs:(sizeN n k v).1<=(sizeN n k v).2) (hp:InUse M p) (hf:M.free≠[]) :
  ∃ q M',splitN k v M p n fresh=((⟨q,fresh,[],0⟩,0),M')/\Step D M M' [p] [q]/\pagerReadM D M' q=(kindN n,bodyN n,0)/\M.free.length<=M'.free.length+1:=by
 obtain ⟨q,M',e,st,hr,hl,_⟩:=qe9 (D:=D) hW ho hn hp hf
 refine ⟨q,M',?_,st,hr,hl⟩
 unfold splitN
 rw [if_neg (by omega),e]
theorem qlR {p:Int} {n:NodeM} {fresh:Bool} {mid:Nat} (hW:M.Wf) (ho:M.over=false) (hmid:(sizeN n k v).1 / 2=mid) (h1:NodeOk (halvesN n mid).1 k v) (h2:NodeOk (halvesN n mid).2.1 k v) (hs:(sizeN n k v).1>(sizeN n k v).2) (hp:InUse M p) (hf:2<=M.free.length) :
  ∃ q o M',splitN k v M p n fresh=((⟨q,fresh,(halvesN n mid).2.2,o⟩,0),M')/\o≠0/\Step D M M' [p] [q,o]/\pagerReadM D M' q=(kindN (halvesN n mid).1,bodyN (halvesN n mid).1,0)/\pagerReadM D M' o=(kindN (halvesN n mid).2.1,bodyN (halvesN n mid).2.1,0)/\M.free.length<=M'.free.length+2:=by
 subst hmid
 obtain ⟨o,M1,e1,st1,hr1,hl1,ho0⟩:=qgB (D:=D) hW ho h2 (fun e=>by rw [e] at hf; exact absurd hf (by decide))
 have s1:=st1.beside (Z:=[p]) (fun x hx=>by rw [List.mem_singleton.1 hx]; exact hp) (by simp)
 have hp1:InUse M1 p:=s1.has p (by simp)
 obtain ⟨q,M2,e2,st2,hr2,hl2,_⟩:=qe9 (D:=D) st1.wf st1.over h1 hp1 (fun e=>by rw [e] at hl1; simp at hl1; omega)
 have hop:o≠p:=fun e=>by
  rcases st1.new o (by simp) with h | h
  ·cases h
  ·exact h (e▸hp)
 have ho1:InUse M1 o:=st1.has o (by simp)
 have s2:=st2.beside (Z:=[o]) (fun x hx=>by rw [List.mem_singleton.1 hx]; exact ho1) (by simpa using hop)
 refine ⟨q,o,M2,?_,ho0,(s1.perm (.refl _) (List.Perm.swap _ _ _)).trans (s2.perm (.refl _) (List.Perm.swap _ _ _)),hr2,?_,by omega⟩
 ·unfold splitN
  rw [if_pos hs,e1]
  dsimp only
  rw [if_neg (fun h=>h rfl),e2]
 ·rw [(st2.rest o ho1 (by simpa using hop)).1]; exact hr1
theorem qub {L:Prs} {key val:Key} {i:Nat} (h:(keysP L)[i]?=some key):(⟨(lfOf L).leaf,keysP L,(lfOf L).vals.set i val,(lfOf L).kids⟩:NodeM)=lfOf (L.set i (key,val)):=by
 unfold lfOf
 rw [List.map_set,List.map_set]
 have:(L.map (·.1)).set i key=L.map (·.1):=by
  obtain ⟨hi,he⟩:=List.getElem?_eq_some_iff.1 h
  rw [<- he]
  exact List.set_getElem_self hi
 rw [this]
theorem qtV {L:Prs} {key val:Key} {i:Nat}:(⟨(lfOf L).leaf,insAt (keysP L) i key,insAt (lfOf L).vals i val,(lfOf L).kids⟩:NodeM)=lfOf (L.take i++[(key,val)]++L.drop i):=by
 unfold lfOf insAt
 simp only [List.map_append,List.map_take,List.map_drop,List.map_cons,List.map_nil]
theorem qrr {L:Prs} {mid:Nat} (hm:mid<L.length):halvesN (lfOf L) mid=(lfOf (L.take mid),lfOf (L.drop mid),L[mid].1):=by
 unfold halvesN
 rw [if_pos (show (lfOf L).leaf=true from rfl)]
 unfold lfOf
 simp only [List.map_take,List.map_drop,Prod.mk.injEq,true_and]
 rw [List.getD_eq_getElem?_getD,List.getElem?_map,List.getElem?_eq_getElem hm]
 rfl
theorem qhd {L:Prs}:sizeN (lfOf L) k v=(L.length,(capsV k v).1):=by
 unfold sizeN
 rw [if_pos (show (lfOf L).leaf=true from rfl)]
 show ((L.map _).length,_)=_
 rw [List.length_map]
theorem PrsOk.sub {L L':Prs} (h:PrsOk k v L) (hs:∀ x∈L',x∈L):PrsOk k v L':=fun x hx=>h x (hs x hx)
theorem SortP.take {L:Prs} (h:SortP L) (n:Nat):SortP (L.take n):=by unfold SortP keysP; rw [List.map_take]; exact Rising.take h n
theorem SortP.drop {L:Prs} (h:SortP L) (n:Nat):SortP (L.drop n):=by unfold SortP keysP; rw [List.map_drop]; exact Rising.drop h n
theorem qdt {q:Int} {L:Prs} (hn:NodeOk (lfOf L) k v) (hr:pagerReadM D M q=(3,bodyN (lfOf L),0)):Has D M k v 0 ⟨q,L.length,L,[q]⟩:=⟨rfl,rfl,hn,hr⟩
structure PutOk (D:DiskM) (M:PgM) (k v:Nat) (h:Nat) (s:Seg) (key val:Key) (g:Grown) (M':PgM):Prop where
 fresh:g.fresh=decide (key∉keysP s.prs)
 free:M.free.length<=M'.free.length+2*(h+1)
 res:(g.other=0/\∃ n P,Has D M' k v h ⟨g.page,n,insP key val s.prs,P⟩/\Step D M M' s.pages P/\s.size<=n)\/
  (g.other≠0/\∃ n1 L1 P1 n2 L2 P2,Has D M' k v h ⟨g.page,n1,L1,P1⟩/\Has D M' k v h ⟨g.other,n2,L2,P2⟩/\L1++L2=insP key val s.prs/\(∀ x∈L1,KLt x.1 g.key)/\(∀ y∈L2,KLe g.key y.1)/\g.key.length=k/\IsB g.key/\minOf k v h<=n1/\minOf k v h<=n2/\Step D M M' s.pages (P1++P2))
structure CapsOk (k v:Nat):Prop where
 leaf:2<=(capsV k v).1
 inner:4<=(capsV k v).2
theorem qm8 {p:Int} {L L':Prs} {key val:Key} {fresh:Bool} (hc:CapsOk k v) (hW:M.Wf) (ho:M.over=false) (hp:InUse M p) (hf:2<=M.free.length)
  (hL:PrsOk k v L') (hs:SortP L') (h1:1<=L'.length) (h2:L'.length<=(capsV k v).1+1) (h3:L.length<=L'.length) (he:L'=insP key val L) (hfr:fresh=decide (key∉keysP L)) :
  ∃ g M',splitN k v M p (lfOf L') fresh=((g,0),M')/\PutOk D M k v 0 ⟨p,L.length,L,[p]⟩ key val g M':=by
 by_cases hb:L'.length<=(capsV k v).1
 ·have hn:=qez hL hs h1 hb
  obtain ⟨q,M',e,st,hr,hl⟩:=qih (D:=D) (fresh:=fresh) hW ho hn (by rw [qhd]; exact hb) hp (fun e=>by rw [e] at hf; exact absurd hf (by decide))
  refine ⟨_,M',e,hfr,by show M.free.length<=M'.free.length+2; omega,.inl ⟨rfl,L'.length,[q],?_,st,h3⟩⟩
  rw [<- he]
  exact qdt hn hr
 ·have hlen:L'.length=(capsV k v).1+1:=by omega
  have hc2:=hc.leaf
  have hmid:L'.length / 2<L'.length:=by omega
  have hh:=qrr hmid
  have n1:NodeOk (lfOf (L'.take (L'.length / 2))) k v:=qez (hL.sub fun x hx=>List.mem_of_mem_take hx) (hs.take _) (by rw [List.length_take]; omega) (by rw [List.length_take]; omega)
  have n2:NodeOk (lfOf (L'.drop (L'.length / 2))) k v:=qez (hL.sub fun x hx=>List.mem_of_mem_drop hx) (hs.drop _) (by rw [List.length_drop]; omega) (by rw [List.length_drop]; omega)
  obtain ⟨q,o,M',e,ho0,st,hr1,hr2,hl⟩:=qlR (D:=D) (k:=k) (v:=v) (p:=p) (fresh:=fresh) (mid:=L'.length / 2) (n:=lfOf L') hW ho (by rw [qhd]) (by rw [hh]; exact n1) (by rw [hh]; exact n2) (by rw [qhd]; show L'.length>_; omega) hp hf
  rw [hh] at e hr1 hr2
  have hsp:L'=L'.take (L'.length / 2)++L'.drop (L'.length / 2):=(List.take_append_drop _ _).symm
  have hd:=List.drop_eq_getElem_cons hmid
  have hso:=hs
  rw [hsp] at hso
  have hso:=SortP.app.1 hso
  have hmk:=hL _ (List.getElem_mem hmid)
  refine ⟨⟨q,fresh,L'[L'.length / 2].1,o⟩,M',e,hfr,by show M.free.length<=M'.free.length+2; omega,.inr ⟨ho0,(L'.take (L'.length / 2)).length,_,[q],(L'.drop (L'.length / 2)).length,_,[o],qdt n1 hr1,qdt n2 hr2,by rw [<- hsp]; exact he,fun x hx=>hso.2.2 x hx _ (by rw [hd]; exact List.mem_cons_self),fun y hy=>?_,hmk.1,hmk.2.2.1,?_,?_,st⟩⟩
  ·have h5:=hso.2.1
   rw [hd] at hy h5
   rcases List.mem_cons.1 hy with rfl | hy
   ·exact qax
   ·exact qaP (qbf (x:=L'[L'.length / 2].1) (r:=keysP _) h5 y.1 (List.mem_map_of_mem hy))
  ·rw [List.length_take]
   show (capsV k v).1 / 2<=_
   omega
  ·rw [List.length_drop]
   show (capsV k v).1 / 2<=_
   omega
theorem qff {es:List Ent} {key:Key} (h0:(es.map (·.1)).head?=some []) (hs:SepE es):∃ A e B,es=A++e::B/\A.length=kidV ((es.map (·.1)).tail) key/\KLe e.1 key/\(∀ b∈B,KLt key b.1)/\(es.map (·.2.page)).getD (kidV ((es.map (·.1)).tail) key) 0=e.2.page:=by
 have hr:=hs.rising
 have hle:=qhp ((es.map (·.1)).tail) key
 have hne:es≠[]:=fun e=>by rw [e] at h0; cases h0
 have hpos:0<es.length:=List.length_pos_iff.2 hne
 have hlt:kidV ((es.map (·.1)).tail) key<es.length:=by rw [List.length_tail,List.length_map] at hle; omega
 generalize hc:kidV ((es.map (·.1)).tail) key=c at hlt
 have hes:es=es.take c++es[c]::es.drop (c+1):=by rw [<- List.drop_eq_getElem_cons hlt,List.take_append_drop]
 refine ⟨es.take c,es[c],es.drop (c+1),hes,by rw [List.length_take]; omega,?_,fun b hb=>?_,?_⟩
 ·cases c with
  | zero=>
   have:es[0].1=[]:=by
    cases es with
    | nil=>cases h0
    | cons a r=>simpa using h0
   rw [this]; exact qeu _
  | succ c=>
   refine qpY (l:=(es.map (·.1)).tail) (k:=key) ?_
   rw [hc]
   have h1:(es.map (·.1)).tail[c]?=some es[c+1].1:=by rw [List.getElem?_tail,List.getElem?_map,List.getElem?_eq_getElem hlt]; rfl
   refine List.mem_of_getElem? (i:=c) ?_
   rw [List.getElem?_take,if_pos (by omega)]
   exact h1
 ·refine qos (l:=(es.map (·.1)).tail) hr ?_
  rw [hc]
  have:(es.map (·.1)).tail.drop c=(es.drop (c+1)).map (·.1):=by rw [<- List.drop_one,List.drop_drop,List.map_drop,Nat.add_comm]
  rw [this]
  exact List.mem_map_of_mem hb
 ·rw [List.getD_eq_getElem?_getD,List.getElem?_map,List.getElem?_eq_getElem hlt]; rfl
theorem qaC {α:Type} {f:Ent->List α} {A B:List Ent} {e:Ent}:(A++e::B).flatMap f=A.flatMap f++(f e++B.flatMap f):=by rw [List.flatMap_append,List.flatMap_cons]
theorem SepE.put {A B:List Ent} {e:Ent} {s:Seg} {key:Key} (h:SepE (A++e::B)) (hk1:KLe e.1 key) (hk2:∀ b∈B,KLt key b.1) (hs:∀ x∈s.prs,x.1=key\/x∈e.2.prs):SepE (A++(e.1,s)::B):=by
 have hp:=List.pairwise_append.1 h.pair
 have hc:=List.pairwise_cons.1 hp.2.1
 refine ⟨List.pairwise_append.2 ⟨hp.1,List.pairwise_cons.2 ⟨fun b hb=>⟨(hc.1 b hb).1,fun x hx=>?_⟩,hc.2⟩,fun a ha b hb=>?_⟩,fun b hb x hx=>?_⟩
 ·rcases hs x hx with e' | e'
  ·rw [e']; exact hk2 b hb
  ·exact (hc.1 b hb).2 x e'
 ·rcases List.mem_cons.1 hb with rfl | hb
  ·exact hp.2.2 a ha e (by simp)
  ·exact hp.2.2 a ha b (by simp [hb])
 ·rcases List.mem_append.1 hb with hb | hb
  ·exact h.low b (by simp [hb]) x hx
  rcases List.mem_cons.1 hb with rfl | hb
  ·rcases hs x hx with e' | e'
   ·rw [e']; exact hk1
   ·exact h.low e (by simp) x e'
  ·exact h.low b (by simp [hb]) x hx
theorem SepE.cut2 {A B:List Ent} {lo:Key} {s s1 s2:Seg} {m:Key} (h:SepE (A++(lo,s)::B)) (hs:s.prs=s1.prs++s2.prs) (h1:∀ x∈s1.prs,KLt x.1 m) (h2:∀ y∈s2.prs,KLe m y.1) (hne1:s1.prs≠[]) (hne2:s2.prs≠[]):SepE (A++(lo,s1)::(m,s2)::B):=by
 have hp:=List.pairwise_append.1 h.pair
 have hc:=List.pairwise_cons.1 hp.2.1
 have hlo:=h.low (lo,s) (by simp)
 obtain ⟨x1,hx1⟩:=List.exists_mem_of_ne_nil _ hne1
 obtain ⟨y1,hy1⟩:=List.exists_mem_of_ne_nil _ hne2
 have hm:KLt lo m:=qf7 (hlo x1 (by show x1∈s.prs; rw [hs]; exact List.mem_append_left _ hx1)) (h1 x1 hx1)
 have hm2:∀ b∈B,KLt m b.1:=fun b hb=>qf7 (h2 y1 hy1) ((hc.1 b hb).2 y1 (by show y1∈s.prs; rw [hs]; exact List.mem_append_right _ hy1))
 refine ⟨List.pairwise_append.2 ⟨hp.1,List.pairwise_cons.2 ⟨fun b hb=>?_,List.pairwise_cons.2 ⟨fun b hb=>⟨hm2 b hb,fun x hx=>(hc.1 b hb).2 x (by show x∈s.prs; rw [hs]; exact List.mem_append_right _ hx)⟩,hc.2⟩⟩,fun a ha b hb=>?_⟩,fun b hb x hx=>?_⟩
 ·rcases List.mem_cons.1 hb with rfl | hb
  ·exact ⟨hm,fun x hx=>h1 x hx⟩
  ·exact ⟨(hc.1 b hb).1,fun x hx=>(hc.1 b hb).2 x (by show x∈s.prs; rw [hs]; exact List.mem_append_left _ hx)⟩
 ·have hae:=hp.2.2 a ha (lo,s) (by simp)
  rcases List.mem_cons.1 hb with rfl | hb
  ·exact hae
  rcases List.mem_cons.1 hb with rfl | hb
  ·exact ⟨qaw hae.1 hm,fun x hx=>qaw (hae.2 x hx) hm⟩
  ·exact hp.2.2 a ha b (by simp [hb])
 ·rcases List.mem_append.1 hb with hb | hb
  ·exact h.low b (by simp [hb]) x hx
  rcases List.mem_cons.1 hb with rfl | hb
  ·exact hlo x (by show x∈s.prs; rw [hs]; exact List.mem_append_left _ hx)
  rcases List.mem_cons.1 hb with rfl | hb
  ·exact h2 x hx
  ·exact h.low b (by simp [hb]) x hx
theorem qhr {es:List Ent}:sizeN (inOf es) k v=(es.length,(capsV k v).2):=by
 unfold sizeN
 rw [if_neg (show ¬ (inOf es).leaf=true from fun e=>nomatch e)]
 show ((es.map _).length,_)=_
 rw [List.length_map]
def relow:List Ent->List Ent
 | []=>[]
 | e::r=>([],e.2)::r
theorem qso (es:List Ent):inOf (relow es)=inOf es:=by cases es <;> rfl
theorem qqX {es:List Ent} {mid:Nat} (h1:1<=mid) (hm:mid<es.length):halvesN (inOf es) mid=(inOf (es.take mid),inOf (relow (es.drop mid)),es[mid].1):=by
 unfold halvesN
 rw [if_neg (show ¬ (inOf es).leaf=true from fun e=>nomatch e),qso]
 unfold inOf
 have e1:(es.map (·.1)).tail.take (mid-1)=((es.take mid).map (·.1)).tail:=by
  rw [<- List.drop_one,<- List.drop_one,List.map_take,List.drop_take]
 have e2:(es.map (·.1)).tail.drop mid=((es.drop mid).map (·.1)).tail:=by
  rw [<- List.drop_one,<- List.drop_one,List.map_drop,List.drop_drop,List.drop_drop,Nat.add_comm]
 have e3:(es.map (·.1)).tail.getD (mid-1) []=es[mid].1:=by
  rw [List.getD_eq_getElem?_getD,List.getElem?_tail,List.getElem?_map,show mid-1+1=mid by omega,List.getElem?_eq_getElem hm]; rfl
 dsimp only
 rw [e1,e2,e3]
 simp only [List.map_take,List.map_drop]
theorem SepE.take {es:List Ent} (h:SepE es) (n:Nat):SepE (es.take n):=⟨List.Pairwise.sublist (List.take_sublist n es) h.pair,fun e he=>h.low e (List.mem_of_mem_take he)⟩
theorem SepE.drop {es:List Ent} (h:SepE es) (n:Nat):SepE (es.drop n):=⟨List.Pairwise.sublist (List.drop_sublist n es) h.pair,fun e he=>h.low e (List.mem_of_mem_drop he)⟩
theorem SepE.relow {es:List Ent} (h:SepE es):SepE (relow es):=by
 cases es with
 | nil=>exact h
 | cons e r=>
  have hc:=List.pairwise_cons.1 h.pair
  refine ⟨List.pairwise_cons.2 ⟨fun b hb=>⟨?_,(hc.1 b hb).2⟩,hc.2⟩,fun b hb x hx=>?_⟩
  ·have:=(hc.1 b hb).1
   cases hb1:b.1 with
   | nil=>rw [hb1] at this; exact absurd this qir
   | cons y l=>show cmpL [] (y::l)<0; simp [cmpL]
  ·rcases List.mem_cons.1 hb with rfl | hb
   ·exact qeu _
   ·exact h.low b (List.mem_cons_of_mem _ hb) x hx
theorem qkb {α:Type} {f:Seg->List α} (es:List Ent):(relow es).flatMap (fun e=>f e.2)=es.flatMap fun e=>f e.2:=by cases es <;> rfl
theorem ql2 {P:Seg->Prop} {es:List Ent} (h:∀ e∈es,P e.2):∀ e∈relow es,P e.2:=by
 cases es with
 | nil=>exact h
 | cons a r=>
  intro e he
  rcases List.mem_cons.1 he with rfl | he
  ·exact h a (by simp)
  ·exact h e (List.mem_cons_of_mem _ he)
theorem qpp {es:List Ent} (h:es≠[]):((relow es).map (·.1)).head?=some []:=by cases es with | nil=>exact absurd rfl h | cons a r=>rfl
theorem qrY (es:List Ent):(relow es).length=es.length:=by cases es <;> rfl
def KeysOk (k:Nat) (es:List Ent):Prop:=∀ e∈es.tail,e.1.length=k/\IsB e.1
theorem KeysOk.tail {es:List Ent} (h:KeysOk k es):∀ a∈(es.map (·.1)).tail,a.length=k/\IsB a:=fun a ha=>by
 rw [<- List.map_tail] at ha
 obtain ⟨e,he,rfl⟩:=List.mem_map.1 ha
 exact h e he
theorem KeysOk.of {es:List Ent} (h:NodeOk (inOf es) k v):KeysOk k es:=fun e he=>by
 have:e.1∈(inOf es).keys:=by show e.1∈(es.map (·.1)).tail; rw [<- List.map_tail]; exact List.mem_map_of_mem he
 exact ⟨h.right.1 _ this,h.keys _ this⟩
theorem qbe (hW:M.Wf) {x:Int} (h:InUse M x):2<=x/\x<4294967296:=by
 have h1:=qem hW h
 have h2:=hW.n4
 omega
theorem qbS {h:Nat} {q:Int} {es:List Ent} (h0:(es.map (·.1)).head?=some []) (hn:NodeOk (inOf es) k v) (hr:pagerReadM D M q=(4,bodyN (inOf es),0)) (hs:SepE es) (hp:∀ e∈es,Has D M k v h e.2/\minOf k v h<=e.2.size) :
  Has D M k v (h+1) ⟨q,es.length,es.flatMap (·.2.prs),q::es.flatMap (·.2.pages)⟩:=⟨es,h0,rfl,rfl,rfl,hn,hr,hs,hp⟩
theorem qsu {A B:List Ent} {e:Ent} {s1 s2:Seg} {m:Key} (h0:((A++e::B).map (·.1)).head?=some []) {g:Grown} (hg1:g.page=s1.page) (hg2:g.other=s2.page) (hgk:g.key=m) (ho:g.other≠0):grownN (inOf (A++e::B)) A.length g=inOf (A++(e.1,s1)::(m,s2)::B):=by
 unfold grownN
 rw [if_pos ho,hg1,hg2,hgk]
 unfold inOf insAt
 dsimp only
 congr 1
 ·cases A with
  | nil=>simp
  | cons a A=>
   have:(A.map (·.1)++e.1::B.map (·.1)).take (A.length+1)=A.map (·.1)++[e.1]:=by
    rw [show A.map (·.1)++e.1::B.map (·.1)=(A.map (·.1)++[e.1])++B.map (·.1) by simp]
    exact List.take_left' (by simp)
   have h2:(A.map (·.1)++e.1::B.map (·.1)).drop (A.length+1)=B.map (·.1):=by
    rw [show A.map (·.1)++e.1::B.map (·.1)=(A.map (·.1)++[e.1])++B.map (·.1) by simp]
    exact List.drop_left' (by simp)
   simp only [List.map_append,List.map_cons,List.cons_append,List.tail_cons,List.length_cons]
   rw [this,h2]
   simp
 ·have hl:(A.map (·.2.page)).length=A.length:=List.length_map _
  have hset:(A.map (·.2.page)++e.2.page::B.map (·.2.page)).set A.length s1.page=(A.map (·.2.page)++[s1.page])++B.map (·.2.page):=by
   rw [List.set_append_right _ _ (by omega),hl,Nat.sub_self]
   simp
  simp only [List.map_append,List.map_cons]
  rw [hset,List.take_left' (by simp),List.drop_left' (by simp)]
  simp
theorem qrE {A B:List Ent} {e:Ent} {s1:Seg} {g:Grown} (hg1:g.page=s1.page) (ho:g.other=0):grownN (inOf (A++e::B)) A.length g=inOf (A++(e.1,s1)::B):=by
 unfold grownN
 rw [if_neg (fun h=>h ho),hg1]
 unfold inOf
 dsimp only
 have hl:(A.map (·.2.page)).length=A.length:=List.length_map _
 congr 1
 ·simp
 ·simp only [List.map_append,List.map_cons]
  rw [List.set_append_right _ _ (by omega),hl,Nat.sub_self]
  rfl
theorem qfq {α:Type} {a x b z:List α}:(a++(x++b)).Perm ((a++b)++x):=by
 rw [List.append_assoc]
 exact List.Perm.append_left a List.perm_append_comm
theorem Step.node {M1 M2:PgM} {p:Int} {a b x y:List Int} {Q:List Int} (hu:∀ z∈p::(a++(x++b)),InUse M z) (hn:(p::(a++(x++b))).Nodup) (h1:Step D M M1 x y) (h2:Step D M1 M2 [p] Q):Step D M M2 (p::(a++(x++b))) (Q++(a++(y++b))):=by
 have pm1:(p::(a++(x++b))).Perm ((p::(a++b))++x):=by
  rw [List.cons_append]
  exact (qfq (z:=a)).cons p
 have s1:=(h1.beside (Z:=p::(a++b)) (fun z hz=>hu z (pm1.mem_iff.2 (List.mem_append_left _ hz))) (pm1.nodup_iff.1 hn))
 have pm2:((p::(a++b))++y).Perm ((a++(y++b))++[p]):=by
  refine List.Perm.trans ?_ List.perm_append_comm
  rw [List.cons_append]
  exact ((qfq (z:=a)).symm).cons p
 have s2:=h2.beside (Z:=a++(y++b)) (fun z hz=>s1.has z (pm2.mem_iff.2 (List.mem_append_left _ hz))) (pm2.nodup_iff.1 s1.nodup)
 exact ((s1.perm (pm1.symm) pm2).trans s2).perm (.refl _) List.perm_append_comm
theorem qh2 {h:Nat} {p:Int} {es:List Ent} {fresh:Bool} (hW:M.Wf) (ho:M.over=false) (h0:(es.map (·.1)).head?=some []) (hn:NodeOk (inOf es) k v) (hlen:es.length<=(capsV k v).2) (hs:SepE es) (hp:∀ e∈es,Has D M k v h e.2/\minOf k v h<=e.2.size) (hu:InUse M p) (hpn:p∉es.flatMap (·.2.pages)) (hf:1<=M.free.length) :
  ∃ q M',splitN k v M p (inOf es) fresh=((⟨q,fresh,[],0⟩,0),M')/\Step D M M' [p] [q]/\Has D M' k v (h+1) ⟨q,es.length,es.flatMap (·.2.prs),q::es.flatMap (·.2.pages)⟩/\M.free.length<=M'.free.length+1:=by
 obtain ⟨q,M',e,st,hr,hl⟩:=qih (D:=D) (fresh:=fresh) hW ho hn (by rw [qhr]; exact hlen) hu (fun e=>by rw [e] at hf; exact absurd hf (by decide))
 refine ⟨q,M',e,st,qbS h0 hn hr hs fun b hb=>⟨(hp b hb).1.frame fun x hx=>?_,(hp b hb).2⟩,hl⟩
 exact (st.rest x ((hp b hb).1.used ho x hx) (fun hm=>hpn (List.mem_flatMap.2 ⟨b,hb,by rw [<- List.mem_singleton.1 hm]; exact hx⟩))).1
theorem qcm {h:Nat} {es:List Ent} (hW:M.Wf) (ho:M.over=false) (hk:KeysOk k es) (hs:SepE es) (h2:2<=es.length) (h3:es.length<=(capsV k v).2) (hp:∀ e∈es,Has D M k v h e.2):NodeOk (inOf es) k v:=
 qtz hk.tail hs.rising h2 h3 fun e he=>qbe hW ((hp e he).used ho e.2.page (hp e he).mem)
theorem qqp {es:List Ent} (h:KeysOk k es):KeysOk k (relow es):=by cases es <;> exact h
theorem qrK {h:Nat} {p:Int} {es:List Ent} {fresh:Bool} (hc:CapsOk k v) (hW:M.Wf) (ho:M.over=false) (h0:(es.map (·.1)).head?=some []) (hk:KeysOk k es) (hlen:es.length=(capsV k v).2+1) (hs:SepE es) (hp:∀ e∈es,Has D M k v h e.2/\minOf k v h<=e.2.size) (hu:InUse M p) (hpn:p∉es.flatMap (·.2.pages)) (hf:2<=M.free.length) :
  ∃ q o m M' n1 L1 P1 n2 L2 P2,splitN k v M p (inOf es) fresh=((⟨q,fresh,m,o⟩,0),M')/\o≠0/\Step D M M' [p] [q,o]/\Has D M' k v (h+1) ⟨q,n1,L1,q::P1⟩/\Has D M' k v (h+1) ⟨o,n2,L2,o::P2⟩/\L1++L2=es.flatMap (·.2.prs)/\P1++P2=es.flatMap (·.2.pages)/\(∀ x∈L1,KLt x.1 m)/\(∀ y∈L2,KLe m y.1)/\m.length=k/\IsB m/\minOf k v (h+1)<=n1/\minOf k v (h+1)<=n2/\M.free.length<=M'.free.length+2:=by
 have hc2:=hc.inner
 have hmid:es.length / 2<es.length:=by omega
 have hh:=qqX (es:=es) (mid:=es.length / 2) (by omega) hmid
 have lt:(es.take (es.length / 2)).length=es.length / 2:=by rw [List.length_take]; omega
 have ld:(relow (es.drop (es.length / 2))).length=es.length-es.length / 2:=by rw [qrY,List.length_drop]
 have hp1:∀ e∈es.take (es.length / 2),Has D M k v h e.2/\minOf k v h<=e.2.size:=fun e he=>hp e (List.mem_of_mem_take he)
 have hp2:∀ e∈relow (es.drop (es.length / 2)),Has D M k v h e.2/\minOf k v h<=e.2.size:=ql2 (P:=fun s=>Has D M k v h s/\minOf k v h<=s.size) fun e he=>hp e (List.mem_of_mem_drop he)
 have hs1:=hs.take (es.length / 2)
 have hs2:=(hs.drop (es.length / 2)).relow
 have hk1:KeysOk k (es.take (es.length / 2)):=fun e he=>by
  refine hk e ?_
  rw [<- List.drop_one,List.drop_take] at he
  rw [<- List.drop_one]
  exact List.mem_of_mem_take he
 have hk2:KeysOk k (relow (es.drop (es.length / 2))):=qqp fun e he=>by
  refine hk e ?_
  rw [<- List.drop_one,List.drop_drop,show es.length / 2+1=1+es.length / 2 by omega,<- List.drop_drop] at he
  rw [<- List.drop_one]
  exact List.mem_of_mem_drop he
 have n1:=qcm hW ho hk1 hs1 (by omega) (by omega) fun e he=>(hp1 e he).1
 have n2:=qcm hW ho hk2 hs2 (by omega) (by omega) fun e he=>(hp2 e he).1
 have hsp:es.take (es.length / 2)++es.drop (es.length / 2)=es:=List.take_append_drop _ _
 have hd:=List.drop_eq_getElem_cons hmid
 obtain ⟨q,o,M',e,ho0,st,hr1,hr2,hl⟩:=qlR (D:=D) (k:=k) (v:=v) (p:=p) (fresh:=fresh) (mid:=es.length / 2) (n:=inOf es) hW ho (by rw [qhr]) (by rw [hh]; exact n1) (by rw [hh]; exact n2) (by rw [qhr]; show es.length>_; omega) hu hf
 rw [hh] at e hr1 hr2
 have fr:∀ b∈es,∀ x∈b.2.pages,pagerReadM D M' x=pagerReadM D M x:=fun b hb x hx=>
  (st.rest x ((hp b hb).1.used ho x hx) (fun hm=>hpn (List.mem_flatMap.2 ⟨b,hb,by rw [<- List.mem_singleton.1 hm]; exact hx⟩))).1
 have f1:∀ e∈es.take (es.length / 2),Has D M' k v h e.2/\minOf k v h<=e.2.size:=fun e he=>⟨(hp1 e he).1.frame (fr e (List.mem_of_mem_take he)),(hp1 e he).2⟩
 have f2:∀ e∈relow (es.drop (es.length / 2)),Has D M' k v h e.2/\minOf k v h<=e.2.size:=ql2 (P:=fun s=>Has D M' k v h s/\minOf k v h<=s.size) fun e he=>⟨(hp e (List.mem_of_mem_drop he)).1.frame (fr e (List.mem_of_mem_drop he)),(hp e (List.mem_of_mem_drop he)).2⟩
 have hh1:((es.take (es.length / 2)).map (·.1)).head?=some []:=by
  rw [List.map_take]
  cases hem:es.map (·.1) with
  | nil=>rw [hem] at h0; cases h0
  | cons a r=>
   rw [hem] at h0
   rw [show es.length / 2=(es.length / 2-1)+1 by omega,List.take_succ_cons]
   exact h0
 have hh2:((relow (es.drop (es.length / 2))).map (·.1)).head?=some []:=qpp (by rw [hd]; exact List.cons_ne_nil _ _)
 have hsm:=hs
 rw [<- hsp,hd] at hsm
 have hm:=hsm.mid
 have hmk:=hk es[es.length / 2] (by
  rw [<- List.drop_one]
  exact List.mem_of_getElem? (i:=es.length / 2-1) (by rw [List.getElem?_drop,show 1+(es.length / 2-1)=es.length / 2 by omega,List.getElem?_eq_getElem hmid]))
 have ep:(relow (es.drop (es.length / 2))).flatMap (·.2.prs)=(es.drop (es.length / 2)).flatMap (·.2.prs):=qkb (f:=Seg.prs) _
 have eg:(relow (es.drop (es.length / 2))).flatMap (·.2.pages)=(es.drop (es.length / 2)).flatMap (·.2.pages):=qkb (f:=Seg.pages) _
 have H2:=qbS hh2 n2 hr2 hs2 f2
 refine ⟨q,o,es[es.length / 2].1,M',_,_,_,_,_,_,e,ho0,st,qbS hh1 n1 hr1 hs1 f1,H2,?_,?_,fun x hx=>?_,fun y hy=>?_,hmk.1,hmk.2,?_,?_,hl⟩
 ·rw [ep,<- List.flatMap_append,hsp]
 ·rw [eg,<- List.flatMap_append,hsp]
 ·obtain ⟨a,ha,hx⟩:=List.mem_flatMap.1 hx
  exact hm.1 a ha x hx
 ·rw [ep,hd] at hy
  obtain ⟨b,hb,hy⟩:=List.mem_flatMap.1 hy
  rcases List.mem_cons.1 hb with rfl | hb
  ·exact hs.low _ (List.getElem_mem hmid) y hy
  ·exact qbZ (qaP (hm.2 b hb).1) ((hm.2 b hb).2.2 y hy)
 ·show (capsV k v).2 / 2<=_; omega
 ·show (capsV k v).2 / 2<=_; omega
theorem qjd {A B:List Ent} {e:Ent} {s:Seg} (h:KeysOk k (A++e::B)):KeysOk k (A++(e.1,s)::B):=by
 cases A with
 | nil=>exact h
 | cons a A=>
  intro b hb
  rcases List.mem_append.1 (show b∈A++(e.1,s)::B from hb) with hb | hb
  ·exact h b (show b∈A++e::B from List.mem_append_left _ hb)
  rcases List.mem_cons.1 hb with rfl | hb
  ·exact h e (show e∈A++e::B from List.mem_append_right _ List.mem_cons_self)
  ·exact h b (show b∈A++e::B from List.mem_append_right _ (List.mem_cons_of_mem _ hb))
theorem qnH {A B:List Ent} {e:Ent} {s1 s2:Seg} {m:Key} (h:KeysOk k (A++e::B)) (hm:m.length=k/\IsB m):KeysOk k (A++(e.1,s1)::(m,s2)::B):=by
 have cl:∀ b∈(m,s2)::B,(∀ c∈B,c.1.length=k/\IsB c.1)->b.1.length=k/\IsB b.1:=fun b hb hB=>(List.mem_cons.1 hb).elim (fun e=>by rw [e]; exact hm) (hB b)
 cases A with
 | nil=>exact fun b hb=>cl b hb fun c hc=>h c hc
 | cons a A=>
  intro b hb
  rcases List.mem_append.1 (show b∈A++(e.1,s1)::(m,s2)::B from hb) with hb | hb
  ·exact h b (show b∈A++e::B from List.mem_append_left _ hb)
  rcases List.mem_cons.1 hb with rfl | hb
  ·exact h e (show e∈A++e::B from List.mem_append_right _ List.mem_cons_self)
  ·exact cl b hb fun c hc=>h c (show c∈A++e::B from List.mem_append_right _ (List.mem_cons_of_mem _ hc))
theorem qoT (hc:CapsOk k v) {key val:Key} (hk:key.length=k/\IsB key) (hv:val.length=v/\IsB val):∀ (h:Nat) (M:PgM) (s:Seg),Has D M k v h s->M.Wf->M.over=false->s.pages.Nodup->s.size<=1000->2*(h+1)<=M.free.length->
  ∃ g M',putN D k v key val (h+1) M s.page=((g,0),M')/\PutOk D M k v h s key val g M'
 | 0,M,⟨p,n,L,P⟩,⟨h1,h2,h3,h4⟩,hW,ho,hnd,_,hf=>by
  dsimp only at h1 h2 h3 h4
  subst h1 h2
  have hp:InUse M p:=qnG ho (by rw [h4])
  have hl:loadN D M k v p=(lfOf L,0):=h3.load h4
  have hs:SortP L:=h3.right.2.2.1
  have hL:PrsOk k v L:=fun x hx=>⟨h3.right.1 x.1 (List.mem_map_of_mem hx),h3.right.2.1 x.2 (List.mem_map_of_mem hx),h3.keys x.1 (List.mem_map_of_mem hx),h3.vals x.2 (List.mem_map_of_mem hx)⟩
  have hlen:=h3.right.2.2.2
  rw [if_pos (show (lfOf L).leaf=true from rfl)] at hlen
  have hle:1<=L.length/\L.length<=(capsV k v).1:=by
   have e:(lfOf L).keys.length=L.length:=List.length_map _
   rw [e] at hlen
   exact ⟨hlen.2.1,hlen.2.2.1⟩
  have hkeys:(lfOf L).keys=keysP L:=rfl
  have hpl:=qp1 (v:=val) (k:=key) hs
  have hL':PrsOk k v (insP key val L):=fun x hx=>(qdu hx).elim (fun e=>by rw [e]; exact ⟨hk.1,hv.1,hk.2,hv.2⟩) (hL x)
  have hs':=qlw (k:=key) (v:=val) hs
  unfold putN
  rw [hl]
  dsimp only
  rw [if_neg (fun h=>h rfl),if_pos (show (lfOf L).leaf=true from rfl),hkeys]
  by_cases hm:(keysP L)[placeV (keysP L) key]?=some key
  ·rw [if_pos hm,qub hm]
   rw [if_pos hm] at hpl
   have hl2:=qby (v:=val) hs ((qbE hs).1 hm)
   rw [hpl] at hL' hs' hl2
   exact qm8 hc hW ho hp (by omega) hL' hs' (by omega) (by omega) (by omega) hpl.symm (by rw [decide_eq_false (fun h=>h ((qbE hs).1 hm))])
  ·rw [if_neg hm,qtV]
   rw [if_neg hm] at hpl
   have hno:key∉keysP L:=fun h=>hm ((qbE hs).2 h)
   have hl2:=qbA (v:=val) hno
   rw [hpl] at hL' hs' hl2
   exact qm8 hc hW ho hp (by omega) hL' hs' (by omega) (by omega) (by omega) hpl.symm (by rw [decide_eq_true hno])
 | h+1,M,⟨p,n,L,P⟩,⟨es,h0,h1,h2,h3,h4,h5,h6,h7⟩,hW,ho,hnd,h8,hf=>by
  dsimp only at h1 h2 h3 h5 hnd h8
  subst h1 h2 h3
  have hp:InUse M p:=qnG ho (by rw [h5])
  have hl:loadN D M k v p=(inOf es,0):=h4.load h5
  have htwo:=h4.right.innerTwo
  obtain ⟨A,e,B,hes,hA,hke,hkB,hpage⟩:=qff (key:=key) h0 h6
  have hkids:(inOf es).kids.getD (kidV (inOf es).keys key) 0=e.2.page:=hpage
  have hcA:kidV (inOf es).keys key=A.length:=hA.symm
  have hem:e∈es:=by rw [hes]; simp
  obtain ⟨heh,hemin⟩:=h7 e hem
  have husall:∀ z∈p::es.flatMap (·.2.pages),InUse M z:=fun z hz=>(List.mem_cons.1 hz).elim (fun e=>by rw [e]; exact hp) fun hz=>by
   obtain ⟨b,hb,hz⟩:=List.mem_flatMap.1 hz
   exact (h7 b hb).1.used ho z hz
  have hflat:es.flatMap (·.2.pages)=A.flatMap (·.2.pages)++(e.2.pages++B.flatMap (·.2.pages)):=by rw [hes,qaC]
  have hflatp:es.flatMap (·.2.prs)=A.flatMap (·.2.prs)++(e.2.prs++B.flatMap (·.2.prs)):=by rw [hes,qaC]
  have hnd2:=hnd
  have hus2:=husall
  rw [hflat] at hnd2 hus2
  have hsz:e.2.size<=1000:=by
   have:=qer (k:=k) (v:=v)
   cases h with
   | zero=>
    have h9:=heh.2.2.1.right.2.2.2
    rw [if_pos (show (lfOf e.2.prs).leaf=true from rfl)] at h9
    have h10:=h9.2.2.1
    have e1:(lfOf e.2.prs).keys.length=e.2.prs.length:=List.length_map _
    rw [e1] at h10
    rw [heh.2.1]; omega
   | succ h=>
    obtain ⟨es2,_,g1,_,_,g4,_⟩:=heh
    have:=g4.right.innerTwo
    rw [g1]; omega
  have hnde:e.2.pages.Nodup:=(List.nodup_append.1 (List.nodup_append.1 (List.nodup_cons.1 hnd2).2).2.1).1
  obtain ⟨g,M1,eg,ok⟩:=qoT hc hk hv h M e.2 heh hW ho hnde hsz (by omega)
  have hfree:=ok.free
  have hmid:=h6
  rw [hes] at hmid
  have hmidm:=hmid.mid
  have hAk:∀ x∈A.flatMap (·.2.prs),KLt x.1 key:=fun x hx=>by
   obtain ⟨a,ha,hx⟩:=List.mem_flatMap.1 hx
   exact qbc (hmidm.1 a ha x hx) hke
  have hBk:∀ x∈B.flatMap (·.2.prs),KLt key x.1:=fun x hx=>by
   obtain ⟨b,hb,hx⟩:=List.mem_flatMap.1 hx
   exact qbc (hkB b hb) ((hmidm.2 b hb).2.2 x hx)
  have hins:insP key val (es.flatMap (·.2.prs))=A.flatMap (·.2.prs)++(insP key val e.2.prs++B.flatMap (·.2.prs)):=by
   rw [hflatp,qb9 hAk,qiq hBk]
  have hfr:g.fresh=decide (key∉keysP (es.flatMap (·.2.prs))):=by
   rw [ok.fresh]
   refine decide_eq_decide.2 (not_congr ⟨fun hm=>?_,fun hm=>?_⟩)
   ·obtain ⟨x,hx,rfl⟩:=List.mem_map.1 hm
    exact List.mem_map_of_mem (by rw [hflatp]; exact List.mem_append_right _ (List.mem_append_left _ hx))
   ·obtain ⟨x,hx,rfl⟩:=List.mem_map.1 hm
    rw [hflatp] at hx
    rcases List.mem_append.1 hx with hx | hx
    ·exact absurd (hAk x hx) qax
    rcases List.mem_append.1 hx with hx | hx
    ·exact List.mem_map_of_mem hx
    ·exact absurd (hBk x hx) qax
  have hpe:p∉e.2.pages:=fun hm=>(List.nodup_cons.1 hnd2).1 (List.mem_append_right _ (List.mem_append_left _ hm))
  have hABe:∀ b,b∈A\/b∈B->∀ z∈b.2.pages,z∉e.2.pages:=fun b hb z hz hm=>by
   have h9:=List.nodup_append.1 (List.nodup_cons.1 hnd2).2
   rcases hb with hb | hb
   ·exact h9.2.2 z (List.mem_flatMap.2 ⟨b,hb,hz⟩) z (List.mem_append_left _ hm) rfl
   ·exact (List.nodup_append.1 h9.2.1).2.2 z hm z (List.mem_flatMap.2 ⟨b,hb,hz⟩) rfl
  have hkeysok:=KeysOk.of h4
  have pno:∀ {MM:PgM} {Q:List Int},Step D M MM e.2.pages Q->p∉A.flatMap (·.2.pages)++(Q++B.flatMap (·.2.pages)):=fun st hm=>by
   have h9:=(List.nodup_cons.1 hnd2).1
   rcases List.mem_append.1 hm with hm | hm
   ·exact h9 (List.mem_append_left _ hm)
   rcases List.mem_append.1 hm with hm | hm
   ·exact (st.rest p hp hpe).2.2 hm
   ·exact h9 (List.mem_append_right _ (List.mem_append_right _ hm))
  unfold putN
  rw [hl]
  dsimp only
  rw [if_neg (fun h=>h rfl),if_neg (show ¬ (inOf es).leaf=true from fun e=>nomatch e),hkids,eg]
  dsimp only
  rw [if_neg (fun h=>h rfl),hcA]
  have old1:∀ {MM:PgM},(∀ x∈p::es.flatMap (·.2.pages),x∉e.2.pages->pagerReadM D MM x=pagerReadM D M x)->∀ b,b∈A\/b∈B->Has D MM k v h b.2/\minOf k v h<=b.2.size:=fun hr b hb=>by
   have hbm:b∈es:=by rw [hes]; rcases hb with hb | hb <;> simp [hb]
   exact ⟨(h7 b hbm).1.frame fun x hx=>hr x (List.mem_cons_of_mem _ (List.mem_flatMap.2 ⟨b,hbm,hx⟩)) (hABe b hb x hx),(h7 b hbm).2⟩
  rcases ok.res with ⟨hg0,n',P',hHas,st,hsz'⟩ | ⟨hg0,n1,L1,P1,n2,L2,P2,hH1,hH2,hL12,hLk1,hLk2,hgk1,hgk2,hm1,hm2,st⟩
  ·-- no page beside it
   have hhead:((A++(e.1,(⟨g.page,n',insP key val e.2.prs,P'⟩:Seg))::B).map (·.1)).head?=some []:=by
    rw [hes] at h0
    rw [List.map_append,List.map_cons] at h0 ⊢
    exact h0
   have hsep:SepE (A++(e.1,(⟨g.page,n',insP key val e.2.prs,P'⟩:Seg))::B):=hmid.put hke hkB fun x hx=>(qdu hx).imp (fun e=>by rw [e]) id
   have hrest1:∀ x∈p::es.flatMap (·.2.pages),x∉e.2.pages->pagerReadM D M1 x=pagerReadM D M x:=fun x hx hxe=>(st.rest x (husall x hx) hxe).1
   have hlen:(A++(e.1,(⟨g.page,n',insP key val e.2.prs,P'⟩:Seg))::B).length=es.length:=by rw [hes]; simp
   have hpm:(A++(e.1,(⟨g.page,n',insP key val e.2.prs,P'⟩:Seg))::B).flatMap (·.2.prs)=insP key val (es.flatMap (·.2.prs)):=by rw [qaC,hins]
   have hpg:(A++(e.1,(⟨g.page,n',insP key val e.2.prs,P'⟩:Seg))::B).flatMap (·.2.pages)=A.flatMap (·.2.pages)++(P'++B.flatMap (·.2.pages)):=by rw [qaC]
   by_cases hsame:g.page=e.2.page/\g.other=0
   ·rw [if_pos hsame]
    have hin:inOf (A++(e.1,(⟨g.page,n',insP key val e.2.prs,P'⟩:Seg))::B)=inOf es:=by
     rw [hes]
     unfold inOf
     simp [hsame.1]
    have hrp:pagerReadM D M1 p=(4,bodyN (inOf (A++(e.1,(⟨g.page,n',insP key val e.2.prs,P'⟩:Seg))::B)),0):=by rw [hrest1 p (by simp) hpe,h5,hin]
    refine ⟨_,M1,rfl,hfr,by omega,.inl ⟨rfl,es.length,p::(A.flatMap (·.2.pages)++(P'++B.flatMap (·.2.pages))),?_,?_,Nat.le_refl _⟩⟩
    ·have:=qbS hhead (by rw [hin]; exact h4) hrp hsep (h:=h) fun b hb=>?_
     ·rw [hlen,hpm,hpg] at this
      exact this
     ·rcases List.mem_append.1 hb with hb | hb
      ·exact old1 hrest1 b (.inl hb)
      rcases List.mem_cons.1 hb with rfl | hb
      ·exact ⟨hHas,Nat.le_trans hemin hsz'⟩
      ·exact old1 hrest1 b (.inr hb)
    ·show Step D M M1 (p::es.flatMap (·.2.pages)) _
     rw [hflat]
     have h9:=Step.node (p:=p) hus2 hnd2 st (Step.refl (D:=D) st.wf st.over (P:=[p]) (fun x hx=>by rw [List.mem_singleton.1 hx]; exact (st.rest p hp hpe).2.1) (by simp))
     exact h9
   ·rw [if_neg hsame,hes,qrE (s1:=⟨g.page,n',insP key val e.2.prs,P'⟩) rfl hg0]
    have hp1:∀ b∈A++(e.1,(⟨g.page,n',insP key val e.2.prs,P'⟩:Seg))::B,Has D M1 k v h b.2/\minOf k v h<=b.2.size:=fun b hb=>by
     rcases List.mem_append.1 hb with hb | hb
     ·exact old1 hrest1 b (.inl hb)
     rcases List.mem_cons.1 hb with rfl | hb
     ·exact ⟨hHas,Nat.le_trans hemin hsz'⟩
     ·exact old1 hrest1 b (.inr hb)
    have hkk:KeysOk k (A++(e.1,(⟨g.page,n',insP key val e.2.prs,P'⟩:Seg))::B):=qjd (by rw [<- hes]; exact hkeysok)
    have hN:=qcm st.wf st.over hkk hsep (by omega) (by omega) fun b hb=>(hp1 b hb).1
    obtain ⟨q,M2,e2,st2,H2,hl2⟩:=qh2 (fresh:=g.fresh) st.wf st.over hhead hN (by omega) hsep hp1 (st.rest p hp hpe).2.1 (by rw [hpg]; exact pno st) (by omega)
    refine ⟨_,M2,e2,by rw [<- hes]; exact hfr,by omega,.inl ⟨rfl,es.length,q::(A.flatMap (·.2.pages)++(P'++B.flatMap (·.2.pages))),?_,?_,Nat.le_of_eq (by rw [hes])⟩⟩
    ·rw [hlen,hpm,hpg] at H2
     rw [<- hes]
     exact H2
    ·show Step D M M2 (p::(A++e::B).flatMap (·.2.pages)) _
     rw [qaC]
     exact Step.node (p:=p) hus2 hnd2 st st2
  ·-- a page beside it
   have hne1:L1≠[]:=hH1.ne
   have hne2:L2≠[]:=hH2.ne
   rw [if_neg (fun h=>hg0 h.2)]
   have hsep:SepE (A++(e.1,(⟨g.page,n1,L1,P1⟩:Seg))::(g.key,⟨g.other,n2,L2,P2⟩)::B):=
    (hmid.put (s:=⟨0,0,insP key val e.2.prs,[]⟩) hke hkB fun x hx=>(qdu hx).imp (fun e=>by rw [e]) id).cut2 hL12.symm hLk1 hLk2 hne1 hne2
   have hhead:((A++(e.1,(⟨g.page,n1,L1,P1⟩:Seg))::(g.key,⟨g.other,n2,L2,P2⟩)::B).map (·.1)).head?=some []:=by
    rw [hes] at h0
    rw [List.map_append,List.map_cons] at h0 ⊢
    cases A with
    | nil=>exact h0
    | cons a A=>exact h0
   have hrest1:∀ x∈p::es.flatMap (·.2.pages),x∉e.2.pages->pagerReadM D M1 x=pagerReadM D M x:=fun x hx hxe=>(st.rest x (husall x hx) hxe).1
   have hlen:(A++(e.1,(⟨g.page,n1,L1,P1⟩:Seg))::(g.key,⟨g.other,n2,L2,P2⟩)::B).length=es.length+1:=by rw [hes]; simp; omega
   have hpm:(A++(e.1,(⟨g.page,n1,L1,P1⟩:Seg))::(g.key,⟨g.other,n2,L2,P2⟩)::B).flatMap (·.2.prs)=insP key val (es.flatMap (·.2.prs)):=by
    rw [qaC,List.flatMap_cons,hins,<- hL12,List.append_assoc]
   have hpg:(A++(e.1,(⟨g.page,n1,L1,P1⟩:Seg))::(g.key,⟨g.other,n2,L2,P2⟩)::B).flatMap (·.2.pages)=A.flatMap (·.2.pages)++((P1++P2)++B.flatMap (·.2.pages)):=by rw [qaC,List.flatMap_cons,List.append_assoc P1]
   have hp1:∀ b∈A++(e.1,(⟨g.page,n1,L1,P1⟩:Seg))::(g.key,⟨g.other,n2,L2,P2⟩)::B,Has D M1 k v h b.2/\minOf k v h<=b.2.size:=fun b hb=>by
    rcases List.mem_append.1 hb with hb | hb
    ·exact old1 hrest1 b (.inl hb)
    rcases List.mem_cons.1 hb with rfl | hb
    ·exact ⟨hH1,hm1⟩
    rcases List.mem_cons.1 hb with rfl | hb
    ·exact ⟨hH2,hm2⟩
    ·exact old1 hrest1 b (.inr hb)
   have hkk:KeysOk k (A++(e.1,(⟨g.page,n1,L1,P1⟩:Seg))::(g.key,⟨g.other,n2,L2,P2⟩)::B):=qnH (by rw [<- hes]; exact hkeysok) ⟨hgk1,hgk2⟩
   have hpn:p∉(A++(e.1,(⟨g.page,n1,L1,P1⟩:Seg))::(g.key,⟨g.other,n2,L2,P2⟩)::B).flatMap (·.2.pages):=by rw [hpg]; exact pno st
   have hu1:=(st.rest p hp hpe).2.1
   have hgr:grownN (inOf es) A.length g=inOf (A++(e.1,(⟨g.page,n1,L1,P1⟩:Seg))::(g.key,⟨g.other,n2,L2,P2⟩)::B):=by
    rw [hes]
    exact qsu (by rw [<- hes]; exact h0) rfl rfl rfl hg0
   rw [hgr]
   have hst:∀ {M2:PgM} {Q:List Int},Step D M1 M2 [p] Q->Step D M M2 (p::es.flatMap (·.2.pages)) (Q++(A.flatMap (·.2.pages)++((P1++P2)++B.flatMap (·.2.pages)))):=fun h2=>by
    rw [hflat]
    exact Step.node (p:=p) hus2 hnd2 st h2
   by_cases hb:es.length+1<=(capsV k v).2
   ·have hN:=qcm st.wf st.over hkk hsep (by omega) (by omega) fun b hb=>(hp1 b hb).1
    obtain ⟨q,M2,e2,st2,H2,hl2⟩:=qh2 (fresh:=g.fresh) st.wf st.over hhead hN (by omega) hsep hp1 hu1 hpn (by omega)
    rw [hlen,hpm,hpg] at H2
    exact ⟨_,M2,e2,hfr,by omega,.inl ⟨rfl,_,_,H2,hst st2,by show es.length<=es.length+1; omega⟩⟩
   ·obtain ⟨q,o,m,M2,n3,L3,P3,n4,L4,P4,e2,ho0,st2,H3,H4,hL,hP,hlt,hle,hmk1,hmk2,hm3,hm4,hl2⟩:=qrK (fresh:=g.fresh) hc st.wf st.over hhead hkk (by omega) hsep hp1 hu1 hpn (by omega)
    rw [hpm] at hL
    rw [hpg] at hP
    refine ⟨_,M2,e2,hfr,by omega,.inr ⟨ho0,_,_,_,_,_,_,H3,H4,hL,hlt,hle,hmk1,hmk2,hm3,hm4,?_⟩⟩
    have:=hst st2
    rw [<- hP] at this
    refine this.perm (.refl _) ?_
    show (q::o::(P3++P4)).Perm (q::(P3++o::P4))
    exact (List.perm_middle.symm).cons q
end
section
def delAt {α:Type} (l:List α) (i:Nat):List α:=l.take i++l.drop (i+1)
def lowN (n:NodeM) (k v:Nat):Prop:=(sizeN n k v).1<(sizeN n k v).2 / 2
def spareN (n:NodeM) (k v:Nat):Prop:=(sizeN n k v).1>(sizeN n k v).2 / 2
def giveN (l r:NodeM) (key:Key):NodeM×NodeM×Key:=
 if l.leaf then
  ({ l with keys:=l.keys.take (l.keys.length-1),vals:=l.vals.take (l.keys.length-1) },
  { r with keys:=l.keys.getD (l.keys.length-1) []::r.keys,vals:=l.vals.getD (l.keys.length-1) []::r.vals },l.keys.getD (l.keys.length-1) [])
 else
  ({ l with keys:=l.keys.take (l.keys.length-1),kids:=l.kids.take (l.keys.length-1+1) },
  { r with keys:=key::r.keys,kids:=l.kids.getD (l.keys.length-1+1) 0::r.kids },l.keys.getD (l.keys.length-1) [])
def takeN (l r:NodeM) (key:Key):NodeM×NodeM×Key:=
 if l.leaf then
  ({ l with keys:=l.keys++[r.keys.getD 0 []],vals:=l.vals++[r.vals.getD 0 []] },{ r with keys:=r.keys.drop 1,vals:=r.vals.drop 1 },(r.keys.drop 1).getD 0 [])
 else
  ({ l with keys:=l.keys++[key],kids:=l.kids++[r.kids.getD 0 0] },{ r with keys:=r.keys.drop 1,kids:=r.kids.drop 1 },r.keys.getD 0 [])
def joinN (l r:NodeM) (key:Key):NodeM:=⟨l.leaf,(if l.leaf then l.keys else l.keys++[key])++r.keys,l.vals++r.vals,l.kids++r.kids⟩
noncomputable def joinM (k v:Nat) (M:PgM) (n:NodeM) (i:Nat) (l r:NodeM):(NodeM×Int)×PgM:=
 if (storeN k v M (n.kids.getD i 0) (joinN l r (n.keys.getD i []))).1.2≠0 then ((zeroN,(storeN k v M (n.kids.getD i 0) (joinN l r (n.keys.getD i []))).1.2),(storeN k v M (n.kids.getD i 0) (joinN l r (n.keys.getD i []))).2)
 else if (dropV (storeN k v M (n.kids.getD i 0) (joinN l r (n.keys.getD i []))).2 (n.kids.getD (i+1) 0)).1≠0 then ((zeroN,(dropV (storeN k v M (n.kids.getD i 0) (joinN l r (n.keys.getD i []))).2 (n.kids.getD (i+1) 0)).1),(dropV (storeN k v M (n.kids.getD i 0) (joinN l r (n.keys.getD i []))).2 (n.kids.getD (i+1) 0)).2)
 else (({ n with kids:=delAt (n.kids.set i (storeN k v M (n.kids.getD i 0) (joinN l r (n.keys.getD i []))).1.1) (i+1),keys:=delAt n.keys i },0),(dropV (storeN k v M (n.kids.getD i 0) (joinN l r (n.keys.getD i []))).2 (n.kids.getD (i+1) 0)).2)
noncomputable def bothM (k v:Nat) (M:PgM) (n:NodeM) (i:Nat) (r:NodeM×NodeM×Key):(NodeM×Int)×PgM:=
 if (storeN k v M (n.kids.getD i 0) r.1).1.2≠0 then ((zeroN,(storeN k v M (n.kids.getD i 0) r.1).1.2),(storeN k v M (n.kids.getD i 0) r.1).2)
 else (({ n with keys:=n.keys.set i r.2.2,kids:=(n.kids.set i (storeN k v M (n.kids.getD i 0) r.1).1.1).set (i+1) (storeN k v (storeN k v M (n.kids.getD i 0) r.1).2 (n.kids.getD (i+1) 0) r.2.1).1.1 },(storeN k v (storeN k v M (n.kids.getD i 0) r.1).2 (n.kids.getD (i+1) 0) r.2.1).1.2),(storeN k v (storeN k v M (n.kids.getD i 0) r.1).2 (n.kids.getD (i+1) 0) r.2.1).2)
noncomputable def evenM (D:DiskM) (k v:Nat) (M:PgM) (n:NodeM) (side c:Nat) (x:NodeM):(NodeM×Int)×PgM:=
 if (loadN D M k v (n.kids.getD side 0)).2≠0 then ((zeroN,(loadN D M k v (n.kids.getD side 0)).2),M)
 else if side<c then
  if ¬ spareN (loadN D M k v (n.kids.getD side 0)).1 k v then joinM k v M n side (loadN D M k v (n.kids.getD side 0)).1 x
  else bothM k v M n side (giveN (loadN D M k v (n.kids.getD side 0)).1 x (n.keys.getD side []))
 else
  if ¬ spareN (loadN D M k v (n.kids.getD side 0)).1 k v then joinM k v M n c x (loadN D M k v (n.kids.getD side 0)).1
  else bothM k v M n c (takeN x (loadN D M k v (n.kids.getD side 0)).1 (n.keys.getD c []))
noncomputable def cutN (D:DiskM) (k v:Nat) (key:Key):Nat->PgM->Int->(NodeM×Int)×PgM
 | 0,M,_=>((zeroN,-1),M)
 | f+1,M,p=>
  if (loadN D M k v p).2≠0 then ((zeroN,(loadN D M k v p).2),M)
  else if (loadN D M k v p).1.leaf then
   if (loadN D M k v p).1.keys[placeV (loadN D M k v p).1.keys key]?=some key then (({ (loadN D M k v p).1 with keys:=delAt (loadN D M k v p).1.keys (placeV (loadN D M k v p).1.keys key),vals:=delAt (loadN D M k v p).1.vals (placeV (loadN D M k v p).1.keys key) },0),M)
   else ((zeroN,5),M)
  else if (cutN D k v key f M ((loadN D M k v p).1.kids.getD (kidV (loadN D M k v p).1.keys key) 0)).1.2≠0 then
   ((zeroN,(cutN D k v key f M ((loadN D M k v p).1.kids.getD (kidV (loadN D M k v p).1.keys key) 0)).1.2),(cutN D k v key f M ((loadN D M k v p).1.kids.getD (kidV (loadN D M k v p).1.keys key) 0)).2)
  else if ¬ lowN (cutN D k v key f M ((loadN D M k v p).1.kids.getD (kidV (loadN D M k v p).1.keys key) 0)).1.1 k v then
   (({ (loadN D M k v p).1 with kids:=(loadN D M k v p).1.kids.set (kidV (loadN D M k v p).1.keys key) (storeN k v (cutN D k v key f M ((loadN D M k v p).1.kids.getD (kidV (loadN D M k v p).1.keys key) 0)).2 ((loadN D M k v p).1.kids.getD (kidV (loadN D M k v p).1.keys key) 0) (cutN D k v key f M ((loadN D M k v p).1.kids.getD (kidV (loadN D M k v p).1.keys key) 0)).1.1).1.1 },
    (storeN k v (cutN D k v key f M ((loadN D M k v p).1.kids.getD (kidV (loadN D M k v p).1.keys key) 0)).2 ((loadN D M k v p).1.kids.getD (kidV (loadN D M k v p).1.keys key) 0) (cutN D k v key f M ((loadN D M k v p).1.kids.getD (kidV (loadN D M k v p).1.keys key) 0)).1.1).1.2),
    (storeN k v (cutN D k v key f M ((loadN D M k v p).1.kids.getD (kidV (loadN D M k v p).1.keys key) 0)).2 ((loadN D M k v p).1.kids.getD (kidV (loadN D M k v p).1.keys key) 0) (cutN D k v key f M ((loadN D M k v p).1.kids.getD (kidV (loadN D M k v p).1.keys key) 0)).1.1).2)
  else if kidV (loadN D M k v p).1.keys key>0 then
   evenM D k v (cutN D k v key f M ((loadN D M k v p).1.kids.getD (kidV (loadN D M k v p).1.keys key) 0)).2 (loadN D M k v p).1 (kidV (loadN D M k v p).1.keys key-1) (kidV (loadN D M k v p).1.keys key) (cutN D k v key f M ((loadN D M k v p).1.kids.getD (kidV (loadN D M k v p).1.keys key) 0)).1.1
  else evenM D k v (cutN D k v key f M ((loadN D M k v p).1.kids.getD (kidV (loadN D M k v p).1.keys key) 0)).2 (loadN D M k v p).1 (kidV (loadN D M k v p).1.keys key+1) (kidV (loadN D M k v p).1.keys key) (cutN D k v key f M ((loadN D M k v p).1.kids.getD (kidV (loadN D M k v p).1.keys key) 0)).1.1
section
variable {D:DiskM} {M M':PgM} {k v:Nat}
def HasN (D:DiskM) (M:PgM) (k v:Nat):Nat->NodeM->Nat->Prs->List Int->Prop
 | 0,N,n,L,R=>N=lfOf L/\n=L.length/\R=[]/\PrsOk k v L/\SortP L/\n<=(capsV k v).1
 | h+1,N,n,L,R=>∃ es:List Ent,(es.map (·.1)).head?=some []/\N=inOf es/\n=es.length/\L=es.flatMap (·.2.prs)/\R=es.flatMap (·.2.pages)/\KeysOk k es/\SepE es/\n<=(capsV k v).2/\∀ e∈es,Has D M k v h e.2/\minOf k v h<=e.2.size
def oneOf (h:Nat):Nat:=if h=0 then 1 else 2
theorem HasN.size {h:Nat} {N:NodeM} {n:Nat} {L:Prs} {R:List Int} (hN:HasN D M k v h N n L R):sizeN N k v=(n,if h=0 then (capsV k v).1 else (capsV k v).2):=by
 cases h with
 | zero=>
  obtain ⟨rfl,rfl,_⟩:=hN
  exact qhd
 | succ h=>
  obtain ⟨es,_,rfl,rfl,_⟩:=hN
  exact qhr
theorem HasN.used {h:Nat} {N:NodeM} {n:Nat} {L:Prs} {R:List Int} (ho:M.over=false) (hN:HasN D M k v h N n L R):∀ x∈R,InUse M x:=by
 cases h with
 | zero=>obtain ⟨_,_,rfl,_⟩:=hN; exact fun x hx=>nomatch hx
 | succ h=>
  obtain ⟨es,_,_,_,_,rfl,_,_,_,he⟩:=hN
  intro x hx
  obtain ⟨e,hm,hx⟩:=List.mem_flatMap.1 hx
  exact (he e hm).1.used ho x hx
theorem HasN.frame {h:Nat} {N:NodeM} {n:Nat} {L:Prs} {R:List Int} (hN:HasN D M k v h N n L R) (hr:∀ x∈R,pagerReadM D M' x=pagerReadM D M x):HasN D M' k v h N n L R:=by
 cases h with
 | zero=>exact hN
 | succ h=>
  obtain ⟨es,h1,h2,h3,h4,rfl,h6,h7,h8,he⟩:=hN
  exact ⟨es,h1,h2,h3,h4,rfl,h6,h7,h8,fun e hm=>⟨(he e hm).1.frame fun x hx=>hr x (List.mem_flatMap.2 ⟨e,hm,hx⟩),(he e hm).2⟩⟩
theorem HasN.ok {h:Nat} {N:NodeM} {n:Nat} {L:Prs} {R:List Int} (hW:M.Wf) (ho:M.over=false) (hN:HasN D M k v h N n L R) (h1:oneOf h<=n):NodeOk N k v:=by
 cases h with
 | zero=>
  obtain ⟨rfl,rfl,_,hL,hs,hl⟩:=hN
  exact qez hL hs h1 hl
 | succ h=>
  obtain ⟨es,h2,rfl,rfl,h4,rfl,h6,h7,h8,he⟩:=hN
  exact qcm hW ho h6 h7 h1 h8 fun e hm=>(he e hm).1
theorem HasN.stored {h:Nat} {N:NodeM} {n:Nat} {L:Prs} {R:List Int} {q:Int} (hW:M.Wf) (ho:M.over=false) (hN:HasN D M k v h N n L R) (h1:oneOf h<=n) (hr:pagerReadM D M q=(kindN N,bodyN N,0)):Has D M k v h ⟨q,n,L,q::R⟩:=by
 have hok:=hN.ok hW ho h1
 cases h with
 | zero=>
  obtain ⟨rfl,rfl,rfl,hL,hs,hl⟩:=hN
  exact qdt hok hr
 | succ h=>
  obtain ⟨es,h2,rfl,rfl,rfl,rfl,h6,h7,h8,he⟩:=hN
  exact qbS h2 hok hr h7 he
theorem Has.load {h:Nat} {s:Seg} (hs:Has D M k v h s):∃ N R,loadN D M k v s.page=(N,0)/\HasN D M k v h N s.size s.prs R/\s.pages=s.page::R/\N.leaf=decide (h=0)/\oneOf h<=s.size:=by
 cases h with
 | zero=>
  obtain ⟨h1,h2,h3,h4⟩:=hs
  have hlen:=h3.right.2.2.2
  rw [if_pos (show (lfOf s.prs).leaf=true from rfl)] at hlen
  have e:(lfOf s.prs).keys.length=s.prs.length:=List.length_map _
  rw [e] at hlen
  exact ⟨lfOf s.prs,[],h3.load h4,⟨rfl,h2,rfl,fun x hx=>⟨h3.right.1 x.1 (List.mem_map_of_mem hx),h3.right.2.1 x.2 (List.mem_map_of_mem hx),h3.keys x.1 (List.mem_map_of_mem hx),h3.vals x.2 (List.mem_map_of_mem hx)⟩,h3.right.2.2.1,by rw [h2]; exact hlen.2.2.1⟩,h1,rfl,by rw [h2]; exact hlen.2.1⟩
 | succ h=>
  obtain ⟨es,h0,h1,h2,h3,h4,h5,h6,h7⟩:=hs
  have htwo:=h4.right.innerTwo
  exact ⟨inOf es,_,h4.load h5,⟨es,h0,rfl,h1,h2,rfl,KeysOk.of h4,h6,by rw [h1]; exact htwo.2,h7⟩,h3,rfl,by rw [h1]; exact htwo.1⟩
theorem HasN.store {h:Nat} {N:NodeM} {n:Nat} {L:Prs} {R:List Int} {p:Int} (hW:M.Wf) (ho:M.over=false) (hN:HasN D M k v h N n L R) (h1:oneOf h<=n) (hp:InUse M p) (hpR:p∉R) (hf:1<=M.free.length) :
  ∃ q M',storeN k v M p N=((q,0),M')/\Step D M M' [p] [q]/\Has D M' k v h ⟨q,n,L,q::R⟩/\M.free.length<=M'.free.length+1:=by
 obtain ⟨q,M',e,st,hr,hl,_⟩:=qe9 (D:=D) hW ho (hN.ok hW ho h1) hp (fun e=>by rw [e] at hf; exact absurd hf (by decide))
 exact ⟨q,M',e,st,(hN.frame fun x hx=>(st.rest x (hN.used ho x hx) (fun hm=>hpR (by rw [<- List.mem_singleton.1 hm]; exact hx))).1).stored st.wf st.over h1 hr,hl⟩
theorem qtP {L1 L2:Prs} {z:Key×Key} {key:Key}:giveN (lfOf (L1++[z])) (lfOf L2) key=(lfOf L1,lfOf (z::L2),z.1):=by
 unfold giveN
 rw [if_pos (show (lfOf _).leaf=true from rfl)]
 unfold lfOf
 simp
theorem qtf {L1 L2:Prs} {z y:Key×Key} {key:Key}:takeN (lfOf L1) (lfOf (z::y::L2)) key=(lfOf (L1++[z]),lfOf (y::L2),y.1):=by
 unfold takeN
 rw [if_pos (show (lfOf _).leaf=true from rfl)]
 unfold lfOf
 simp
theorem qtd {L1 L2:Prs} {key:Key}:joinN (lfOf L1) (lfOf L2) key=lfOf (L1++L2):=by
 unfold joinN
 unfold lfOf
 simp
theorem qtR {a z b:Ent} {es1 es2:List Ent} {key:Key}:giveN (inOf (a::es1++[z])) (inOf (b::es2)) key=(inOf (a::es1),inOf (([],z.2)::(key,b.2)::es2),z.1):=by
 unfold giveN
 rw [if_neg (show ¬ (inOf _).leaf=true from fun e=>nomatch e)]
 unfold inOf
 simp
theorem qtG {es1 es2:List Ent} {a z y:Ent} {key:Key}:takeN (inOf (a::es1)) (inOf (z::y::es2)) key=(inOf (a::es1++[(key,z.2)]),inOf (([],y.2)::es2),y.1):=by
 unfold takeN
 rw [if_neg (show ¬ (inOf _).leaf=true from fun e=>nomatch e)]
 unfold inOf
 simp
theorem qtH {es1 es2:List Ent} {a b:Ent} {key:Key}:joinN (inOf (a::es1)) (inOf (b::es2)) key=inOf (a::es1++(key,b.2)::es2):=by
 unfold joinN
 unfold inOf
 simp
theorem SepE.app {a b:List Ent} (ha:SepE a) (hb:SepE b) (hab:∀ x∈a,∀ y∈b,KLt x.1 y.1/\∀ z∈x.2.prs,KLt z.1 y.1):SepE (a++b):=
 ⟨List.pairwise_append.2 ⟨ha.pair,hb.pair,fun x hx y hy=>hab x hx y hy⟩,fun e he=>(List.mem_append.1 he).elim (ha.low e) (hb.low e)⟩
theorem SepE.sub {a b:List Ent} (h:SepE b) (hs:a.Sublist b):SepE a:=⟨h.pair.sublist hs,fun e he=>h.low e (hs.subset he)⟩
theorem qkE {e:Ent} (h:∀ x∈e.2.prs,KLe e.1 x.1):SepE [e]:=⟨List.pairwise_singleton _ _,fun a ha=>by rw [List.mem_singleton.1 ha]; exact h⟩
theorem qpb {a b:Key} (h:KLt a b):KLt [] b:=by
 cases b with
 | nil=>exact absurd h qir
 | cons y l=>show cmpL [] (y::l)<0; simp [cmpL]
theorem SepE.head {x:Ent} {r:List Ent} {m:Key} (h:SepE (x::r)) (hm:∀ b∈r,KLt m b.1) (hl:∀ y∈x.2.prs,KLe m y.1):SepE ((m,x.2)::r):=by
 have hc:=List.pairwise_cons.1 h.pair
 exact ⟨List.pairwise_cons.2 ⟨fun b hb=>⟨hm b hb,(hc.1 b hb).2⟩,hc.2⟩,fun b hb=>(List.mem_cons.1 hb).elim (fun e=>by rw [e]; exact hl) fun hb=>h.low b (List.mem_cons_of_mem _ hb)⟩
theorem qk2 {h:Nat} {x:Ent} {r:List Ent} {m:Key} (hs:SepE (x::r)) (hx:Has D M k v h x.2) (hm:∀ y∈x.2.prs,KLe m y.1):∀ b∈r,KLt m b.1:=fun b hb=>by
 obtain ⟨y,hy⟩:=List.exists_mem_of_ne_nil _ hx.ne
 exact qf7 (hm y hy) (((List.pairwise_cons.1 hs.pair).1 b hb).2 y hy)
structure TwoOk (D:DiskM) (M:PgM) (k v:Nat) (h:Nat) (r:NodeM×NodeM×Key) (L:Prs) (P:List Int):Prop where
 res:∃ n1 L1 R1 n2 L2 R2,HasN D M k v h r.1 n1 L1 R1/\HasN D M k v h r.2.1 n2 L2 R2/\L1++L2=L/\R1++R2=P/\(∀ x∈L1,KLt x.1 r.2.2)/\(∀ y∈L2,KLe r.2.2 y.1)/\r.2.2.length=k/\IsB r.2.2/\minOf k v h<=n1/\minOf k v h<=n2/\L1≠[]/\L2≠[]
theorem CapsOk.min (hc:CapsOk k v) (h:Nat):oneOf h<=minOf k v h/\1<=minOf k v h:=by
 have h1:=hc.leaf
 have h2:=hc.inner
 unfold oneOf minOf
 split <;> omega
theorem qtA {h:Nat} {es:List Ent} (hp:∀ e∈es,Has D M k v h e.2/\minOf k v h<=e.2.size) (hne:es≠[]):es.flatMap (·.2.prs)≠[]:=by
 cases es with
 | nil=>exact absurd rfl hne
 | cons a r=>intro e; rw [List.flatMap_cons] at e; exact (hp a (by simp)).1.ne (List.append_eq_nil_iff.1 e).1
theorem qt0 (hc:CapsOk k v) {h:Nat} {Nl Nr:NodeM} {n1 n2:Nat} {L1 L2:Prs} {R1 R2:List Int} {key:Key} (hl:HasN D M k v h Nl n1 L1 R1) (hr:HasN D M k v h Nr n2 L2 R2) (h1:minOf k v h<n1) (h2:n2+1=minOf k v h) (h3:∀ x∈L1,KLt x.1 key) (h4:∀ y∈L2,KLe key y.1) (hk:key.length=k/\IsB key) :
  TwoOk D M k v h (giveN Nl Nr key) (L1++L2) (R1++R2):=by
 have hmn:=hc.min h
 cases h with
 | zero=>
  obtain ⟨rfl,rfl,rfl,hL1,hs1,hb1⟩:=hl
  obtain ⟨rfl,rfl,rfl,hL2,hs2,hb2⟩:=hr
  have hne:L1≠[]:=fun e=>by rw [e] at h1; simp at h1
  obtain ⟨L,z,rfl⟩:∃ L z,L1=L++[z]:=⟨L1.dropLast,L1.getLast hne,(List.dropLast_concat_getLast hne).symm⟩
  rw [qtP]
  have hz:=hL1 z (by simp)
  have hss:=SortP.app.1 hs1
  rw [List.length_append] at h1 hb1
  have hs':SortP (z::L2):=by
   refine List.pairwise_cons.2 ⟨fun a ha=>?_,hs2⟩
   obtain ⟨y,hy,rfl⟩:=List.mem_map.1 ha
   exact qbc (h3 z (by simp)) (h4 y hy)
  have hml:minOf k v 0=(capsV k v).1 / 2:=rfl
  refine ⟨L.length,L,[],L2.length+1,z::L2,[],⟨rfl,rfl,rfl,hL1.sub fun x hx=>List.mem_append_left _ hx,hss.1,?_⟩,⟨rfl,rfl,rfl,fun x hx=>(List.mem_cons.1 hx).elim (fun e=>by rw [e]; exact hz) (hL2 x),hs',by omega⟩,by simp,rfl,fun x hx=>hss.2.2 x hx z (by simp),fun y hy=>?_,hz.1,hz.2.2.1,?_,by omega,?_,by simp⟩
  ·simp at hb1; omega
  ·rcases List.mem_cons.1 hy with rfl | hy
   ·exact qax
   ·exact qaP (qbc (h3 z (by simp)) (h4 y hy))
  ·simp at h1; omega
  ·intro e; rw [e] at h1; simp at h1; omega
 | succ h=>
  obtain ⟨es1,hh1,rfl,rfl,rfl,rfl,hk1,hs1,hb1,hp1⟩:=hl
  obtain ⟨es2,hh2,rfl,rfl,rfl,rfl,hk2,hs2,hb2,hp2⟩:=hr
  obtain ⟨a,es,z,rfl⟩:∃ a es z,es1=a::es++[z]:=by
   have:2<=es1.length:=by have:=hmn.1; unfold oneOf at this; rw [if_neg (by omega)] at this; omega
   match es1,this with
   | a::b::r,_=>exact ⟨a,(b::r).dropLast,(b::r).getLast (by simp),by rw [List.cons_append,List.dropLast_concat_getLast]⟩
  obtain ⟨b,es2,rfl⟩:∃ b es,es2=b::es:=by
   cases es2 with
   | nil=>cases hh2
   | cons b r=>exact ⟨b,r,rfl⟩
  rw [qtR]
  have hz:=hp1 z (by simp)
  have hzk:=hk1 z (show z∈es++[z] by simp)
  have hmid:=SepE.mid (A:=a::es) (e:=z) (B:=[]) hs1
  have hkey:KLt z.1 key:=by
   obtain ⟨x,hx⟩:=List.exists_mem_of_ne_nil _ hz.1.ne
   exact qf7 (hs1.low z (by simp) x hx) (h3 x (List.mem_flatMap.2 ⟨z,by simp,hx⟩))
  have hb4:∀ y∈b.2.prs,KLe key y.1:=fun y hy=>h4 y (by rw [List.flatMap_cons]; exact List.mem_append_left _ hy)
  have hkb:∀ c∈es2,KLt key c.1:=qk2 hs2 (hp2 b (by simp)).1 hb4
  have hsep2:SepE (([],z.2)::(key,b.2)::es2):=by
   refine SepE.app (a:=[([],z.2)]) (qkE fun x _=>qeu _) (hs2.head hkb hb4) fun x hx y hy=>?_
   rw [List.mem_singleton.1 hx]
   rcases List.mem_cons.1 hy with rfl | hy
   ·exact ⟨qpb hkey,fun w hw=>h3 w (List.mem_flatMap.2 ⟨z,by simp,hw⟩)⟩
   ·exact ⟨qpb (hkb y hy),fun w hw=>qaw (h3 w (List.mem_flatMap.2 ⟨z,by simp,hw⟩)) (hkb y hy)⟩
  have hml:minOf k v (h+1)=(capsV k v).2 / 2:=rfl
  simp only [List.length_append,List.length_cons,List.length_nil] at h1 h2 hb1 hb2
  have ep1:(a::es++[z]).flatMap (·.2.prs)=(a::es).flatMap (·.2.prs)++z.2.prs:=by simp [List.flatMap_append]
  have eg1:(a::es++[z]).flatMap (·.2.pages)=(a::es).flatMap (·.2.pages)++z.2.pages:=by simp [List.flatMap_append]
  refine ⟨es.length+1,(a::es).flatMap (·.2.prs),(a::es).flatMap (·.2.pages),es2.length+2,z.2.prs++(b.2.prs++es2.flatMap (·.2.prs)),z.2.pages++(b.2.pages++es2.flatMap (·.2.pages)),⟨a::es,hh1,rfl,rfl,rfl,rfl,fun c hc=>hk1 c (show c∈es++[z] from List.mem_append_left _ hc),hs1.sub (List.sublist_append_left _ _),by omega,fun c hc=>hp1 c (List.mem_append_left _ hc)⟩,⟨([],z.2)::(key,b.2)::es2,rfl,rfl,rfl,rfl,rfl,fun c hc=>(List.mem_cons.1 hc).elim (fun e=>by rw [e]; exact hk) (hk2 c),hsep2,by omega,fun c hc=>?_⟩,?_,?_,fun x hx=>?_,fun y hy=>?_,hzk.1,hzk.2,by omega,by omega,?_,?_⟩
  ·rcases List.mem_cons.1 hc with rfl | hc
   ·exact hz
   rcases List.mem_cons.1 hc with rfl | hc
   ·exact hp2 b (by simp)
   ·exact hp2 c (by simp [hc])
  ·rw [ep1]; simp only [List.flatMap_cons,List.append_assoc]
  ·rw [eg1]; simp only [List.flatMap_cons,List.append_assoc]
  ·obtain ⟨c,hc,hx⟩:=List.mem_flatMap.1 hx
   exact hmid.1 c hc x hx
  ·rcases List.mem_append.1 hy with hy | hy
   ·exact hs1.low z (by simp) y hy
   ·exact qbZ (qaP hkey) (h4 y (by rw [List.flatMap_cons]; exact hy))
  ·exact qtA (fun c hc=>hp1 c (List.mem_append_left _ hc)) (by simp)
  ·intro e; exact hz.1.ne (List.append_eq_nil_iff.1 e).1
theorem qrq {h:Nat} {es:List Ent} {key:Key} (hs:SepE es) (hp:∀ e∈es,Has D M k v h e.2/\minOf k v h<=e.2.size) (h3:∀ x∈es.flatMap (·.2.prs),KLt x.1 key):∀ e∈es,KLt e.1 key:=fun e he=>by
 obtain ⟨x,hx⟩:=List.exists_mem_of_ne_nil _ (hp e he).1.ne
 exact qf7 (hs.low e he x hx) (h3 x (List.mem_flatMap.2 ⟨e,he,hx⟩))
theorem qtj (hc:CapsOk k v) {h:Nat} {Nl Nr:NodeM} {n1 n2:Nat} {L1 L2:Prs} {R1 R2:List Int} {key:Key} (hl:HasN D M k v h Nl n1 L1 R1) (hr:HasN D M k v h Nr n2 L2 R2) (h1:n1+1=minOf k v h) (h2:minOf k v h<n2) (h3:∀ x∈L1,KLt x.1 key) (h4:∀ y∈L2,KLe key y.1) (hk:key.length=k/\IsB key) :
  TwoOk D M k v h (takeN Nl Nr key) (L1++L2) (R1++R2):=by
 have hmn:=hc.min h
 cases h with
 | zero=>
  obtain ⟨rfl,rfl,rfl,hL1,hs1,hb1⟩:=hl
  obtain ⟨rfl,rfl,rfl,hL2,hs2,hb2⟩:=hr
  obtain ⟨z,y,L,rfl⟩:∃ z y L,L2=z::y::L:=by
   match L2,h2 with
   | [],h=>simp at h
   | [_],h=>simp at h; omega
   | z::y::L,_=>exact ⟨z,y,L,rfl⟩
  rw [qtf]
  have hz:=hL2 z (by simp)
  have hy:=hL2 y (by simp)
  have hcs:=List.pairwise_cons.1 (show (z.1::keysP (y::L)).Pairwise KLt from hs2)
  simp only [List.length_cons] at h2 hb2
  have hml:minOf k v 0=(capsV k v).1 / 2:=rfl
  have hzy:KLt z.1 y.1:=hcs.1 y.1 (by simp)
  refine ⟨L1.length+1,L1++[z],[],L.length+1,y::L,[],⟨rfl,by simp,rfl,fun x hx=>(List.mem_append.1 hx).elim (hL1 x) fun hx=>by rw [List.mem_singleton.1 hx]; exact hz,?_,by omega⟩,⟨rfl,by simp,rfl,fun x hx=>hL2 x (List.mem_cons_of_mem _ hx),hcs.2,by omega⟩,by simp,rfl,fun x hx=>?_,fun w hw=>?_,hy.1,hy.2.2.1,by omega,by omega,by simp,by simp⟩
  ·exact SortP.app.2 ⟨hs1,List.pairwise_singleton _ _,fun x hx w hw=>by rw [List.mem_singleton.1 hw]; exact qbc (h3 x hx) (h4 z (by simp))⟩
  ·rcases List.mem_append.1 hx with hx | hx
   ·exact qaw (qbc (h3 x hx) (h4 z (by simp))) hzy
   ·rw [List.mem_singleton.1 hx]; exact hzy
  ·rcases List.mem_cons.1 hw with rfl | hw
   ·exact qax
   ·exact qaP ((List.pairwise_cons.1 (show (y.1::keysP L).Pairwise KLt from hcs.2)).1 w.1 (List.mem_map_of_mem hw))
 | succ h=>
  obtain ⟨es1,hh1,rfl,rfl,rfl,rfl,hk1,hs1,hb1,hp1⟩:=hl
  obtain ⟨es2,hh2,rfl,rfl,rfl,rfl,hk2,hs2,hb2,hp2⟩:=hr
  obtain ⟨a,es,rfl⟩:∃ a es,es1=a::es:=by
   cases es1 with
   | nil=>cases hh1
   | cons b r=>exact ⟨b,r,rfl⟩
  obtain ⟨z,y,es2,rfl⟩:∃ z y es,es2=z::y::es:=by
   have h9:=hmn.2
   match es2,h2 with
   | [],h=>simp at h
   | [_],h=>simp at h; omega
   | z::y::L,_=>exact ⟨z,y,L,rfl⟩
  rw [qtG]
  have hz:=hp2 z (by simp)
  have hyk:=hk2 y (show y∈y::es2 by simp)
  have hz4:∀ w∈z.2.prs,KLe key w.1:=fun w hw=>h4 w (by rw [List.flatMap_cons]; exact List.mem_append_left _ hw)
  have hky:KLt key y.1:=qk2 hs2 hz.1 hz4 y (by simp)
  have hcs:=List.pairwise_cons.1 hs2.pair
  have hcy:=List.pairwise_cons.1 hcs.2
  have hsl:SepE (a::es++[(key,z.2)]):=SepE.app hs1 (qkE hz4) fun x hx w hw=>by
   rw [List.mem_singleton.1 hw]
   exact ⟨qrq hs1 hp1 h3 x hx,fun q hq=>h3 q (List.mem_flatMap.2 ⟨x,hx,hq⟩)⟩
  have hsr:SepE (([],y.2)::es2):=SepE.relow (es:=y::es2) (hs2.sub (List.sublist_cons_self _ _))
  have hml:minOf k v (h+1)=(capsV k v).2 / 2:=rfl
  simp only [List.length_cons] at h1 h2 hb1 hb2
  refine ⟨es.length+2,(a::es).flatMap (·.2.prs)++z.2.prs,(a::es).flatMap (·.2.pages)++z.2.pages,es2.length+1,y.2.prs++es2.flatMap (·.2.prs),y.2.pages++es2.flatMap (·.2.pages),⟨a::es++[(key,z.2)],hh1,rfl,by simp,by simp [List.flatMap_append],by simp [List.flatMap_append],fun c hc=>?_,hsl,by omega,fun c hc=>?_⟩,⟨([],y.2)::es2,rfl,rfl,rfl,rfl,rfl,fun c hc=>hk2 c (show c∈y::es2 from List.mem_cons_of_mem _ hc),hsr,by omega,fun c hc=>?_⟩,?_,?_,fun x hx=>?_,fun w hw=>?_,hyk.1,hyk.2,by omega,by omega,?_,?_⟩
  ·rcases List.mem_append.1 (show c∈es++[(key,z.2)] from hc) with hc | hc
   ·exact hk1 c hc
   ·rw [List.mem_singleton.1 hc]; exact hk
  ·rcases List.mem_append.1 hc with hc | hc
   ·exact hp1 c hc
   ·rw [List.mem_singleton.1 hc]; exact hz
  ·rcases List.mem_cons.1 hc with rfl | hc
   ·exact hp2 y (by simp)
   ·exact hp2 c (by simp [hc])
  ·simp only [List.flatMap_cons,List.append_assoc]
  ·simp only [List.flatMap_cons,List.append_assoc]
  ·rcases List.mem_append.1 hx with hx | hx
   ·exact qaw (h3 x hx) hky
   ·exact (hcs.1 y (by simp)).2 x hx
  ·rcases List.mem_append.1 hw with hw | hw
   ·exact hs2.low y (by simp) w hw
   ·obtain ⟨c,hc,hw⟩:=List.mem_flatMap.1 hw
    exact qbZ (qaP (hcy.1 c hc).1) (hs2.low c (by simp [hc]) w hw)
  ·intro e; exact hz.1.ne (List.append_eq_nil_iff.1 e).2
  ·intro e; exact (hp2 y (by simp)).1.ne (List.append_eq_nil_iff.1 e).1
theorem qtD {h:Nat} {Nl Nr:NodeM} {n1 n2:Nat} {L1 L2:Prs} {R1 R2:List Int} {key:Key} (hl:HasN D M k v h Nl n1 L1 R1) (hr:HasN D M k v h Nr n2 L2 R2) (h1:n1+n2<=(if h=0 then (capsV k v).1 else (capsV k v).2)) (h3:∀ x∈L1,KLt x.1 key) (h4:∀ y∈L2,KLe key y.1) (hk:key.length=k/\IsB key) :
  HasN D M k v h (joinN Nl Nr key) (n1+n2) (L1++L2) (R1++R2):=by
 cases h with
 | zero=>
  obtain ⟨rfl,rfl,rfl,hL1,hs1,hb1⟩:=hl
  obtain ⟨rfl,rfl,rfl,hL2,hs2,hb2⟩:=hr
  rw [qtd]
  exact ⟨rfl,by simp,rfl,fun x hx=>(List.mem_append.1 hx).elim (hL1 x) (hL2 x),SortP.app.2 ⟨hs1,hs2,fun x hx y hy=>qbc (h3 x hx) (h4 y hy)⟩,h1⟩
 | succ h=>
  obtain ⟨es1,hh1,rfl,rfl,rfl,rfl,hk1,hs1,hb1,hp1⟩:=hl
  obtain ⟨es2,hh2,rfl,rfl,rfl,rfl,hk2,hs2,hb2,hp2⟩:=hr
  obtain ⟨a,es,rfl⟩:∃ a es,es1=a::es:=by
   cases es1 with
   | nil=>cases hh1
   | cons b r=>exact ⟨b,r,rfl⟩
  obtain ⟨b,es2,rfl⟩:∃ b es,es2=b::es:=by
   cases es2 with
   | nil=>cases hh2
   | cons b r=>exact ⟨b,r,rfl⟩
  rw [qtH]
  have hb4:∀ y∈b.2.prs,KLe key y.1:=fun y hy=>h4 y (by rw [List.flatMap_cons]; exact List.mem_append_left _ hy)
  have hkb:=qk2 hs2 (hp2 b (by simp)).1 hb4
  refine ⟨a::es++(key,b.2)::es2,hh1,rfl,by simp; omega,by simp [List.flatMap_append],by simp [List.flatMap_append],fun c hc=>?_,SepE.app hs1 (hs2.head hkb hb4) fun x hx y hy=>?_,by simpa using h1,fun c hc=>?_⟩
  ·rcases List.mem_append.1 (show c∈es++(key,b.2)::es2 from hc) with hc | hc
   ·exact hk1 c hc
   rcases List.mem_cons.1 hc with rfl | hc
   ·exact hk
   ·exact hk2 c hc
  ·have hxk:=qrq hs1 hp1 h3 x hx
   have hxp:∀ w∈x.2.prs,KLt w.1 key:=fun w hw=>h3 w (List.mem_flatMap.2 ⟨x,hx,hw⟩)
   rcases List.mem_cons.1 hy with rfl | hy
   ·exact ⟨hxk,hxp⟩
   ·exact ⟨qaw hxk (hkb y hy),fun w hw=>qaw (hxp w hw) (hkb y hy)⟩
  ·rcases List.mem_append.1 hc with hc | hc
   ·exact hp1 c hc
   rcases List.mem_cons.1 hc with rfl | hc
   ·exact hp2 b (by simp)
   ·exact hp2 c (by simp [hc])
end
end
end Go.Proofs.YtmmkegapckbomaaGreatDoor
end
section
set_option linter.unusedVariables false
set_option linter.unusedSimpArgs false
namespace Go.Proofs.YtmmkegapckbomaaGreatDoor
open Go Go.Pt
attribute [local irreducible] ld ldA ldV fld fldA newZ st new idx idxS idxA slc slcS slcP mkS chk nn call callV inv run runQ runU join loop held ext rng undefer s2a nxt ent IntKind.wrap
theorem qjt:∃ i,Tryz.prog.info? 23=some i/\i.zero=some (.slice none 0 0)/\i.size=1/\i.bytes=24:=qeh (by kernel_rfl)
abbrev elSl (s:Sl):Value:=.slice s.a s.len s.cap
abbrev elU (n:Int):Value:=.int .u32 n
theorem qhn {α:Type} (e:α->Value) (l:List α) (i:Nat) (x:α):(l.take i++[x]++l.drop i).map e=(l.map e).take i++[e x]++(l.map e).drop i:=by
 rw [List.map_append,List.map_append,List.map_take,List.map_drop]; rfl
theorem qoO {α:Type} (e:α->Value) (l:List α) (i:Nat):(l.take i++l.drop (i+1)).map e=(l.map e).take i++(l.map e).drop (i+1):=by
 rw [List.map_append,List.map_take,List.map_drop]
theorem qdd {a:Addr} {len cap:Nat} {hi:Int} {size:Nat} {K:Sl->Prop} (n:Nat) (hn:hi=n) (h:n<=cap) (k:K ⟨some a,n,cap⟩):slc ⟨some a,len,cap⟩ none (some hi) none size K:=by
 subst hn
 refine qgR ⟨by omega,by dsimp only; omega⟩ ?_
 rw [Int.toNat_natCast]; exact k
theorem qaJ {b len cap:Nat} {lo:Int} {K:Sl->Prop} (n:Nat) (hn:lo=n) (h1:n<=len) (h2:len<=cap) (h3:n<cap) (k:K ⟨some ⟨b,n,none⟩,len-n,cap-n⟩):slc ⟨some ⟨b,0,none⟩,len,cap⟩ (some lo) none none 1 K:=by
 subst hn
 refine qi7 (by omega) (by omega) h2 (by omega) ?_
 rw [Int.toNat_natCast,Nat.mul_one,Nat.zero_add]; exact k
theorem qqz {s:Sl} {lo hi mx:Int} {size:Nat} {K:Sl->Prop} (h:0<=lo/\lo<=hi/\hi<=mx/\mx<=s.cap) (k:∀ s',K s'):slc s (some lo) (some hi) (some mx) size K:=by
 unfold slc
 exact ⟨by simpa using h,k _⟩
theorem qbY {α:Type} {e:α->Value} {w:World} {b:Nat} {cs:Array Value} {T:TypeId} {fr:Nat×Nat} {l:List α} (hb:w.heap[b]?=some (.cells cs T fr)) (hl:cs.toList.take l.length=l.map e) (i:Nat):∀ (j:Nat) u,((l.map e).drop i)[j]?=some u->w.cell? (Addr.add ⟨b,i,none⟩ j)=some u:=fun j u hj=>by
 rw [Addr.add_mk,qai hb]
 rw [List.getElem?_drop] at hj
 have hlt:=(List.getElem?_eq_some_iff.1 hj).1
 rw [List.length_map] at hlt
 rw [<- hl,List.getElem?_take,if_pos hlt] at hj
 simpa using hj
theorem qib {α:Type} {e:α->Value} {cs:Array Value} {l:List α} (hl:cs.toList.take l.length=l.map e) {i:Nat} (hi:i<=l.length):cs.toList.take i=(l.map e).take i:=by
 rw [<- hl,List.take_take,Nat.min_eq_left hi]
theorem qhf {α:Type} {enc:α->List Value} {e:α->Value} (he:∀ x,enc x=[e x]) {cs:Array Value} {l:List α} (h:cs.toList.take l.length=l.flatMap enc):cs.toList.take l.length=l.map e:=by rw [h,qcs he]
theorem qqa {w:World} {s:Sl} {l:List Sl} {B:List Nat} {i:Nat} {ii:Int} {x:Sl} {vb:Nat} {T':TypeId} {K:Sl->World->Prop} (h:Buf encSl 1 w s l B) (hi:i<=l.length) (he:ii=i) (hl:l.length<=100000) (hv:w.heap[vb]?=some (.cells #[elSl x] T' (0,0))) (hvB:vb∉B)
  (kk:∀ s' B' w',Buf encSl 1 w' s' (insAt l i x) B'->Fr B w w'->(∀ b∈B',b∈B\/w.heap.size<=b)->K s' w') :
  call Tryz.prog 138 [.slice s.a s.len s.cap,.int .i64 ii,.slice (some ⟨vb,0,none⟩) 1 1] [.one .slice] w K:=by
 obtain ⟨inf,hi1,hz,hsz,hby⟩:=qjt
 refine qhz (s:=s) (i:=ii) (v:=⟨some ⟨vb,0,none⟩,1,1⟩) ?_
 unfold qd6
 subst he
 have hlen:=h.len
 have hvc:∀ w',Fr B w w'->∀ (j:Nat) u,([elSl x]:List Value)[j]?=some u->w'.cell? (Addr.add ⟨vb,0,none⟩ j)=some u:=fun w' f j u hj=>by
  rw [Addr.add_mk,qai (by rw [f.block vb (qac hv) hvB]; exact hv),Nat.zero_add]
  simpa using hj
 refine Rds.part (S:=[]) (Buf.rds (enc:=encSl) (k:=1) (fun _=>rfl) h (fun _ _ h=>nomatch h)) (lo:=some (i:Int)) (hi:=none) i l.length rfl (by rw [Option.getD_none,hlen]) hi (Nat.le_refl _) fun s1 _ _ _=>?_
 refine cond_false rfl ?_
 refine qab (fun hc=>?_) (fun hc=>?_)
 ·have hil:i=l.length:=by have:=beq_iff_eq.1 hc; omega
  have hone:Src Tryz.prog 1 22 (.slice (some ⟨vb,0,none⟩) 1 1) 1 ([x].flatMap encSl) w:=.ofSlice w (e':=23) (by kernel_rfl) _ 1 1 _ rfl (hvc w (.refl _ _)) (fun u hu=>by
   rw [List.flatMap_cons,List.flatMap_nil,List.append_nil] at hu
   rw [List.mem_singleton.1 hu]; rfl)
  refine Buf.appSrc (ys:=[x]) (e:=23) h (fun _=>rfl) (by kernel_rfl) hi1 hz hsz rfl hone rfl (by rw [hby]; omega) (by omega) fun s' B' w' b' f' n' _=>kk s' B' w' ?_ f' n'
  have e:insAt l i x=l++[x]:=by unfold insAt; rw [hil,List.take_length,List.drop_length,List.append_nil]
  rw [e]; exact b'
 have hil:i<l.length:=by
  have:=(beq_eq_false_iff_ne.1 hc)
  omega
 have hne:l≠[]:=fun e=>by rw [e] at hil; exact absurd hil (Nat.not_lt_zero _)
 obtain ⟨b,cs,T,rfl,ha,hb,hn,hcap,hcs,hM0⟩:=h.ptr hne
 have hM:=qhf (e:=elSl) (fun _=>rfl) hM0
 obtain ⟨sa,sn,sc⟩:=s
 dsimp only at ha hn hcap hcs
 subst ha hn
 have hbv:vb≠b:=by simpa using hvB
 have hml:(l.map elSl).length=l.length:=List.length_map ..
 have one:∀ v∈(l.map elSl).drop i,Value.oneCell' v=true:=fun v hv'=>by
  obtain ⟨y,_,rfl⟩:=List.mem_map.1 (List.mem_of_mem_drop hv')
  rfl
 have hdl:((l.map elSl).drop i).length=l.length-i:=by rw [List.length_drop,hml]
 have hw1:IntKind.wrap .i64 ((l.length:Int)+1)=((l.length+1:Nat):Int):=by rw [wi' _ (by omega)]; rfl
 have hw3:IntKind.wrap .i64 ((i:Int)+1)=((i+1:Nat):Int):=by rw [wi' _ (by omega)]; rfl
 have hw2:IntKind.wrap .i64 (((l.length+1:Nat):Int)-(i:Int))=((l.length+1-i:Nat):Int):=by rw [wi' _ (by omega)]; omega
 refine qab (fun hc=>?_) (fun hc=>?_)
 ·have hg:sc<l.length+1:=by
   have:=of_decide_eq_true hc
   dsimp only at this
   rw [show (((1:Nat):Int))=1 from rfl,hw1] at this
   omega
  refine qdd i rfl (by omega) ?_
  dsimp only
  rw [show (((1:Nat):Int))=1 from rfl,hw1,hw2,hw3]
  have hik:i+(l.length+1-i)=l.length+1:=by omega
  refine qiV (e:=23) (i:=inf) (kn:=.i64) (olds:=(l.map elSl).take i) (by kernel_rfl) (by kernel_rfl) hi1 hz hsz rfl (by rw [List.length_take,hml]; omega) (fun h=>nomatch h) (fun a ha j u hj=>?_) (by omega) (by omega) (by rw [hik,hby]; omega) (by omega) fun b2 cs2 c w2 e2 hb2 f2 h2c h2s h2t=>?_
  ·cases ha
   have hj':=qbY hb hM 0 j u
   rw [List.drop_zero] at hj'
   rw [List.getElem?_take] at hj
   split at hj
   ·exact hj' hj
   ·cases hj
  rw [hik] at h2c ⊢
  have hbl:=qac hb
  have f2b:Fr [b2] w w2:=f2.mono fun _ h _=>nomatch h
  refine qaJ i rfl (by omega) h2c (by omega) ?_
  refine qcG (vs:=[elSl x]) (src:=⟨some ⟨vb,0,none⟩,1,1⟩) hb2 (el:=23) (by kernel_rfl) (by kernel_rfl) ?_ (fun _=>⟨_,rfl,hvc w2 (f2.mono fun _ h _=>nomatch h)⟩) (fun v hv'=>by rw [List.mem_singleton.1 hv']; rfl) (by simp; omega) fun w3 hb3 f3=>?_
  ·show 1=min 1 (l.length+1-i); omega
  refine qaJ (i+1) rfl (by omega) h2c (by omega) ?_
  refine qaJ i rfl (by omega) (by omega) (by omega) ?_
  have hb0:w3.heap[b]?=some (.cells cs T (0,0)):=by
   rw [f3.block b (Nat.lt_of_lt_of_le hbl f2.size) (by simp; omega),f2.block b hbl (fun h=>nomatch h)]; exact hb
  refine qcG (w:=w3.drew) (vs:=(l.map elSl).drop i) (src:=⟨some ⟨b,i,none⟩,l.length-i,sc-i⟩) hb3 (el:=23) (by kernel_rfl) (by kernel_rfl) ?_ (fun _=>⟨_,rfl,qbY (w:=w3.drew) hb0 hM i⟩) one (by rw [qan,hdl]; omega) fun w4 hb4 f4=>?_
  ·rw [hdl]; show l.length-i=min (l.length-i) (l.length+1-(i+1)); omega
  have hfin:=qqM (cs:=cs2) (M:=l.map elSl) (i:=i) (v:=elSl x) (by rw [hml]; omega) (by rw [hml]; omega) h2t
  have hlins:(insAt l i x).length=l.length+1:=by unfold insAt; simp; omega
  refine kk _ [b2] w4 (Buf.one (e:=elSl) (fun _=>rfl) hb4 hlins.symm h2c (by rw [qan,qan]; exact h2s) ?_) ?_ (fun b' hb'=>?_)
  ·rw [hlins]
   rw [hml] at hfin
   rw [hfin]
   exact (qhn elSl l i x).symm
  ·refine Fr.trans' (S:=[b]) (T:=[b2]) (f2.mono fun _ h _=>nomatch h) (f3.drew.trans f4) fun i hi=>.inr ?_
   rw [List.mem_singleton.1 hi,e2]; exact Nat.le_refl _
  ·rw [List.mem_singleton.1 hb',e2]; exact .inr (Nat.le_refl _)
 ·have hg:l.length+1<=sc:=by
   have:=of_decide_eq_false hc
   dsimp only at this
   rw [show (((1:Nat):Int))=1 from rfl,hw1] at this
   omega
  dsimp only
  rw [show (((1:Nat):Int))=1 from rfl,hw1,hw3]
  refine qdd (l.length+1) rfl hg ?_
  refine qaJ (i+1) rfl (by omega) hg (by omega) ?_
  refine qjP (e:=Extern.SlicesOverlaps.overlaps #[22,22] #[4]) Tryz.func172 (by kernel_rfl) (by kernel_rfl) (by kernel_rfl) (by kernel_rfl) false w (qkn (by kernel_rfl) hi1 hv hb hbv (by omega)) ?_
  refine cond_true rfl ?_
  refine qaJ (i+1) rfl (by omega) hg (by omega) ?_
  refine qaJ i rfl (by omega) hg (by omega) ?_
  refine qcG (w:=w.drew) (vs:=(l.map elSl).drop i) (src:=⟨some ⟨b,i,none⟩,l.length+1-i,sc-i⟩) hb (el:=23) (by kernel_rfl) (by kernel_rfl) ?_ (fun _=>⟨_,rfl,qbY (w:=w.drew) hb hM i⟩) one (by rw [hdl]; omega) fun w2 hb2 f2=>?_
  ·rw [hdl]; show l.length-i=min (l.length+1-i) (l.length+1-(i+1)); omega
  refine qaJ i rfl (by omega) hg (by omega) ?_
  refine qcG (vs:=[elSl x]) (src:=⟨some ⟨vb,0,none⟩,1,1⟩) hb2 (el:=23) (by kernel_rfl) (by kernel_rfl) ?_ (fun _=>⟨_,rfl,hvc w2 ((Fr.refl [b] w).drew.trans f2)⟩) (fun v hv'=>by rw [List.mem_singleton.1 hv']; rfl) (by rw [qan]; simp; omega) fun w3 hb3 f3=>?_
  ·show 1=min 1 (l.length+1-i); omega
  have hfin:=qqR (cs:=cs) (M:=l.map elSl) (i:=i) (v:=elSl x) (by rw [hml]; omega) (by rw [hml]; omega) (qib hM (by omega))
  have hlins:(insAt l i x).length=l.length+1:=by unfold insAt; simp; omega
  refine kk _ [b] w3 (Buf.one (e:=elSl) (fun _=>rfl) hb3 hlins.symm hg (by rw [qan,qan]; exact hcs) ?_) (((Fr.refl [b] w).drew.trans f2).trans f3) (fun b' hb'=>.inl hb')
  rw [hlins]
  rw [hml] at hfin
  rw [hfin]
  exact (qhn elSl l i x).symm
theorem qpX {w:World} {s:Sl} {l:List Sl} {B:List Nat} {i:Nat} {ii jj:Int} {K:Sl->World->Prop} (h:Buf encSl 1 w s l B) (hi:i<l.length) (he:ii=i) (hj:jj=((i+1:Nat):Int)) (hl:l.length<=100000)
  (kk:∀ s' w',Buf encSl 1 w' s' (delAt l i) B->Fr B w w'->K s' w') :
  call Tryz.prog 141 [.slice s.a s.len s.cap,.int .i64 ii,.int .i64 jj] [.one .slice] w K:=by
 obtain ⟨inf,hi1,hz,hsz,hby⟩:=qjt
 refine qhF (s:=s) (i:=ii) (j:=jj) ?_
 unfold qdR
 subst he hj
 have hne:l≠[]:=fun e=>by rw [e] at hi; exact absurd hi (Nat.not_lt_zero _)
 obtain ⟨b,cs,T,rfl,ha,hb,hn,hcap,hcs,hM0⟩:=h.ptr hne
 have hM:=qhf (e:=elSl) (fun _=>rfl) hM0
 obtain ⟨sa,sn,sc⟩:=s
 dsimp only at ha hn hcap hcs
 subst ha hn
 have hml:(l.map elSl).length=l.length:=List.length_map ..
 have one:∀ v∈(l.map elSl).drop (i+1),Value.oneCell' v=true:=fun v hv'=>by
  obtain ⟨y,_,rfl⟩:=List.mem_map.1 (List.mem_of_mem_drop hv')
  rfl
 have hdl:((l.map elSl).drop (i+1)).length=l.length-(i+1):=by rw [List.length_drop,hml]
 refine qqz (by dsimp only; omega) fun _=>?_
 refine cond_false (beq_eq_false_iff_ne.2 (by omega)) ?_
 refine qdd i rfl (by omega) ?_
 have fin:∀ w5,w5.heap[b]?=some (.cells (splice cs i ((l.map elSl).drop (i+1))) T (0,0))->Fr [b] w w5->slc ⟨some ⟨b,0,none⟩,l.length-1,sc⟩ (some (((l.length-1:Nat)):Int)) (some ((l.length:Nat):Int)) none 1 fun (s_6:Sl)=>
  run [] ((Builtin.clear_ #[22] 0 (#[Value.slice s_6.a s_6.len s_6.cap])).run Tryz.prog w5)<|
  fun (x_7:PUnit) (w_8:World)=>
  K ⟨some ⟨b,0,none⟩,l.length-1,sc⟩ w_8:=fun w5 hb5 f5=>by
  refine qhq (by omega) (by omega) (by omega) (by omega) ?_
  rw [Int.toNat_natCast,Int.toNat_natCast,Nat.mul_one,Nat.zero_add]
  have h1:l.length-(l.length-1)=1:=by omega
  rw [h1]
  dsimp only
  refine qpc (e:=23) (z:=(Value.slice none 0 0)) hb5 (by kernel_rfl) (by kernel_rfl) rfl rfl (by omega) (by rw [qan]; omega) fun w6 hb6 f6=>?_
  have hfin:=qq1 (cs:=cs) (M:=l.map elSl) (i:=i) (z:=(Value.slice none 0 0)) (by rw [hml]; omega) (by rw [hml]; exact hM)
  have hld:(delAt l i).length=l.length-1:=by unfold delAt; simp; omega
  refine kk _ w6 (Buf.one (e:=elSl) (fun _=>rfl) hb6 hld.symm (by omega) (by rw [qan,qan]; exact hcs) ?_) (f5.trans f6)
  rw [hld]
  rw [hml] at hfin
  rw [show List.replicate 1 ((Value.slice none 0 0))=[(Value.slice none 0 0)] from rfl,hfin]
  exact (qoO elSl l i).symm
 refine Rds.part (S:=[]) (Buf.rds (enc:=encSl) (k:=1) (fun _=>rfl) h (fun _ _ h=>nomatch h)) (lo:=some ((i+1:Nat):Int)) (hi:=none) (i+1) l.length rfl rfl (by omega) (Nat.le_refl _) fun s3 h3l h3 h3n=>?_
 have hsrc:Src Tryz.prog 1 22 (.slice s3.a s3.len s3.cap) s3.len ((l.map elSl).drop (i+1)) w.drew:=by
  have:=qdc (P:=Tryz.prog) (tx:=22) (e':=23) (h3.same (Same.refl w).drew) (fun _=>rfl) (fun x u hu=>by rw [List.mem_singleton.1 hu]; rfl) (by kernel_rfl)
  rw [qcs (enc:=encSl) (e:=elSl) (fun _=>rfl),List.take_length,List.map_drop] at this
  exact this
 dsimp only
 refine qoY (w:=w.drew) (e:=23) hb (by kernel_rfl) hi1 hsz hsrc (by rw [h3l]; omega) hcs fun w5 hb5 f5=>?_
 have e:i+s3.len=l.length-1:=by rw [h3l]; omega
 rw [e]
 exact fin w5 hb5 ((Fr.refl [b] w).drew.trans f5)
theorem qqs {w:World} {s:Sl} {l:List Int} {B:List Nat} {i:Nat} {ii:Int} {x:Int} {vb:Nat} {T':TypeId} {K:Sl->World->Prop} (h:Buf encU 1 w s l B) (hi:i<=l.length) (he:ii=i) (hl:l.length<=100000) (hv:w.heap[vb]?=some (.cells #[elU x] T' (0,0))) (hvB:vb∉B)
  (kk:∀ s' B' w',Buf encU 1 w' s' (insAt l i x) B'->Fr B w w'->(∀ b∈B',b∈B\/w.heap.size<=b)->K s' w') :
  call Tryz.prog 140 [.slice s.a s.len s.cap,.int .i64 ii,.slice (some ⟨vb,0,none⟩) 1 1] [.one .slice] w K:=by
 obtain ⟨inf,hi1,hz,hsz,hby⟩:=qdq
 refine qhQ (s:=s) (i:=ii) (v:=⟨some ⟨vb,0,none⟩,1,1⟩) ?_
 unfold qdD
 subst he
 have hlen:=h.len
 have hvc:∀ w',Fr B w w'->∀ (j:Nat) u,([elU x]:List Value)[j]?=some u->w'.cell? (Addr.add ⟨vb,0,none⟩ j)=some u:=fun w' f j u hj=>by
  rw [Addr.add_mk,qai (by rw [f.block vb (qac hv) hvB]; exact hv),Nat.zero_add]
  simpa using hj
 refine Rds.part (S:=[]) (Buf.rds (enc:=encU) (k:=1) (fun _=>rfl) h (fun _ _ h=>nomatch h)) (lo:=some (i:Int)) (hi:=none) i l.length rfl (by rw [Option.getD_none,hlen]) hi (Nat.le_refl _) fun s1 _ _ _=>?_
 refine cond_false rfl ?_
 refine qab (fun hc=>?_) (fun hc=>?_)
 ·have hil:i=l.length:=by have:=beq_iff_eq.1 hc; omega
  have hone:Src Tryz.prog 1 92 (.slice (some ⟨vb,0,none⟩) 1 1) 1 ([x].flatMap encU) w:=.ofSlice w (e':=37) (by kernel_rfl) _ 1 1 _ rfl (hvc w (.refl _ _)) (fun u hu=>by
   rw [List.flatMap_cons,List.flatMap_nil,List.append_nil] at hu
   rw [List.mem_singleton.1 hu]; rfl)
  refine Buf.appSrc (ys:=[x]) (e:=37) h (fun _=>rfl) (by kernel_rfl) hi1 hz hsz rfl hone rfl (by rw [hby]; omega) (by omega) fun s' B' w' b' f' n' _=>kk s' B' w' ?_ f' n'
  have e:insAt l i x=l++[x]:=by unfold insAt; rw [hil,List.take_length,List.drop_length,List.append_nil]
  rw [e]; exact b'
 have hil:i<l.length:=by
  have:=(beq_eq_false_iff_ne.1 hc)
  omega
 have hne:l≠[]:=fun e=>by rw [e] at hil; exact absurd hil (Nat.not_lt_zero _)
 obtain ⟨b,cs,T,rfl,ha,hb,hn,hcap,hcs,hM0⟩:=h.ptr hne
 have hM:=qhf (e:=elU) (fun _=>rfl) hM0
 obtain ⟨sa,sn,sc⟩:=s
 dsimp only at ha hn hcap hcs
 subst ha hn
 have hbv:vb≠b:=by simpa using hvB
 have hml:(l.map elU).length=l.length:=List.length_map ..
 have one:∀ v∈(l.map elU).drop i,Value.oneCell' v=true:=fun v hv'=>by
  obtain ⟨y,_,rfl⟩:=List.mem_map.1 (List.mem_of_mem_drop hv')
  rfl
 have hdl:((l.map elU).drop i).length=l.length-i:=by rw [List.length_drop,hml]
 have hw1:IntKind.wrap .i64 ((l.length:Int)+1)=((l.length+1:Nat):Int):=by rw [wi' _ (by omega)]; rfl
 have hw3:IntKind.wrap .i64 ((i:Int)+1)=((i+1:Nat):Int):=by rw [wi' _ (by omega)]; rfl
 have hw2:IntKind.wrap .i64 (((l.length+1:Nat):Int)-(i:Int))=((l.length+1-i:Nat):Int):=by rw [wi' _ (by omega)]; omega
 refine qab (fun hc=>?_) (fun hc=>?_)
 ·have hg:sc<l.length+1:=by
   have:=of_decide_eq_true hc
   dsimp only at this
   rw [show (((1:Nat):Int))=1 from rfl,hw1] at this
   omega
  refine qdd i rfl (by omega) ?_
  dsimp only
  rw [show (((1:Nat):Int))=1 from rfl,hw1,hw2,hw3]
  have hik:i+(l.length+1-i)=l.length+1:=by omega
  refine qiV (e:=37) (i:=inf) (kn:=.i64) (olds:=(l.map elU).take i) (by kernel_rfl) (by kernel_rfl) hi1 hz hsz rfl (by rw [List.length_take,hml]; omega) (fun h=>nomatch h) (fun a ha j u hj=>?_) (by omega) (by omega) (by rw [hik,hby]; omega) (by omega) fun b2 cs2 c w2 e2 hb2 f2 h2c h2s h2t=>?_
  ·cases ha
   have hj':=qbY hb hM 0 j u
   rw [List.drop_zero] at hj'
   rw [List.getElem?_take] at hj
   split at hj
   ·exact hj' hj
   ·cases hj
  rw [hik] at h2c ⊢
  have hbl:=qac hb
  have f2b:Fr [b2] w w2:=f2.mono fun _ h _=>nomatch h
  refine qaJ i rfl (by omega) h2c (by omega) ?_
  refine qcG (vs:=[elU x]) (src:=⟨some ⟨vb,0,none⟩,1,1⟩) hb2 (el:=37) (by kernel_rfl) (by kernel_rfl) ?_ (fun _=>⟨_,rfl,hvc w2 (f2.mono fun _ h _=>nomatch h)⟩) (fun v hv'=>by rw [List.mem_singleton.1 hv']; rfl) (by simp; omega) fun w3 hb3 f3=>?_
  ·show 1=min 1 (l.length+1-i); omega
  refine qaJ (i+1) rfl (by omega) h2c (by omega) ?_
  refine qaJ i rfl (by omega) (by omega) (by omega) ?_
  have hb0:w3.heap[b]?=some (.cells cs T (0,0)):=by
   rw [f3.block b (Nat.lt_of_lt_of_le hbl f2.size) (by simp; omega),f2.block b hbl (fun h=>nomatch h)]; exact hb
  refine qcG (w:=w3.drew) (vs:=(l.map elU).drop i) (src:=⟨some ⟨b,i,none⟩,l.length-i,sc-i⟩) hb3 (el:=37) (by kernel_rfl) (by kernel_rfl) ?_ (fun _=>⟨_,rfl,qbY (w:=w3.drew) hb0 hM i⟩) one (by rw [qan,hdl]; omega) fun w4 hb4 f4=>?_
  ·rw [hdl]; show l.length-i=min (l.length-i) (l.length+1-(i+1)); omega
  have hfin:=qqM (cs:=cs2) (M:=l.map elU) (i:=i) (v:=elU x) (by rw [hml]; omega) (by rw [hml]; omega) h2t
  have hlins:(insAt l i x).length=l.length+1:=by unfold insAt; simp; omega
  refine kk _ [b2] w4 (Buf.one (e:=elU) (fun _=>rfl) hb4 hlins.symm h2c (by rw [qan,qan]; exact h2s) ?_) ?_ (fun b' hb'=>?_)
  ·rw [hlins]
   rw [hml] at hfin
   rw [hfin]
   exact (qhn elU l i x).symm
  ·refine Fr.trans' (S:=[b]) (T:=[b2]) (f2.mono fun _ h _=>nomatch h) (f3.drew.trans f4) fun i hi=>.inr ?_
   rw [List.mem_singleton.1 hi,e2]; exact Nat.le_refl _
  ·rw [List.mem_singleton.1 hb',e2]; exact .inr (Nat.le_refl _)
 ·have hg:l.length+1<=sc:=by
   have:=of_decide_eq_false hc
   dsimp only at this
   rw [show (((1:Nat):Int))=1 from rfl,hw1] at this
   omega
  dsimp only
  rw [show (((1:Nat):Int))=1 from rfl,hw1,hw3]
  refine qdd (l.length+1) rfl hg ?_
  refine qaJ (i+1) rfl (by omega) hg (by omega) ?_
  refine qjP (e:=Extern.SlicesOverlaps.overlaps #[92,92] #[4]) Tryz.func176 (by kernel_rfl) (by kernel_rfl) (by kernel_rfl) (by kernel_rfl) false w (qkn (by kernel_rfl) hi1 hv hb hbv (by omega)) ?_
  refine cond_true rfl ?_
  refine qaJ (i+1) rfl (by omega) hg (by omega) ?_
  refine qaJ i rfl (by omega) hg (by omega) ?_
  refine qcG (w:=w.drew) (vs:=(l.map elU).drop i) (src:=⟨some ⟨b,i,none⟩,l.length+1-i,sc-i⟩) hb (el:=37) (by kernel_rfl) (by kernel_rfl) ?_ (fun _=>⟨_,rfl,qbY (w:=w.drew) hb hM i⟩) one (by rw [hdl]; omega) fun w2 hb2 f2=>?_
  ·rw [hdl]; show l.length-i=min (l.length+1-i) (l.length+1-(i+1)); omega
  refine qaJ i rfl (by omega) hg (by omega) ?_
  refine qcG (vs:=[elU x]) (src:=⟨some ⟨vb,0,none⟩,1,1⟩) hb2 (el:=37) (by kernel_rfl) (by kernel_rfl) ?_ (fun _=>⟨_,rfl,hvc w2 ((Fr.refl [b] w).drew.trans f2)⟩) (fun v hv'=>by rw [List.mem_singleton.1 hv']; rfl) (by rw [qan]; simp; omega) fun w3 hb3 f3=>?_
  ·show 1=min 1 (l.length+1-i); omega
  have hfin:=qqR (cs:=cs) (M:=l.map elU) (i:=i) (v:=elU x) (by rw [hml]; omega) (by rw [hml]; omega) (qib hM (by omega))
  have hlins:(insAt l i x).length=l.length+1:=by unfold insAt; simp; omega
  refine kk _ [b] w3 (Buf.one (e:=elU) (fun _=>rfl) hb3 hlins.symm hg (by rw [qan,qan]; exact hcs) ?_) (((Fr.refl [b] w).drew.trans f2).trans f3) (fun b' hb'=>.inl hb')
  rw [hlins]
  rw [hml] at hfin
  rw [hfin]
  exact (qhn elU l i x).symm
theorem qpm {w:World} {s:Sl} {l:List Int} {B:List Nat} {i:Nat} {ii jj:Int} {K:Sl->World->Prop} (h:Buf encU 1 w s l B) (hi:i<l.length) (he:ii=i) (hj:jj=((i+1:Nat):Int)) (hl:l.length<=100000)
  (kk:∀ s' w',Buf encU 1 w' s' (delAt l i) B->Fr B w w'->K s' w') :
  call Tryz.prog 214 [.slice s.a s.len s.cap,.int .i64 ii,.int .i64 jj] [.one .slice] w K:=by
 obtain ⟨inf,hi1,hz,hsz,hby⟩:=qdq
 refine qhP (s:=s) (i:=ii) (j:=jj) ?_
 unfold qdX
 subst he hj
 have hne:l≠[]:=fun e=>by rw [e] at hi; exact absurd hi (Nat.not_lt_zero _)
 obtain ⟨b,cs,T,rfl,ha,hb,hn,hcap,hcs,hM0⟩:=h.ptr hne
 have hM:=qhf (e:=elU) (fun _=>rfl) hM0
 obtain ⟨sa,sn,sc⟩:=s
 dsimp only at ha hn hcap hcs
 subst ha hn
 have hml:(l.map elU).length=l.length:=List.length_map ..
 have one:∀ v∈(l.map elU).drop (i+1),Value.oneCell' v=true:=fun v hv'=>by
  obtain ⟨y,_,rfl⟩:=List.mem_map.1 (List.mem_of_mem_drop hv')
  rfl
 have hdl:((l.map elU).drop (i+1)).length=l.length-(i+1):=by rw [List.length_drop,hml]
 refine qqz (by dsimp only; omega) fun _=>?_
 refine cond_false (beq_eq_false_iff_ne.2 (by omega)) ?_
 refine qdd i rfl (by omega) ?_
 have fin:∀ w5,w5.heap[b]?=some (.cells (splice cs i ((l.map elU).drop (i+1))) T (0,0))->Fr [b] w w5->slc ⟨some ⟨b,0,none⟩,l.length-1,sc⟩ (some (((l.length-1:Nat)):Int)) (some ((l.length:Nat):Int)) none 1 fun (s_6:Sl)=>
  run [] ((Builtin.clear_ #[92] 0 (#[Value.slice s_6.a s_6.len s_6.cap])).run Tryz.prog w5)<|
  fun (x_7:PUnit) (w_8:World)=>
  K ⟨some ⟨b,0,none⟩,l.length-1,sc⟩ w_8:=fun w5 hb5 f5=>by
  refine qhq (by omega) (by omega) (by omega) (by omega) ?_
  rw [Int.toNat_natCast,Int.toNat_natCast,Nat.mul_one,Nat.zero_add]
  have h1:l.length-(l.length-1)=1:=by omega
  rw [h1]
  dsimp only
  refine qpc (e:=37) (z:=(Value.int .u32 0)) hb5 (by kernel_rfl) (by kernel_rfl) rfl rfl (by omega) (by rw [qan]; omega) fun w6 hb6 f6=>?_
  have hfin:=qq1 (cs:=cs) (M:=l.map elU) (i:=i) (z:=(Value.int .u32 0)) (by rw [hml]; omega) (by rw [hml]; exact hM)
  have hld:(delAt l i).length=l.length-1:=by unfold delAt; simp; omega
  refine kk _ w6 (Buf.one (e:=elU) (fun _=>rfl) hb6 hld.symm (by omega) (by rw [qan,qan]; exact hcs) ?_) (f5.trans f6)
  rw [hld]
  rw [hml] at hfin
  rw [show List.replicate 1 ((Value.int .u32 0))=[(Value.int .u32 0)] from rfl,hfin]
  exact (qoO elU l i).symm
 refine Rds.part (S:=[]) (Buf.rds (enc:=encU) (k:=1) (fun _=>rfl) h (fun _ _ h=>nomatch h)) (lo:=some ((i+1:Nat):Int)) (hi:=none) (i+1) l.length rfl rfl (by omega) (Nat.le_refl _) fun s3 h3l h3 h3n=>?_
 have hsrc:Src Tryz.prog 1 92 (.slice s3.a s3.len s3.cap) s3.len ((l.map elU).drop (i+1)) w.drew:=by
  have:=qdc (P:=Tryz.prog) (tx:=92) (e':=37) (h3.same (Same.refl w).drew) (fun _=>rfl) (fun x u hu=>by rw [List.mem_singleton.1 hu]; rfl) (by kernel_rfl)
  rw [qcs (enc:=encU) (e:=elU) (fun _=>rfl),List.take_length,List.map_drop] at this
  exact this
 dsimp only
 refine qoY (w:=w.drew) (e:=37) hb (by kernel_rfl) hi1 hsz hsrc (by rw [h3l]; omega) hcs fun w5 hb5 f5=>?_
 have e:i+s3.len=l.length-1:=by rw [h3l]; omega
 rw [e]
 exact fin w5 hb5 ((Fr.refl [b] w).drew.trans f5)
end Go.Proofs.YtmmkegapckbomaaGreatDoor
end
section
set_option linter.unusedVariables false
namespace Go.Proofs.YtmmkegapckbomaaGreatDoor
open Go Go.Pt
def shp (t:Int):Int×Int:=
 if t=0 then (16,88) else if t=1 then (16,108) else if t=2 then (16,1) else if t=3 then (16,16)
 else if t=4 then (24,16) else if t=5 then (24,16) else if t=6 then (24,65) else if t=7 then (1,8) else (0,0)
theorem qlE (t:Int):t=0\/t=1\/t=2\/t=3\/t=4\/t=5\/t=6\/t=7\/(t≠0/\t≠1/\t≠2/\t≠3/\t≠4/\t≠5/\t≠6/\t≠7):=by omega
theorem qmA {t:Int} {w:World} {K:Int×Int->World->Prop} (h:K (shp t) w):call Tryz.prog 63 [.int .i64 t] [.one (.int .i64),.one (.int .i64)] w K:=by
 apply qma
 unfold qiy
 rcases qlE t with rfl | rfl | rfl | rfl | rfl | rfl | rfl | rfl | ⟨h0,h1,h2,h3,h4,h5,h6,h7⟩ <;> simpa [shp, *] using h
theorem qgp {t:Int} {w:World} {K:Int×Int->World->Prop} (h:K (shp t) w):call Tryz.prog 15 [.int .i64 t] [.one (.int .i64),.one (.int .i64)] w K:=by
 apply qed
 unfold qcj
 rcases qlE t with rfl | rfl | rfl | rfl | rfl | rfl | rfl | rfl | ⟨h0,h1,h2,h3,h4,h5,h6,h7⟩ <;> simpa [shp, *] using h
def caps (k v:Int):Int×Int:=if k<1\/k>24\/v<0\/v>108 then (0,0) else (498 / (k+v),(498+k) / (4+k))
theorem qpa {k v:Int} {w:World} {K:Int×Int->World->Prop} (h:∀ w',Same w w'->K (caps k v) w'):call Tryz.prog 64 [.int .i64 k,.int .i64 v] [.one (.int .i64),.one (.int .i64)] w K:=by
 apply qmR
 unfold qjm
 by_cases hc:k<1\/k>24\/v<0\/v>108
 ·refine qa3 true w (fun M hM=>?_) ?_
  ·by_cases h1:k<1
   ·simpa [h1] using hM
   by_cases h2:k>24
   ·simpa [h1,h2] using hM
   by_cases h3:v<0
   ·simpa [h1,h2,h3] using hM
   have h4:v>108:=by omega
   simpa [h1,h2,h3,h4] using hM
  ·have:=h w (.refl w)
   simpa [caps,hc] using this
 ·refine qa3 false w (fun M hM=>?_) ?_
  ·simpa [show ¬ k<1 by omega,show ¬ k>24 by omega,show ¬ v<0 by omega,show ¬ v>108 by omega] using hM
  ·have:=h w.drew (Same.refl w).drew
   simp only [caps,hc,if_false] at this
   have e1:IntKind.i64.wrap (k+v)=k+v:=IntWalk.i64_in _ (by omega)
   have e2:IntKind.i64.wrap (4+k)=4+k:=IntWalk.i64_in _ (by omega)
   have e3:IntKind.i64.wrap (498+k)=498+k:=IntWalk.i64_in _ (by omega)
   have p1:0<k+v:=by omega
   have p2:0<4+k:=by omega
   have d1:(498:Int).tdiv (k+v)=498 / (k+v):=Int.tdiv_eq_ediv_of_nonneg (by omega)
   have d2:(498+k).tdiv (4+k)=(498+k) / (4+k):=Int.tdiv_eq_ediv_of_nonneg (by omega)
   have b1:498 / (k+v)<=498:=Int.ediv_le_self _ (by omega)
   have b2:(498+k) / (4+k)<=498+k:=Int.ediv_le_self _ (by omega)
   have b3:0<=498 / (k+v):=Int.ediv_nonneg (by omega) (by omega)
   have b4:0<=(498+k) / (4+k):=Int.ediv_nonneg (by omega) (by omega)
   rw [e1,e2,e3,d1,d2,IntWalk.i64_in _ ⟨by omega,by omega⟩,IntWalk.i64_in _ ⟨by omega,by omega⟩]
   exact ⟨by omega,by omega,this⟩
def IsH (a b n:Nat) (k:Nat):Prop:=n<a*b^k/\∀ j,j<k->a*b^j<=n
theorem IsH.unique {a b n k l:Nat} (h:IsH a b n k) (h':IsH a b n l):k=l:=by
 rcases Nat.lt_trichotomy k l with hlt | he | hlt
 ·have:=h'.2 k hlt; have:=h.1; omega
 ·exact he
 ·have:=h.2 l hlt; have:=h'.1; omega
theorem quc {b:Nat} (hb:2<=b) (k:Nat):2^k<=b^k:=Nat.pow_le_pow_left hb k
def halfs (t:Int):Nat×Nat:=
 if t=0 then (4,12) else if t=1 then (4,12) else if t=2 then (28,12) else if t=3 then (14,12)
 else if t=4 then (12,9) else if t=5 then (12,9) else if t=6 then (4,9) else (54,49)
abbrev good (t:Int):Prop:=0<=t/\t<=7
theorem qeV (t:Int) (h:good t):(shp t).1≠0/\2*((caps (shp t).1 (shp t).2).1 / 2)=(halfs t).1/\(caps (shp t).1 (shp t).2).2 / 2=(halfs t).2/\4<=(halfs t).1/\9<=(halfs t).2/\(halfs t).1<=54/\(halfs t).2<=49/\0<=(caps (shp t).1 (shp t).2).1/\0<=(caps (shp t).1 (shp t).2).2/\(caps (shp t).1 (shp t).2).1<=500/\(caps (shp t).1 (shp t).2).2<=500:=by
 obtain ⟨h0,h1⟩:=h
 have:t=0\/t=1\/t=2\/t=3\/t=4\/t=5\/t=6\/t=7:=by omega
 rcases this with rfl | rfl | rfl | rfl | rfl | rfl | rfl | rfl <;> decide
theorem qtK (t:Int) (h:¬ good t):(shp t).1=0:=by
 unfold good at h
 simp only [shp]
 rw [if_neg (by omega),if_neg (by omega),if_neg (by omega),if_neg (by omega),if_neg (by omega),if_neg (by omega),if_neg (by omega),if_neg (by omega)]
def HgtIs (t keys h:Int):Prop:=
 if good t/\keys≠0 then ∃ k:Nat,h=1+k/\k<=64/\IsH (halfs t).1 (halfs t).2 keys.toNat k else h=0
theorem HgtIs.unique {t keys h h':Int} (a:HgtIs t keys h) (b:HgtIs t keys h'):h=h':=by
 unfold HgtIs at a b
 split at a
 ·rw [if_pos ‹_›] at b
  obtain ⟨k,rfl,_,hk⟩:=a
  obtain ⟨l,rfl,_,hl⟩:=b
  rw [hk.unique hl]
 ·rw [if_neg ‹_›] at b
  rw [a,b]
theorem qry {a b n k:Nat} (ha:1<=a) (hb:2<=b) (hn:n<2^64) (h:∀ j,j<k->a*b^j<=n):k<=64:=by
 rcases Nat.lt_or_ge 64 k with hk | hk
 ·have h1:=h 64 hk
  have h2:=quc hb 64
  have h3:1*b^64<=a*b^64:=Nat.mul_le_mul_right _ ha
  omega
 ·exact hk
theorem qbz {t keys:Int} {w:World} {K:Int->World->Prop} (hk:0<=keys/\keys<=18446744073709551615) (h:∀ x w',HgtIs t keys x->Same w w'->K x w') :
  call Tryz.prog 20 [.int .i64 t,.int .u64 keys] [.one (.int .i64)] w K:=by
 apply qhR
 unfold qdJ
 refine qmA ?_
 by_cases hg:good t/\keys≠0
 ·obtain ⟨hgt,hk0⟩:=hg
  obtain ⟨e0,e1,e2,g1,g2,g3,g4,g5,g6,g7,g8⟩:=qeV t hgt
  generalize hcap:caps (shp t).1 (shp t).2=c at *
  generalize ha:(halfs t).1=a at *
  generalize hb:(halfs t).2=b at *
  refine qa3 false w (fun M hM=>by simpa [e0,beq_eq_false_iff_ne.2 hk0] using hM) ?_
  simp only [_root_.cond_false]
  refine qpa (fun w1 hw1=>?_)
  rw [hcap]
  obtain ⟨n,rfl⟩:=Int.eq_ofNat_of_zero_le hk.1
  have q1:c.1.tdiv 2=c.1 / 2:=Int.tdiv_eq_ediv_of_nonneg g5
  have q2:c.2.tdiv 2=c.2 / 2:=Int.tdiv_eq_ediv_of_nonneg g6
  rw [q1,q2,e2,IntWalk.i64_in (c.1 / 2) (by omega),e1,IntWalk.i64_in (a:Int) (by omega),IntWalk.i64_in (b:Int) (by omega),IntWalk.u64_in (a:Int) (by omega),IntWalk.u64_in (b:Int) (by omega)]
  refine qaX (by omega) ?_
  have q3:((n:Int).tdiv a)=((n / a:Nat):Int):=by rw [Int.tdiv_eq_ediv_of_nonneg (by omega)]; rfl
  have q4:((n / a:Nat):Int)<=n:=Int.ofNat_le.2 (Nat.div_le_self _ _)
  have q4':(0:Int)<=((n / a:Nat):Int):=Int.natCast_nonneg _
  rw [q3,IntWalk.u64_in _ (by omega)]
  have hn64:n<2^64:=by have:=hk.2; omega
  refine qak (fun s w'=>w'=w1.drew/\∃ k:Nat,s=(1+(k:Int),((n / (a*b^k):Nat):Int))/\∀ j,j<k->a*b^j<=n) (fun s _=>(65-s.1).toNat) ⟨rfl,0,by simp,by omega⟩ ?_
  rintro s w2 ⟨rfl,k,rfl,hj⟩ X hX
  have hk64:k<=64:=qry (by omega) (by omega) hn64 hj
  have hpos:0<a*b^k:=Nat.mul_pos (by omega) (Nat.pow_pos (by omega))
  refine qab (fun hd=>?_) (fun hd=>?_)
  ·have hd':=of_decide_eq_true hd
   have hle:a*b^k<=n:=by
    rcases Nat.lt_or_ge n (a*b^k) with hlt | hge
    ·rw [Nat.div_eq_of_lt hlt] at hd'; simp at hd'
    ·exact hge
   have hj':∀ j,j<k+1->a*b^j<=n:=by
    intro j hjk
    by_cases hq:j=k
    ·subst hq; exact hle
    ·exact hj j (by omega)
   have hk65:k+1<=64:=qry (by omega) (by omega) hn64 hj'
   refine qaX (by omega) ?_
   have q5:((n / (a*b^k):Nat):Int).tdiv b=((n / (a*b^(k+1)):Nat):Int):=by
    have:n / (a*b^(k+1))=n / (a*b^k) / b:=by rw [Nat.div_div_eq_div_mul,Nat.pow_succ,Nat.mul_assoc]
    rw [Int.tdiv_eq_ediv_of_nonneg (Int.natCast_nonneg _),this]; rfl
   have q6:((n / (a*b^(k+1)):Nat):Int)<=n:=Int.ofNat_le.2 (Nat.div_le_self _ _)
   have q6':(0:Int)<=((n / (a*b^(k+1)):Nat):Int):=Int.natCast_nonneg _
   dsimp only
   rw [q5,IntWalk.u64_in _ (by omega),IntWalk.i64_in _ (by omega)]
   exact hX _ _ ⟨rfl,k+1,by simp; omega,hj'⟩ (by simp; omega)
  ·have hd':=of_decide_eq_false hd
   have hlt:n<a*b^k:=by
    rcases Nat.lt_or_ge n (a*b^k) with hlt | hge
    ·exact hlt
    ·exact absurd (Int.ofNat_lt.2 (Nat.div_pos hge hpos)) hd'
   refine h _ _ ?_ (hw1.drew)
   unfold HgtIs
   rw [if_pos ⟨hgt,hk0⟩]
   exact ⟨k,rfl,hk64,by rw [ha,hb]; exact hlt,by rw [ha,hb]; exact hj⟩
 ·have hz:HgtIs t keys 0:=by unfold HgtIs; rw [if_neg hg]
  refine qa3 true w (fun M hM=>?_) ?_
  ·by_cases h0:(shp t).1=0
   ·simpa [h0] using hM
   ·have:keys=0:=by
     by_cases hgt:good t
     ·have:¬ keys≠0:=fun hq=>hg ⟨hgt,hq⟩
      omega
     ·exact absurd (qtK t hgt) h0
    simpa [h0,this] using hM
  ·exact h 0 w hz (.refl w)
theorem qg5 {t n:Nat} (k:Nat) (h1:good t) (h0:(n:Int)≠0) (h2:n<(halfs t).1*(halfs t).2^k) (h3:k<=64) (h4:∀ j,j<k->(halfs t).1*(halfs t).2^j<=n):HgtIs t n (1+(k:Int)):=by
 unfold HgtIs
 rw [if_pos ⟨h1,h0⟩]
 exact ⟨k,rfl,h3,h2,h4⟩
theorem qnE {w:World} {K:Bool->World->Prop} (h:∀ w',Same w w'->K true w'):call Tryz.prog 13 [] [.one .bool] w K:=by
 apply qeb
 unfold qb7
 have a1:HgtIs 0 1 1:=qg5 (t:=0) (n:=1) 0 (by decide) (by decide) (by decide) (by decide) (by omega)
 have a2:HgtIs 0 3 1:=qg5 (t:=0) (n:=3) 0 (by decide) (by decide) (by decide) (by decide) (by omega)
 have a3:HgtIs 0 4 2:=qg5 (t:=0) (n:=4) 1 (by decide) (by decide) (by decide) (by decide) (by intro j hj; obtain rfl:j=0:=(by omega); decide)
 have a4:HgtIs 0 47 2:=qg5 (t:=0) (n:=47) 1 (by decide) (by decide) (by decide) (by decide) (by intro j hj; obtain rfl:j=0:=(by omega); decide)
 have a5:HgtIs 0 48 3:=qg5 (t:=0) (n:=48) 2 (by decide) (by decide) (by decide) (by decide) (by
  intro j hj
  have:j=0\/j=1:=by omega
  rcases this with rfl | rfl <;> decide)
 refine qbz (by omega) (fun x w1 hx hw1=>?_)
 obtain rfl:=hx.unique a1
 refine qbz (by omega) (fun x w2 hx hw2=>?_)
 obtain rfl:=hx.unique a2
 refine qbz (by omega) (fun x w3 hx hw3=>?_)
 obtain rfl:=hx.unique a3
 refine qbz (by omega) (fun x w4 hx hw4=>?_)
 obtain rfl:=hx.unique a4
 refine qbz (by omega) (fun x w5 hx hw5=>?_)
 obtain rfl:=hx.unique a5
 exact h _ ((((hw1.trans hw2).trans hw3).trans hw4).trans hw5)
end Go.Proofs.YtmmkegapckbomaaGreatDoor
end
section
set_option linter.unusedVariables false
set_option linter.unusedSimpArgs false
namespace Go.Proofs.YtmmkegapckbomaaGreatDoor
open Go Go.Pt
attribute [local irreducible] ld ldA ldV fld fldA newZ st new idx idxS idxA slc slcS slcP mkS chk nn call callV inv run runQ runU join loop held ext rng undefer s2a nxt ent IntKind.wrap
theorem qpe {i j:Nat} (h:i+j<=10000000):IntKind.wrap .i64 (Int.fdiv (IntKind.wrap .u64 (IntKind.wrap .i64 ((i:Int)+(j:Int)))) (2^1))=(((i+j) / 2:Nat):Int):=by
 have e1:IntKind.wrap .i64 ((i:Int)+(j:Int))=(i:Int)+(j:Int):=wi' _ (by omega)
 have e2:IntKind.wrap .u64 ((i:Int)+(j:Int))=(i:Int)+(j:Int):=IntWalk.u64_in _ (by omega)
 rw [e1,e2,Int.fdiv_eq_ediv_of_nonneg _ (by decide)]
 have e:((i:Int)+(j:Int)) / 2^1=(((i+j) / 2:Nat):Int):=by omega
 rw [e,wi' _ (by omega)]
theorem qri {n:Nat} {v:Value} {p:Nat->Bool} {w:World} {K:Int->World->Prop} (hn:n<=1000000) (hf:∀ w1 (i:Nat) (K':Bool->World->Prop),Fr [] w w1->i<n->(∀ w2,Fr [] w w2->K' (p i) w2)->callV Tryz.prog v [.int .i64 i] [.one .bool] w1 K')
  (hmono:∀ i j,i<=j->j<n->p i=true->p j=true) (hk:∀ (r:Nat) w',r<=n->(∀ i,i<r->p i=false)->(∀ i,r<=i->i<n->p i=true)->Fr [] w w'->K r w') :
  call Tryz.prog 117 [.int .i64 n,v] [.one (.int .i64)] w K:=by
 refine qkz ?_
 unfold qg8
 refine qak (fun s w'=>∃ i j:Nat,s=((i:Int),(j:Int))/\i<=j/\j<=n/\(∀ a,a<i->p a=false)/\(∀ a,j<=a->a<n->p a=true)/\Fr [] w w') (fun s _=>(s.2-s.1).toNat) ⟨0,n,rfl,by omega,by omega,fun _ h=>absurd h (Nat.not_lt_zero _),fun a h1 h2=>by omega,.refl _ _⟩ ?_
 rintro s w1 ⟨i,j,rfl,hij,hjn,h1,h2,hs⟩ X hX
 dsimp only
 refine qab (fun hc=>?_) (fun hc=>?_)
 ·have hlt:i<j:=by have:=of_decide_eq_true hc; omega
  rw [qpe (by omega)]
  refine hf w1 ((i+j) / 2) _ hs (by omega) fun w2 hs2=>?_
  cases hp:p ((i+j) / 2)
  ·refine cond_true rfl ?_
   have e:IntKind.wrap .i64 ((((i+j) / 2:Nat):Int)+1)=(((i+j) / 2+1:Nat):Int):=by rw [wi' _ (by omega)]; rfl
   rw [e]
   refine hX _ _ ⟨(i+j) / 2+1,j,rfl,by omega,hjn,fun a ha=>?_,h2,hs2⟩ (by dsimp only; omega)
   cases hpa:p a
   ·rfl
   ·have:=hmono a ((i+j) / 2) (by omega) (by omega) hpa
    rw [hp] at this; exact this.symm
  ·refine cond_false rfl ?_
   exact hX _ _ ⟨i,(i+j) / 2,rfl,by omega,by omega,h1,fun a ha hn=>hmono _ a ha hn hp,hs2⟩ (by dsimp only; omega)
 ·have hle:¬ i<j:=by have:=of_decide_eq_false hc; omega
  exact hk i w1 (by omega) h1 (fun a ha hn=>h2 a (by omega) hn) hs
theorem qtw {n:Nat} {v:Value} {c:Nat->Int} {w:World} {K:Int×Bool->World->Prop} (hn:n<=1000000) (hf:∀ w1 (i:Nat) (K':Int->World->Prop),Fr [] w w1->i<n->(∀ w2,Fr [] w w2->K' (c i) w2)->callV Tryz.prog v [.int .i64 i] [.one (.int .i64)] w1 K')
  (hmono:∀ i j,i<=j->j<n->c j>0->c i>0) (hk:∀ (r:Nat) w',r<=n->(∀ i,i<r->c i>0)->(∀ i,r<=i->i<n->¬ c i>0)->Fr [] w w'->K (r,decide (r<n/\c r=0)) w') :
  call Tryz.prog 119 [.int .i64 n,v] [.one (.int .i64),.one .bool] w K:=by
 refine qnk ?_
 unfold qkf
 refine qak (fun s w'=>∃ i j:Nat,s=((i:Int),(j:Int))/\i<=j/\j<=n/\(∀ a,a<i->c a>0)/\(∀ a,j<=a->a<n->¬ c a>0)/\Fr [] w w') (fun s _=>(s.2-s.1).toNat) ⟨0,n,rfl,by omega,by omega,fun _ h=>absurd h (Nat.not_lt_zero _),fun a h1 h2=>by omega,.refl _ _⟩ ?_
 rintro s w1 ⟨i,j,rfl,hij,hjn,h1,h2,hs⟩ X hX
 dsimp only
 refine qab (fun hc=>?_) (fun hc=>?_)
 ·have hlt:i<j:=by have:=of_decide_eq_true hc; omega
  rw [qpe (by omega)]
  refine hf w1 ((i+j) / 2) _ hs (by omega) fun w2 hs2=>?_
  refine qab (fun hp=>?_) (fun hp=>?_)
  ·have hp:=of_decide_eq_true hp
   have e:IntKind.wrap .i64 ((((i+j) / 2:Nat):Int)+1)=(((i+j) / 2+1:Nat):Int):=by rw [wi' _ (by omega)]; rfl
   rw [e]
   exact hX _ _ ⟨(i+j) / 2+1,j,rfl,by omega,hjn,fun a ha=>hmono a _ (by omega) (by omega) hp,h2,hs2⟩ (by dsimp only; omega)
  ·have hp:=of_decide_eq_false hp
   exact hX _ _ ⟨i,(i+j) / 2,rfl,by omega,by omega,h1,fun a ha hn hpa=>hp (hmono _ a ha hn hpa),hs2⟩ (by dsimp only; omega)
 ·have hle:¬ i<j:=by have:=of_decide_eq_false hc; omega
  have fin:=fun w'=>hk i w' (by omega) h1 (fun a ha hn=>h2 a (by omega) hn)
  refine qab (fun hc=>?_) (fun hc=>?_)
  ·have hin:i<n:=by have:=of_decide_eq_true hc; omega
   refine hf w1 i _ hs hin fun w2 hs2=>?_
   have e:(c i==0)=decide (i<n/\c i=0):=by
    rw [Bool.eq_iff_iff,beq_iff_eq,decide_eq_true_iff]; exact ⟨fun h=>⟨hin,h⟩,fun h=>h.2⟩
   rw [e]
   exact fin w2 hs2
  ·have hin:¬ i<n:=by have:=of_decide_eq_false hc; omega
   have:=fin w1 hs
   rw [decide_eq_false (fun h=>hin h.1)] at this
   exact this
section
variable {S S':List Nat} {w:World} {x:NdC} {n:NodeM} {ks:Sl} {key:Key}
theorem qiM {K:Int×Bool->World->Prop} (hx:NodeR S w x n) (hk:RdB S' w ks key) (hB:IsB key) (hr:Rising n.keys) (hl:n.keys.length<=1000000) (kk:∀ w',Fr [] w w'->K (placeV n.keys key,decide (n.keys[placeV n.keys key]?=some key)) w') :
  call Tryz.prog 84 [.agg (ndV x),.slice ks.a ks.len ks.cap] [.one (.int .i64),.one .bool] w K:=by
 obtain ⟨h0,hNB,⟨pk,hpk,hkeys⟩,_⟩:=hx
 refine qmk (n0:=x.1) (n1:=x.2.1) (n2:=x.2.2.1) (n3:=x.2.2.2) (k:=ks) ?_
 unfold qix
 refine Own.new' (Own.start [] w) fun r1 w1 e1 f1 h=>?_
 refine Own.new' h fun r3 w2 e2 f2 h=>?_
 refine Own.ld (c:=.slice) h 1 rfl x.2.1 rfl ?_
 have hlen:x.2.1.len=pk.length:=hpk.len
 have hkl:n.keys.length=pk.length:=by rw [<- hkeys,List.length_map]
 have at_:∀ (i:Nat) (hi:i<pk.length),n.keys[i]?=some pk[i].2:=fun i hi=>by rw [<- hkeys,List.getElem?_map,List.getElem?_eq_getElem hi]; rfl
 rw [hlen]
 refine qtw (c:=fun i=>cmpL key (n.keys.getD i [])) (by omega) (fun w3 i K' f3 hi hk'=>?_) (fun i j hij hj hc=>?_) fun r w' hr1 hr2 hr3 f'=>?_
 ·refine qba (lb:=[.pointer (some ⟨r3,0,none⟩),.pointer (some ⟨r1,0,none⟩)]) rfl (by kernel_rfl) ?_
  have h3:=h.frame0 f3
  refine qi5 (cap0:=⟨r3,0,none⟩) (cap1:=⟨r1,0,none⟩) ?_
  unfold qeI
  have h3:=h3.drew
  refine Own.ld (c:=.slice) h3 0 rfl ks rfl ?_
  refine Own.ld (c:=.slice) h3 1 rfl x.2.1 rfl ?_
  refine RdK.get (hpk.frame0 h3.fr) i rfl hi ?_
  refine qmL (hk.frame0 h3.fr) ((hpk.frame0 h3.fr).2 pk[i] (List.getElem_mem hi)) hB (hNB.1 _ (List.mem_of_getElem? (at_ i hi))) ?_
  have e:n.keys.getD i []=pk[i].2:=by rw [List.getD_eq_getElem?_getD,at_ i hi]; rfl
  have:=hk' w3.drew f3.drew
  rw [e] at this
  exact this
 ·by_cases hij':i=j
  ·rw [hij']; exact hc
  ·have hi:=at_ i (by omega)
   have hj':=at_ j hj
   rw [List.getD_eq_getElem?_getD,hj',Option.getD_some] at hc
   rw [List.getD_eq_getElem?_getD,hi,Option.getD_some]
   have h1:KLt pk[j].2 key:=by unfold KLt; rw [qbM]; omega
   have h2:=qaw (qf8 hr (by omega) hi hj') h1
   unfold KLt at h2
   rw [qbM] at h2
   omega
 ·have hp:placeV n.keys key=r:=qrc (by omega) (fun i a hi ha=>by
   have:=hr2 i hi
   rw [List.getD_eq_getElem?_getD,ha,Option.getD_some,qbM] at this
   show cmpL a key<0
   omega) fun a ha=>by
   have hrl:=(List.getElem?_eq_some_iff.1 ha).1
   have:=hr3 r (Nat.le_refl _) (by omega)
   rw [List.getD_eq_getElem?_getD,ha,Option.getD_some,qbM] at this
   show ¬ cmpL a key<0
   omega
  have hfin:=kk w' (h.fr.trans f')
  rw [hp] at hfin
  have e:decide (n.keys[r]?=some key)=decide (r<pk.length/\cmpL key (n.keys.getD r [])=0):=by
   refine decide_eq_decide.2 ⟨fun h=>?_,fun h=>?_⟩
   ·refine ⟨by have:=(List.getElem?_eq_some_iff.1 h).1; omega,?_⟩
    rw [List.getD_eq_getElem?_getD,h,Option.getD_some,qdO]
   ·have h2:=h.2
    rw [List.getD_eq_getElem?_getD,at_ r h.1,Option.getD_some] at h2
    exact (at_ r h.1).trans (congrArg some (qd7 h2).symm)
  rw [e] at hfin
  exact hfin
theorem qne {K:Int->World->Prop} (hx:NodeR S w x n) (hk:RdB S' w ks key) (hB:IsB key) (hr:Rising n.keys) (hl:n.keys.length<=1000000) (kk:∀ w',Fr [] w w'->K (kidV n.keys key) w') :
  call Tryz.prog 83 [.agg (ndV x),.slice ks.a ks.len ks.cap] [.one (.int .i64)] w K:=by
 obtain ⟨h0,hNB,⟨pk,hpk,hkeys⟩,_⟩:=hx
 refine qod (n0:=x.1) (n1:=x.2.1) (n2:=x.2.2.1) (n3:=x.2.2.2) (k:=ks) ?_
 unfold qlX
 refine Own.new' (Own.start [] w) fun r1 w1 e1 f1 h=>?_
 refine Own.new' h fun r3 w2 e2 f2 h=>?_
 refine Own.ld (c:=.slice) h 1 rfl x.2.1 rfl ?_
 have hlen:x.2.1.len=pk.length:=hpk.len
 have hkl:n.keys.length=pk.length:=by rw [<- hkeys,List.length_map]
 have at_:∀ (i:Nat) (hi:i<pk.length),n.keys[i]?=some pk[i].2:=fun i hi=>by rw [<- hkeys,List.getElem?_map,List.getElem?_eq_getElem hi]; rfl
 rw [hlen]
 refine qri (p:=fun i=>decide (cmpL key (n.keys.getD i [])<0)) (by omega) (fun w3 i K' f3 hi hk'=>?_) (fun i j hij hj hc=>?_) fun r w' hr1 hr2 hr3 f'=>?_
 ·refine qba (lb:=[.pointer (some ⟨r3,0,none⟩),.pointer (some ⟨r1,0,none⟩)]) rfl (by kernel_rfl) ?_
  have h3:=h.frame0 f3
  refine qkK (cap0:=⟨r3,0,none⟩) (cap1:=⟨r1,0,none⟩) ?_
  unfold qgV
  have h3:=h3.drew
  refine Own.ld (c:=.slice) h3 0 rfl ks rfl ?_
  refine Own.ld (c:=.slice) h3 1 rfl x.2.1 rfl ?_
  refine RdK.get (hpk.frame0 h3.fr) i rfl hi ?_
  refine qmL (hk.frame0 h3.fr) ((hpk.frame0 h3.fr).2 pk[i] (List.getElem_mem hi)) hB (hNB.1 _ (List.mem_of_getElem? (at_ i hi))) ?_
  have e:n.keys.getD i []=pk[i].2:=by rw [List.getD_eq_getElem?_getD,at_ i hi]; rfl
  have e2:decide (cmpL key (n.keys.getD i [])<0)=decide (cmpL key pk[i].2<0):=decide_eq_decide.2 (by rw [e])
  rw [<- e2]
  exact hk' w3.drew f3.drew
 ·by_cases hij':i=j
  ·rw [<- hij']; exact hc
  ·have hi:=at_ i (by omega)
   have hj':=at_ j hj
   have hc:=of_decide_eq_true hc
   rw [List.getD_eq_getElem?_getD,hi,Option.getD_some] at hc
   refine decide_eq_true ?_
   rw [List.getD_eq_getElem?_getD,hj',Option.getD_some]
   exact qaw hc (qf8 hr (by omega) hi hj')
 ·have hp:kidV n.keys key=r:=qtX (by omega) (fun i a hi ha=>by
   have:=of_decide_eq_false (hr2 i hi)
   rw [List.getD_eq_getElem?_getD,ha,Option.getD_some] at this
   exact this) fun a ha=>by
   have hrl:=(List.getElem?_eq_some_iff.1 ha).1
   have:=of_decide_eq_true (hr3 r (Nat.le_refl _) (by omega))
   rw [List.getD_eq_getElem?_getD,ha,Option.getD_some] at this
   exact this
  have hfin:=kk w' (h.fr.trans f')
  rw [hp] at hfin
  exact hfin
end
end Go.Proofs.YtmmkegapckbomaaGreatDoor
end
section
set_option linter.unusedVariables false
set_option linter.unusedSimpArgs false
namespace Go.Proofs.YtmmkegapckbomaaGreatDoor
open Go Go.Pt
open Classical
attribute [local irreducible] ld ldA ldV fld fldA newZ st new idx idxS idxA slc slcS slcP mkS chk nn call callV inv run runQ runU join loop held ext rng undefer s2a nxt ent IntKind.wrap
theorem qhs {p:Prop} {i:Decidable p} (h:p):true=decide p:=by simp [h]
theorem qbg {i:Nat} (h:i<=100000000):IntKind.wrap .i64 ((i:Int)+1)=((i+1:Nat):Int):=by rw [wi' _ (by omega)]; rfl
section
variable {S:List Nat} {w:World} {s:Sl}
theorem qnC {v:Value} {ps:Kps} {p:Key->Bool} {K:Bool->World->Prop} (hs:RdK S w s ps) (hl:ps.length<=1000000)
  (hf:∀ w1 (x:Sl×Key) (K':Bool->World->Prop),Fr [] w w1->x∈ps->(∀ w2,Fr [] w w2->K' (p x.2) w2)->callV Tryz.prog v [.slice x.1.a x.1.len x.1.cap] [.one .bool] w1 K')
  (kk:∀ w',Fr [] w w'->K ((keyP ps).any p) w') :
  call Tryz.prog 216 [.slice s.a s.len s.cap,v] [.one .bool] w K:=by
 refine qdz (s:=s) ?_
 unfold qbP
 refine qfd (s:=s) ?_
 unfold qcM
 have hlen:=hs.len
 refine qak (fun i w'=>∃ n:Nat,i=(n:Int)/\n<=ps.length/\((keyP ps).take n).any p=false/\Fr [] w w') (fun i _=>((ps.length:Int)-i).toNat) ⟨0,rfl,Nat.zero_le _,rfl,.refl _ _⟩ ?_
 rintro _ w1 ⟨n,rfl,hn,hno,hfr⟩ X hX
 refine qab (fun hc=>?_) (fun hc=>?_)
 ·have hlt:n<ps.length:=by have:=of_decide_eq_true hc; omega
  refine RdK.get (hs.frame0 hfr) n rfl hlt ?_
  refine hf w1 ps[n] _ hfr (List.getElem_mem hlt) fun w2 hf2=>?_
  have hkn:(keyP ps)[n]?=some ps[n].2:=by rw [List.getElem?_map,List.getElem?_eq_getElem hlt]; rfl
  refine qab (fun hp=>?_) (fun hp=>?_)
  ·have:(keyP ps).any p=true:=List.any_eq_true.2 ⟨ps[n].2,List.mem_of_getElem? hkn,hp⟩
   show K (decide (((n:Nat):Int)>=0)) w2
   rw [decide_eq_true (show ((n:Nat):Int)>=0 by omega)]
   rw [<- this]
   exact kk w2 hf2
  ·rw [qbg (by omega)]
   refine hX _ _ ⟨n+1,rfl,hlt,?_,hf2⟩ (by omega)
   rw [List.take_add_one,hkn,List.any_append,hno]
   simpa using hp
 ·have hge:n=ps.length:=by have:=of_decide_eq_false hc; omega
  show K (decide ((-1:Int)>=0)) w1
  rw [decide_eq_false (show ¬ (-1:Int)>=0 by decide)]
  have:(keyP ps).any p=false:=by
   rw [<- hno,hge,List.take_of_length_le (by rw [List.length_map]; exact Nat.le_refl _)]
  rw [<- this]
  exact kk w1 hfr
theorem qns {v:Value} {l:List Int} {p:Int->Bool} {K:Bool->World->Prop} (hs:Rd S w s l) (hl:l.length<=1000000)
  (hf:∀ w1 (x:Int) (K':Bool->World->Prop),Fr [] w w1->x∈l->(∀ w2,Fr [] w w2->K' (p x) w2)->callV Tryz.prog v [.int .u32 x] [.one .bool] w1 K')
  (kk:∀ w',Fr [] w w'->K (l.any p) w') :
  call Tryz.prog 186 [.slice s.a s.len s.cap,v] [.one .bool] w K:=by
 refine qdA (s:=s) ?_
 unfold qb1
 refine qe0 (s:=s) ?_
 unfold qcL
 have hlen:=hs.1
 refine qak (fun i w'=>∃ n:Nat,i=(n:Int)/\n<=l.length/\(l.take n).any p=false/\Fr [] w w') (fun i _=>((l.length:Int)-i).toNat) ⟨0,rfl,Nat.zero_le _,rfl,.refl _ _⟩ ?_
 rintro _ w1 ⟨n,rfl,hn,hno,hfr⟩ X hX
 refine qab (fun hc=>?_) (fun hc=>?_)
 ·have hlt:n<l.length:=by have:=of_decide_eq_true hc; omega
  have hkn:l[n]?=some l[n]:=List.getElem?_eq_getElem hlt
  refine Rds.get (c:=.int .u32) (hs.frame0 hfr) n rfl hkn (y:=l[n]) rfl ?_
  refine hf w1 l[n] _ hfr (List.getElem_mem hlt) fun w2 hf2=>?_
  refine qab (fun hp=>?_) (fun hp=>?_)
  ·have:l.any p=true:=List.any_eq_true.2 ⟨l[n],List.mem_of_getElem? hkn,hp⟩
   show K (decide (((n:Nat):Int)>=0)) w2
   rw [decide_eq_true (show ((n:Nat):Int)>=0 by omega)]
   rw [<- this]
   exact kk w2 hf2
  ·rw [qbg (by omega)]
   refine hX _ _ ⟨n+1,rfl,hlt,?_,hf2⟩ (by omega)
   rw [List.take_add_one,hkn,List.any_append,hno]
   simpa using hp
 ·have hge:n=l.length:=by have:=of_decide_eq_false hc; omega
  show K (decide ((-1:Int)>=0)) w1
  rw [decide_eq_false (show ¬ (-1:Int)>=0 by decide)]
  have:l.any p=false:=by
   rw [<- hno,hge,List.take_of_length_le (Nat.le_refl _)]
  rw [<- this]
  exact kk w1 hfr
theorem qnc {ps:Kps} {m:Nat} {K:Bool->World->Prop} (hs:RdK S w s ps) (hl:ps.length<=1000000) (kk:∀ w',Fr [] w w'->K (decide (∀ a∈keyP ps,a.length=m)) w') :
  call Tryz.prog 184 [.slice s.a s.len s.cap,.int .i64 m] [.one .bool] w K:=by
 refine qm9 (l:=s) ?_
 unfold qkl
 refine Own.new' (Own.start [] w) fun r1 w1 e1 f1 h=>?_
 have hs1:=hs.frame0 f1
 refine qnC (p:=fun a=>decide (a.length≠m)) hs1 hl (fun w2 x K' f2 hx hk'=>?_) fun w' f'=>?_
 ·refine qba (lb:=[.pointer (some ⟨r1,0,none⟩)]) rfl (by kernel_rfl) ?_
  refine qjj (b:=x.1) (cap0:=⟨r1,0,none⟩) ?_
  unfold qfJ
  refine Own.ld (c:=.int .i64) (h.frame0 f2) 0 rfl (m:Int) rfl ?_
  have hxl:=(hs1.2 x hx).1
  have e:(!((x.1.len:Int)==(m:Int)))=decide (x.2.length≠m):=by
   rw [hxl,Bool.eq_iff_iff]
   simp
   omega
  rw [e]
  exact hk' w2 f2
 ·have e:(!((keyP ps).any fun a=>decide (a.length≠m)))=decide (∀ a∈keyP ps,a.length=m):=by
   rw [Bool.eq_iff_iff,decide_eq_true_iff,Bool.not_eq_true',List.any_eq_false]
   constructor
   ·intro h a ha
    have:=h a ha
    simpa using this
   ·intro h a ha
    simp [h a ha]
  rw [e]
  exact kk w' (f1.trans f')
theorem qrM {ps:Kps} {K:Bool->World->Prop} (hs:RdK S w s ps) (hB:∀ a∈keyP ps,IsB a) (hl:ps.length<=1000000) (kk:∀ w',Fr [] w w'->K (decide (Rising (keyP ps))) w') :
  call Tryz.prog 185 [.slice s.a s.len s.cap] [.one .bool] w K:=by
 refine ql9 (l:=s) ?_
 unfold qhX
 have hlen:=hs.len
 have at_:∀ (i:Nat) (hi:i<ps.length),(keyP ps)[i]?=some ps[i].2:=fun i hi=>by rw [List.getElem?_map,List.getElem?_eq_getElem hi]; rfl
 refine qak (fun i w'=>∃ n:Nat,i=(n:Int)/\1<=n/\(∀ (j:Nat) a b,j+1<n->(keyP ps)[j]?=some a->(keyP ps)[j+1]?=some b->KLt a b)/\Fr [] w w') (fun i _=>((ps.length:Int)-i).toNat) ⟨1,rfl,Nat.le_refl _,fun j a b h=>by omega,.refl _ _⟩ ?_
 rintro _ w1 ⟨n,rfl,hn,hall,hfr⟩ X hX
 refine qab (fun hc=>?_) (fun hc=>?_)
 ·have hlt:n<ps.length:=by have:=of_decide_eq_true hc; omega
  have e1:IntKind.wrap .i64 ((n:Int)-1)=((n-1:Nat):Int):=by rw [wi' _ (by omega)]; omega
  have hsd:=hs.frame0 hfr.drew
  rw [e1]
  refine RdK.get hsd (n-1) rfl (by omega) ?_
  refine RdK.get hsd n rfl hlt ?_
  refine qmL (hsd.2 ps[n-1] (List.getElem_mem _)) (hsd.2 ps[n] (List.getElem_mem _)) (hB _ (List.mem_of_getElem? (at_ (n-1) (by omega)))) (hB _ (List.mem_of_getElem? (at_ n hlt))) ?_
  refine qab (fun hp=>?_) (fun hp=>?_)
  ·have hp:=of_decide_eq_true hp
   have:¬ Rising (keyP ps):=fun hr=>by
    have:=qf8 hr (show n-1<n by omega) (at_ (n-1) (by omega)) (at_ n hlt)
    unfold KLt at this
    omega
   have hfin:=kk _ hfr.drew
   rw [decide_eq_false this] at hfin
   exact hfin
  ·have hp:=of_decide_eq_false hp
   rw [qbg (by omega)]
   refine hX _ _ ⟨n+1,rfl,by omega,fun j a b hj ha hb=>?_,hfr.drew⟩ (by omega)
   by_cases hjn:j+1<n
   ·exact hall j a b hjn ha hb
   ·obtain rfl:n=j+1:=by omega
    rw [at_ j (by omega)] at ha
    rw [at_ (j+1) hlt] at hb
    cases ha
    cases hb
    show cmpL _ _<0
    simp only [Nat.add_sub_cancel] at hp
    omega
 ·have hge:¬ n<ps.length:=by have:=of_decide_eq_false hc; omega
  have:Rising (keyP ps):=qg3 fun j a b ha hb=>hall j a b (by
   have:=(List.getElem?_eq_some_iff.1 hb).1
   rw [List.length_map] at this
   omega) ha hb
  have hfin:=kk w1 hfr
  rw [decide_eq_true this] at hfin
  exact hfin
theorem qsa {k v:Nat}:caps (k:Int) (v:Int)=(((capsV k v).1:Int),((capsV k v).2:Int)):=by
 unfold caps capsV
 by_cases h:k<1\/k>24\/v>108
 ·rw [if_pos h,if_pos (by omega)]; rfl
 ·rw [if_neg h,if_neg (by omega)]; rfl
theorem qi8 {k v:Nat} {w:World} {K:Int×Int->World->Prop} (h:∀ w',Fr [] w w'->K (((capsV k v).1:Int),((capsV k v).2:Int)) w'):call Tryz.prog 64 [.int .i64 k,.int .i64 v] [.one (.int .i64),.one (.int .i64)] w K:=
 qpa fun w' hw=>by rw [qsa]; exact h w' (.of_same hw)
theorem qmS {x:NdC} {n:NodeM} {k v:Nat} {K:Bool->World->Prop} (hx:NodeR S w x n) (h1:n.keys.length<=1000000) (h2:n.vals.length<=1000000) (h3:n.kids.length<=1000000) (kk:∀ w',Fr [] w w'->K (decide (rightV n k v)) w') :
  call Tryz.prog 147 [.agg (ndV x),.int .i64 k,.int .i64 v] [.one .bool] w K:=by
 obtain ⟨h0,hNB,⟨pk,hpk,hkeys⟩,⟨pv,hpv,hvals⟩,hkid⟩:=hx
 refine qmp (n0:=x.1) (n1:=x.2.1) (n2:=x.2.2.1) (n3:=x.2.2.2) (k:=k) (v:=v) ?_
 unfold qil
 refine Own.new' (Own.start [] w) fun r1 w1 e1 f1 h=>?_
 refine qi8 fun w2 f2=>?_
 have h:=h.frame0 f2
 have l1:pk.length=n.keys.length:=by rw [<- hkeys,List.length_map]
 have l2:pv.length=n.vals.length:=by rw [<- hvals,List.length_map]
 have n1:x.2.1.len=n.keys.length:=by rw [hpk.len,l1]
 have n2:x.2.2.1.len=n.vals.length:=by rw [hpv.len,l2]
 have n3:x.2.2.2.len=n.kids.length:=hkid.1
 refine qag (fun b w'=>b=decide (¬ ((∀ a∈n.keys,a.length=k)/\(∀ a∈n.vals,a.length=v)/\Rising n.keys))/\Own [] w w' [(r1,.cells (ndV x) 143)]) ?_ ?_
 ·refine Own.ld (c:=.slice) h 0 rfl x.2.1 rfl ?_
  refine qnc (m:=k) (hpk.frame0 h.fr) (by omega) fun w3 f3=>?_
  have h:=h.frame0 f3
  rw [hkeys]
  refine qab (fun hc=>⟨?_,h⟩) (fun hc=>?_)
  ·have:¬ ∀ a∈n.keys,a.length=k:=of_decide_eq_false (by simpa using hc)
   exact qhs fun hh=>this hh.1
  have q1:∀ a∈n.keys,a.length=k:=of_decide_eq_true (by simpa using hc)
  refine Own.ld (c:=.slice) h 0 rfl x.2.2.1 rfl ?_
  refine qnc (m:=v) (hpv.frame0 h.fr) (by omega) fun w4 f4=>?_
  have h:=h.frame0 f4
  rw [hvals]
  refine qab (fun hc=>⟨?_,h⟩) (fun hc=>?_)
  ·have:¬ ∀ a∈n.vals,a.length=v:=of_decide_eq_false (by simpa using hc)
   exact qhs fun hh=>this hh.2.1
  have q2:∀ a∈n.vals,a.length=v:=of_decide_eq_true (by simpa using hc)
  refine Own.ld (c:=.slice) h 0 rfl x.2.1 rfl ?_
  refine qrM (hpk.frame0 h.fr) (by rw [hkeys]; exact hNB.1) (by omega) fun w5 f5=>?_
  have h:=h.frame0 f5
  rw [hkeys]
  refine ⟨?_,h⟩
  rw [Bool.eq_iff_iff,Bool.not_eq_true',decide_eq_false_iff_not,decide_eq_true_iff]
  exact ⟨fun hh g=>hh g.2.2,fun hh g=>hh ⟨q1,q2,g⟩⟩
 rintro b w3 ⟨rfl,h⟩
 have no:∀ {w'},¬ rightV n k v->Fr [] w w'->K false w':=fun hn f=>by
  have:=kk _ f
  rw [decide_eq_false hn] at this
  exact this
 refine qab (fun hc=>no (fun hr=>of_decide_eq_true hc ⟨hr.1,hr.2.1,hr.2.2.1⟩) h.fr) (fun hc=>?_)
 have hq:=Classical.not_not.1 (of_decide_eq_false hc)
 have rest:rightV n k v↔(if n.leaf then n.kids=[]/\1<=n.keys.length/\n.keys.length<=(capsV k v).1/\n.vals.length=n.keys.length
   else (∀ x∈n.kids,2<=x)/\n.vals=[]/\2<=n.kids.length/\n.kids.length<=(capsV k v).2/\n.keys.length+1=n.kids.length):=⟨fun hr=>hr.2.2.2,fun hh=>⟨hq.1,hq.2.1,hq.2.2,hh⟩⟩
 refine Own.ld (c:=.bool) h 0 rfl x.1 rfl ?_
 refine qab (fun hc=>?_) (fun hc=>?_)
 ·rw [h0] at hc
  rw [if_pos hc] at rest
  have ld1:∀ {Q:Sl->Prop},Q x.2.1->ld .slice ⟨r1,1,none⟩ w3 Q:=fun q=>Own.ld (c:=.slice) h 0 rfl x.2.1 rfl q
  refine Own.ld (c:=.slice) h 0 rfl x.2.2.2 rfl ?_
  refine qab (fun c1=>?_) (fun c1=>no (fun hr=>?_) h.fr)
  ·refine ld1 (qab (fun c2=>?_) (fun c2=>no (fun hr=>?_) h.fr))
   ·refine ld1 (qab (fun c3=>?_) (fun c3=>no (fun hr=>?_) h.fr))
    ·refine Own.ld (c:=.slice) h 0 rfl x.2.2.1 rfl (ld1 ?_)
     have c1:=beq_iff_eq.1 c1
     have c2:=of_decide_eq_true c2
     have c3:=of_decide_eq_true c3
     have e:((x.2.2.1.len:Int)==(x.2.1.len:Int))=decide (rightV n k v):=by
      rw [Bool.eq_iff_iff,beq_iff_eq,decide_eq_true_iff,rest]
      dsimp only at c3
      constructor
      ·intro hh; exact ⟨List.eq_nil_of_length_eq_zero (by omega),by omega,by omega,by omega⟩
      ·intro hh; omega
     rw [e]
     exact kk w3 h.fr
    ·have:=(rest.1 hr).2.2.1
     have c3:=of_decide_eq_false c3
     dsimp only at c3
     omega
   ·have:=(rest.1 hr).2.1
    have c2:=of_decide_eq_false c2
    omega
  ·have:=(rest.1 hr).1
   have c1:=beq_eq_false_iff_ne.1 c1
   rw [this] at n3
   exact c1 (by rw [n3]; rfl)
 ·rw [h0] at hc
  rw [if_neg (by rw [hc]; decide)] at rest
  have ld3:∀ {w'} {Q:Sl->Prop},Own [] w w' [(r1,.cells (ndV x) 143)]->Q x.2.2.2->ld .slice ⟨r1,3,none⟩ w' Q:=fun h q=>Own.ld (c:=.slice) h 0 rfl x.2.2.2 rfl q
  refine ld3 h ?_
  refine qns (p:=fun y=>decide (y<2)) (hkid.frame0 h.fr) h3 (fun w4 y K' f4 hy hk'=>?_) fun w4 f4=>?_
  ·refine qba (lb:=[]) rfl (by kernel_rfl) ?_
   refine qiJ (x:=y) ?_
   unfold qek
   exact hk' w4 f4
  have h:=h.frame0 f4
  refine qab (fun c0=>no (fun hr=>?_) h.fr) (fun c0=>?_)
  ·obtain ⟨y,hy,hy2⟩:=List.any_eq_true.1 c0
   have:=(rest.1 hr).1 y hy
   have:=of_decide_eq_true hy2
   omega
  have hall:∀ y∈n.kids,2<=y:=fun y hy=>by
   have:=List.any_eq_false.1 c0 y hy
   simp at this
   exact this
  refine Own.ld (c:=.slice) h 0 rfl x.2.2.1 rfl ?_
  refine qab (fun c1=>?_) (fun c1=>no (fun hr=>?_) h.fr)
  ·refine ld3 h (qab (fun c2=>?_) (fun c2=>no (fun hr=>?_) h.fr))
   ·refine ld3 h (qab (fun c3=>?_) (fun c3=>no (fun hr=>?_) h.fr))
    ·refine Own.ld (c:=.slice) h 0 rfl x.2.1 rfl (ld3 h ?_)
     have c1:=beq_iff_eq.1 c1
     have c2:=of_decide_eq_true c2
     have c3:=of_decide_eq_true c3
     dsimp only at c3
     have ew:IntKind.wrap .i64 ((x.2.2.2.len:Int)-1)=(x.2.2.2.len:Int)-1:=wi' _ (by omega)
     have e:((x.2.1.len:Int)==IntKind.wrap .i64 ((x.2.2.2.len:Int)-1))=decide (rightV n k v):=by
      rw [ew,Bool.eq_iff_iff,beq_iff_eq,decide_eq_true_iff,rest]
      constructor
      ·intro hh; exact ⟨hall,List.eq_nil_of_length_eq_zero (by omega),by omega,by omega,by omega⟩
      ·intro hh; omega
     rw [e]
     exact kk _ h.fr
    ·have:=(rest.1 hr).2.2.2.1
     have c3:=of_decide_eq_false c3
     dsimp only at c3
     omega
   ·have:=(rest.1 hr).2.2.1
    have c2:=of_decide_eq_false c2
    omega
  ·have:=(rest.1 hr).2.1
   have c1:=beq_eq_false_iff_ne.1 c1
   rw [this] at n2
   exact c1 (by rw [n2]; rfl)
end
section
theorem qdp {S:List Nat} {w:World} {s src:Sl} {l ys:List Int} {B:List Nat} {K:Sl->World->Prop} (h:BufB w s l B) (hr:RdB S w src ys) (hl:l.length+ys.length<=1000000)
  (kk:∀ s' B' w',BufB w' s' (l++ys) B'->Fr B w w'->(∀ b∈B',b∈B\/w.heap.size<=b)->K s' w') :
  Pt.run [Ty1.one Cell.slice] ((Builtin.append_ #[23,23] 23 #[.slice s.a s.len s.cap,.slice src.a src.len src.cap]).run Tryz.prog w) K:=by
 obtain ⟨i,hi,hz,hsz,hby⟩:=qj4
 have hlen:=hr.1
 exact Buf.appSrc (e:=5) h qas (by kernel_rfl) hi hz hsz rfl (qdc (e':=5) hr qas (fun x u hu=>by rw [List.mem_singleton.1 hu]; rfl) (by kernel_rfl)) hlen (by rw [hby]; omega) (by omega) fun s' B' w' b' f' n' _=>kk s' B' w' b' f' n'
theorem qug (n:Int):be n 2=[IntKind.wrap .u8 (Int.fdiv n (2^8)),IntKind.wrap .u8 n]:=by
 show [byteAt n 1,byteAt n 0]=_
 unfold byteAt
 rw [show (min (8*1) 32:Nat)=8 from rfl,show (min (8*0) 32:Nat)=0 from rfl,Int.pow_zero,Int.fdiv_one]
theorem quG (n:Int):be n 4=[IntKind.wrap .u8 (Int.fdiv n (2^24)),IntKind.wrap .u8 (Int.fdiv n (2^16)),IntKind.wrap .u8 (Int.fdiv n (2^8)),IntKind.wrap .u8 n]:=by
 show [byteAt n 3,byteAt n 2,byteAt n 1,byteAt n 0]=_
 unfold byteAt
 rw [show (min (8*3) 32:Nat)=24 from rfl,show (min (8*2) 32:Nat)=16 from rfl,show (min (8*1) 32:Nat)=8 from rfl,show (min (8*0) 32:Nat)=0 from rfl,Int.pow_zero,Int.fdiv_one]
theorem RdK.get' {S:List Nat} {w:World} {s:Sl} {ps:Kps} (h:RdK S w s ps) (n:Nat) {i:Int} {K:Addr->Sl->Prop} (hi:i=n) (hn:n<ps.length) (kk:∀ a,w.cell? a=some (.slice ps[n].1.a ps[n].1.len ps[n].1.cap)->(∀ w',RdK S w' s ps->w'.cell? a=some (.slice ps[n].1.a ps[n].1.len ps[n].1.cap))->K a ps[n].1):idx s i 1 fun a=>ld .slice a w fun x=>K a x:=by
 subst hi
 have hx:(slsP ps)[n]?=some ps[n].1:=by rw [List.getElem?_map,List.getElem?_eq_getElem hn]; rfl
 obtain ⟨hl,b,o,ha,_,cs,T,fr,hb,hc⟩:=h.1.at n hx
 refine qbk ha ⟨by omega,by omega⟩ ?_
 rw [Int.toNat_natCast]
 have key:∀ w',RdK S w' s ps->w'.cell? ⟨b,o+n*1,none⟩=some (.slice ps[n].1.a ps[n].1.len ps[n].1.cap):=fun w' h'=>by
  obtain ⟨_,b',o',ha',_,cs',T',fr',hb',hc'⟩:=h'.1.at n hx
  rw [ha] at ha'
  cases ha'
  rw [qai hb']
  have:=congrArg (·[0]?) hc'
  simpa [encSl] using this
 exact qc6 (c:=.slice) ps[n].1 (key w h) (kk _ (key w h) key)
theorem qnT {w:World} {b n:Nat} {T:TypeId} {l:List Int} (hb:w.heap[b]?=some (.cells (l.map (Value.int .u8)).toArray T (0,0))) (hn:n=l.length):BufB w ⟨some ⟨b,0,none⟩,n,n⟩ l [b]:=
 Buf.one (e:=Value.int .u8) (fun _=>rfl) hb hn (Nat.le_refl _) (by simp [hn]) (by rw [<- List.length_map (f:=Value.int .u8),List.take_length])
theorem qtl {w:World} {b:Nat} {T:TypeId} {n:Int} (hb:w.heap[b]?=some (.cells #[.int .u8 (IntKind.wrap .u8 (Int.fdiv n (2^24))),.int .u8 (IntKind.wrap .u8 (Int.fdiv n (2^16))),.int .u8 (IntKind.wrap .u8 (Int.fdiv n (2^8))),.int .u8 (IntKind.wrap .u8 n)] T (0,0))):RdB [] w ⟨some ⟨b,0,none⟩,4,4⟩ (be n 4):=by
 rw [quG]
 exact Buf.rds qas (qnT (n:=4) hb rfl) fun _ _ h=>nomatch h
section
variable {S:List Nat} {w:World} {s:Sl}
theorem qtE {n:Nat} {K:Sl->World->Prop} (hn:n<=1000000) (kk:∀ s' B w',BufB w' s' [] B->Fr [] w w'->(∀ b∈B,w.heap.size<=b)->K s' w') :
  call Tryz.prog 210 [.slice none 0 0,.int .i64 n] [.one .slice] w K:=by
 obtain ⟨inf,hi,hz,hsz,hby⟩:=qj4
 refine qkS (s:=⟨none,0,0⟩) (n:=n) ?_
 unfold qgs
 have e0:IntKind.wrap .i64 (((0:Nat):Int)-((0:Nat):Int))=0:=wi' _ (by decide)
 have e1:IntKind.wrap .i64 ((n:Int)-0)=(n:Int):=by rw [wi' _ (by omega)]; omega
 refine qag (fun _ w'=>w=w') (cond_false (decide_eq_false (by omega)) rfl) ?_
 rintro _ _ rfl
 refine qag (fun s' w'=>∃ B,BufB w' s' [] B/\Fr [] w w'/\∀ b∈B,w.heap.size<=b) ?_ (fun s' w' ⟨B,b1,f1,n1⟩=>kk s' B w' b1 f1 n1)
 dsimp only
 rw [e0,e1]
 refine qab (fun hc=>?_) (fun hc=>⟨[],.nil _ _ _,.refl _ _,fun _ h=>nomatch h⟩)
 have hpos:0<n:=by have:=of_decide_eq_true hc; omega
 refine qgR ⟨by omega,by dsimp only; omega⟩ ?_
 rw [Int.toNat_natCast]
 dsimp only
 refine qiV (e:=5) (i:=inf) (kn:=.i64) (olds:=[]) (by kernel_rfl) (by kernel_rfl) hi hz hsz rfl rfl (fun _=>rfl) (fun a ha=>nomatch ha) hpos (by omega) (by rw [hby]; omega) (by omega) fun b cs c w2 e2 hb f2 h1 h2 h3=>?_
 refine qgR ⟨by omega,by dsimp only; omega⟩ ?_
 rw [Int.toNat_natCast]
 exact ⟨[b],Buf.fresh (cap:=c) qas hb rfl (Nat.zero_le _) (by omega) rfl,f2,fun b' hb'=>by rw [List.mem_singleton.1 hb',e2]; exact Nat.le_refl _⟩
theorem qga {ps:Kps} {i:Nat} (hi:i<ps.length):((keyP ps).take (i+1)).flatten=((keyP ps).take i).flatten++ps[i].2:=by
 rw [List.take_add_one,List.getElem?_map,List.getElem?_eq_getElem hi,List.flatten_append]
 simp
theorem qeW {ps:Kps} (i:Nat):((keyP ps).take i).flatten.length<=(keyP ps).flatten.length:=by
 have:(keyP ps).flatten=((keyP ps).take i).flatten++((keyP ps).drop i).flatten:=by rw [<- List.flatten_append,List.take_append_drop]
 rw [this,List.length_append]
 omega
theorem qqO {ps:Kps} {K:Sl->World->Prop} (hs:RdK S w s ps) (hl:ps.length<=1000000) (ht:(keyP ps).flatten.length<=1000000)
  (kk:∀ s' B w',BufB w' s' (keyP ps).flatten B->Fr [] w w'->(∀ b∈B,w.heap.size<=b)->K s' w') :
  call Tryz.prog 170 [.slice s.a s.len s.cap] [.one .slice] w K:=by
 refine qiD (slices:=s) ?_
 unfold qeQ
 have hlen:=hs.len
 refine qak (fun t w'=>∃ i:Nat,t=((((keyP ps).take i).flatten.length:Int),(i:Int))/\i<=ps.length/\w'=w) (fun t _=>((ps.length:Int)-t.2).toNat) ⟨0,rfl,Nat.zero_le _,rfl⟩ ?_
 rintro t w' ⟨i,rfl,hi,rfl⟩ X hX
 dsimp only
 refine qab (fun hc=>?_) (fun hc=>?_)
 ·have hlt:i<ps.length:=by have:=of_decide_eq_true hc; omega
  have hle:=qeW (ps:=ps) (i+1)
  have hst:=qga hlt
  have hpl:=(hs.2 ps[i] (List.getElem_mem hlt)).1
  have e:IntKind.wrap .i64 ((((keyP ps).take i).flatten.length:Int)+(ps[i].1.len:Int))=(((keyP ps).take (i+1)).flatten.length:Int):=by
   rw [hst,List.length_append] at hle ⊢
   rw [wi' _ (by omega),hpl]; rfl
  refine qag (fun x w2=>x=(((keyP ps).take (i+1)).flatten.length:Int)/\w2=w') ?_ ?_
  ·refine RdK.get hs i rfl hlt ?_
   rw [e]
   exact cond_false (decide_eq_false (by omega)) ⟨rfl,rfl⟩
  ·rintro x w2 ⟨rfl,rfl⟩
   rw [qbg (by omega)]
   exact hX _ _ ⟨i+1,rfl,hlt,rfl⟩ (by dsimp only; omega)
 ·have hge:i=ps.length:=by have:=of_decide_eq_false hc; omega
  refine qtE (Nat.le_trans (qeW (ps:=ps) i) ht) fun s1 B1 w1 b1 f1 n1=>?_
  refine qak (fun t w2=>∃ (j:Nat) (s2:Sl) (B2:List Nat),t=(s2,(j:Int))/\j<=ps.length/\BufB w2 s2 ((keyP ps).take j).flatten B2/\Fr [] w' w2/\∀ b∈B2,w'.heap.size<=b) (fun t _=>((ps.length:Int)-t.2).toNat) ⟨0,s1,B1,rfl,Nat.zero_le _,b1,f1,n1⟩ ?_
  rintro t w2 ⟨j,s2,B2,rfl,hj,b2,f2,n2⟩ X hX
  dsimp only
  refine qab (fun hc=>?_) (fun hc=>?_)
  ·have hlt:j<ps.length:=by have:=of_decide_eq_true hc; omega
   have hle:=qeW (ps:=ps) (j+1)
   have hst:=qga hlt
   have hs2:=hs.frame0 f2
   refine RdK.get hs2 j rfl hlt ?_
   refine qdp b2 (hs2.2 ps[j] (List.getElem_mem hlt)) (by rw [hst,List.length_append] at hle; omega) fun s3 B3 w3 b3 f3 n3=>?_
   rw [qbg (by omega)]
   refine hX _ _ ⟨j+1,s3,B3,rfl,hlt,by rw [hst]; exact b3,f2.trans' f3 fun i hi=>.inr (n2 i hi),fun b hb=>?_⟩ (by dsimp only; omega)
   rcases n3 b hb with h | h
   ·exact n2 b h
   ·exact Nat.le_trans f2.size h
  ·have hge:j=ps.length:=by have:=of_decide_eq_false hc; omega
   rw [hge,List.take_of_length_le (by rw [List.length_map]; exact Nat.le_refl _)] at b2
   exact kk s2 B2 w2 b2 f2 n2
theorem qsS {x:NdC} {n:NodeM} {k v:Nat} {K:Int×Sl×Int->World->Prop} (hx:NodeR S w x n) (h1:n.keys.length<=1000000) (h2:n.vals.length<=1000000) (h3:n.kids.length<=1000000)
  (kk:∀ s w',(∀ G:List Nat,(∀ b∈G,b<w.heap.size)->RdB G w' s (writeNV n k v).2.1)->Fr [] w w'->K ((writeNV n k v).1,s,(writeNV n k v).2.2) w') :
  call Tryz.prog 135 [.agg (ndV x),.int .i64 k,.int .i64 v] [.one (.int .u8),.one .slice,.one (.int .i64)] w K:=by
 have hx0:=hx
 obtain ⟨h0,hNB,⟨pk,hpk,hkeys⟩,⟨pv,hpv,hvals⟩,hkid⟩:=hx
 refine ql6 (n0:=x.1) (n1:=x.2.1) (n2:=x.2.2.1) (n3:=x.2.2.2) (k:=k) (v:=v) ?_
 unfold qim
 refine Own.new' (Own.start [] w) fun r1 w1 e1 f1 h=>?_
 refine Own.ldA (cl:=qaa) h 0 rfl x rfl ?_
 refine qmS (x:=x) (hx0.frame0 f1) h1 h2 h3 fun w2 f2=>?_
 have h:=h.frame0 f2
 refine qab (fun hc=>?_) (fun hc=>?_)
 ·have hn:¬ rightV n k v:=of_decide_eq_false (by simpa using hc)
  have:=kk ⟨none,0,0⟩ w2 (fun G _=>by unfold writeNV; rw [if_neg hn]; exact .nil _ _ _ _) h.fr
  unfold writeNV at this
  rw [if_neg hn] at this
  exact this
 have hR:rightV n k v:=of_decide_eq_true (by simpa using hc)
 have hW:writeNV n k v=(kindN n,bodyN n,0):=by unfold writeNV; rw [if_pos hR]
 rw [hW] at kk
 have hbl:=(qdH hR).2
 have l1:pk.length=n.keys.length:=by rw [<- hkeys,List.length_map]
 have l2:pv.length=n.vals.length:=by rw [<- hvals,List.length_map]
 have n1:x.2.1.len=n.keys.length:=by rw [hpk.len,l1]
 have n3:x.2.2.2.len=n.kids.length:=hkid.1
 have fin:∀ {s' B w'},BufB w' s' (bodyN n) B->(∀ b∈B,w.heap.size<=b)->Fr [] w w'->K (kindN n,s',0) w':=fun b hB f=>kk _ _ (fun G hG=>b.rds qas fun c hc hm=>by have:=hB c hc; have:=hG c hm; omega) f
 refine Own.ld (c:=.bool) h 0 rfl x.1 rfl ?_
 refine qab (fun hc=>?_) (fun hc=>?_)
 ·rw [h0] at hc
  have hbody:bodyN n=be n.keys.length 2++(n.keys.zip n.vals).flatMap (fun x=>x.1++x.2):=by unfold bodyN; rw [if_pos hc]; rfl
  have hkind:kindN n=3:=by unfold kindN; rw [if_pos hc]
  have hrl:=hR.2.2.2
  rw [if_pos hc] at hrl
  have hzl:(n.keys.zip n.vals).length=n.keys.length:=by rw [List.length_zip,hrl.2.2.2,Nat.min_self]
  refine Own.ld (c:=.slice) h 0 rfl x.2.1 rfl ?_
  refine Own.ld (c:=.slice) h 0 rfl x.2.1 rfl ?_
  refine Own.new' h fun r9 w3 e3 f3 h=>?_
  refine Own.ld (c:=.slice) h 1 rfl x.2.1 rfl ?_
  have h9:=h.at (i:=0) rfl
  have h1':=h.sub (L':=[(r1,.cells (ndV x) 143)]) (List.sublist_cons_self _ _)
  have hr9:r1≠r9:=fun e=>by have:=h.nodup; simp [e] at this
  have hr9n:w.heap.size<=r9:=(h.own (r9,_) (List.mem_cons_self ..)).elim (fun h=>nomatch h) id
  refine qak (fun t w'=>∃ (i:Nat) (s2:Sl) (B2:List Nat),t=(s2,(i:Int))/\i<=n.keys.length/\BufB w' s2 (be n.keys.length 2++((n.keys.zip n.vals).take i).flatMap (fun x=>x.1++x.2)) B2/\Own [] w w' [(r1,.cells (ndV x) 143)]/\r1∉B2/\∀ b∈B2,w.heap.size<=b) (fun t _=>((n.keys.length:Int)-t.2).toNat)
   ⟨0,_,[r9],rfl,Nat.zero_le _,?_,h1',by simpa using hr9,fun b hb=>by rw [List.mem_singleton.1 hb]; exact hr9n⟩ ?_
  ·rw [qug,List.take_zero,List.flatMap_nil,List.append_nil]
   refine qnT (T:=5) ?_ rfl
   rw [n1] at h9
   exact h9
  rintro t w4 ⟨i,s2,B2,rfl,hi,b2,ho,hr2,hB2⟩ X hX
  dsimp only
  refine qab (fun hc=>?_) (fun hc=>?_)
  ·have hlt:i<n.keys.length:=by have:=of_decide_eq_true hc; omega
   have hlv:i<n.vals.length:=by omega
   have hk4:=hpk.frame0 ho.fr
   refine RdK.get hk4 i rfl (by omega) ?_
   have hod:=ho.drew
   refine Own.ld (c:=.slice) hod 0 rfl x.2.2.1 rfl ?_
   have hv4:=hpv.frame0 hod.fr
   have hlpv:i<pv.length:=by omega
   have hlpk:i<pk.length:=by omega
   refine RdK.get' hv4 i rfl hlpv fun a ha hh=>?_
   have hki:n.keys[i]?=some pk[i].2:=by rw [<- hkeys,List.getElem?_map,List.getElem?_eq_getElem hlpk]; rfl
   have hvi:n.vals[i]?=some pv[i].2:=by rw [<- hvals,List.getElem?_map,List.getElem?_eq_getElem hlpv]; rfl
   have hz:(n.keys.zip n.vals)[i]?=some (pk[i].2,pv[i].2):=List.getElem?_zip_eq_some.2 ⟨hki,hvi⟩
   have hst:((n.keys.zip n.vals).take (i+1)).flatMap (fun x=>x.1++x.2)=((n.keys.zip n.vals).take i).flatMap (fun x=>x.1++x.2)++(pk[i].2++pv[i].2):=by
    rw [List.take_add_one,hz,List.flatMap_append]; simp
   have hle:(be n.keys.length 2++((n.keys.zip n.vals).take (i+1)).flatMap (fun x=>x.1++x.2)).length<=500:=by
    refine Nat.le_trans ?_ hbl
    rw [hbody,List.length_append,List.length_append]
    have e:(n.keys.zip n.vals).flatMap (fun x=>x.1++x.2)=((n.keys.zip n.vals).take (i+1)).flatMap (fun x=>x.1++x.2)++((n.keys.zip n.vals).drop (i+1)).flatMap (fun x=>x.1++x.2):=by rw [<- List.flatMap_append,List.take_append_drop]
    rw [e,List.length_append]
    omega
   rw [hst,List.length_append,List.length_append,List.length_append] at hle
   have hld:=ho.drew
   refine qdp (w:=w4.drew) (b2.frame0 (Fr.refl [] w4).drew) ((hk4.2 pk[i] (List.getElem_mem hlpk)).frame0 (Fr.refl [] w4).drew) (by rw [List.length_append]; omega) fun s3 B3 w5 b3 f5 n5=>?_
   have ho5:=hod.frame f5 (fun i hi=>.inr (hB2 i hi)) (fun p hp=>by rw [List.mem_singleton.1 hp]; exact hr2)
   have hn5:∀ b∈B3,w.heap.size<=b:=fun b hb=>by
    rcases n5 b hb with h | h
    ·exact hB2 b h
    ·exact Nat.le_trans hod.fr.size h
   refine qap (hh w5 (hpv.frame0 ho5.fr)) (ho5.cell 0 rfl rfl) ?_
   have hr3:r1∉B3:=fun hm=>by
    rcases n5 r1 hm with h | h
    ·exact hr2 h
    ·have:=qac (hod.at (i:=0) rfl); dsimp only at this; omega
   refine qdp b3 ((hpv.frame0 ho5.fr).2 pv[i] (List.getElem_mem hlpv)) (by rw [List.length_append,List.length_append]; omega) fun s6 B6 w6 b6 f6 n6=>?_
   have ho6:=ho5.frame f6 (fun i hi=>.inr (hn5 i hi)) (fun p hp=>by rw [List.mem_singleton.1 hp]; exact hr3)
   rw [qbg (by omega)]
   refine hX _ _ ⟨i+1,s6,B6,rfl,hlt,by rw [hst,<- List.append_assoc,<- List.append_assoc]; exact b6,ho6,fun hm=>?_,fun b hb=>?_⟩ (by dsimp only; omega)
   ·rcases n6 r1 hm with h | h
    ·exact hr3 h
    ·have:=qac (ho5.at (i:=0) rfl); dsimp only at this; omega
   ·rcases n6 b hb with h | h
    ·exact hn5 b h
    ·exact Nat.le_trans ho5.fr.size h
  ·have hge:i=n.keys.length:=by have:=of_decide_eq_false hc; omega
   rw [hge,<- hzl,List.take_length,hzl,<- hbody] at b2
   have:=fin b2 hB2 ho.fr
   rw [hkind] at this
   exact this
 ·rw [h0] at hc
  have hnc:¬ n.leaf=true:=by rw [hc]; decide
  have hbody:bodyN n=be n.kids.length 2++n.kids.flatMap (fun x=>be x 4)++n.keys.flatten:=by unfold bodyN; rw [if_neg hnc]
  have hkind:kindN n=4:=by unfold kindN; rw [if_neg hnc]
  refine Own.ld (c:=.slice) h 0 rfl x.2.2.2 rfl ?_
  refine Own.ld (c:=.slice) h 0 rfl x.2.2.2 rfl ?_
  refine Own.new' h fun r9 w3 e3 f3 h=>?_
  refine Own.ld (c:=.slice) h 1 rfl x.2.2.2 rfl ?_
  have h9:=h.at (i:=0) rfl
  have h1':=h.sub (L':=[(r1,.cells (ndV x) 143)]) (List.sublist_cons_self _ _)
  have hr9:r1≠r9:=fun e=>by have:=h.nodup; simp [e] at this
  have hr9n:w.heap.size<=r9:=(h.own (r9,_) (List.mem_cons_self ..)).elim (fun h=>nomatch h) id
  have hlb:(be n.kids.length 2++n.kids.flatMap (fun x=>be x 4)).length+n.keys.flatten.length<=500:=by rw [<- List.length_append,<- hbody]; exact hbl
  refine qak (fun t w'=>∃ (i:Nat) (s2:Sl) (B2:List Nat),t=(s2,(i:Int))/\i<=n.kids.length/\BufB w' s2 (be n.kids.length 2++(n.kids.take i).flatMap (fun x=>be x 4)) B2/\Own [] w w' [(r1,.cells (ndV x) 143)]/\r1∉B2/\∀ b∈B2,w.heap.size<=b) (fun t _=>((n.kids.length:Int)-t.2).toNat)
   ⟨0,_,[r9],rfl,Nat.zero_le _,?_,h1',by simpa using hr9,fun b hb=>by rw [List.mem_singleton.1 hb]; exact hr9n⟩ ?_
  ·rw [qug,List.take_zero,List.flatMap_nil,List.append_nil]
   refine qnT (T:=5) ?_ rfl
   rw [n3] at h9
   exact h9
  rintro t w4 ⟨i,s2,B2,rfl,hi,b2,ho,hr2,hB2⟩ X hX
  dsimp only
  refine qab (fun hc=>?_) (fun hc=>?_)
  ·have hlt:i<n.kids.length:=by have:=of_decide_eq_true hc; omega
   have hki:n.kids[i]?=some n.kids[i]:=List.getElem?_eq_getElem hlt
   refine Rds.get (c:=.int .u32) (hkid.frame0 ho.fr) i rfl hki (y:=n.kids[i]) rfl ?_
   refine Own.new' ho fun r6 w5 e5 f5 h5=>?_
   have h56:=h5.at (i:=0) rfl
   have hst:(n.kids.take (i+1)).flatMap (fun x=>be x 4)=(n.kids.take i).flatMap (fun x=>be x 4)++be n.kids[i] 4:=by
    rw [List.take_add_one,hki,List.flatMap_append]; simp
   have hle:(be n.kids.length 2++(n.kids.take (i+1)).flatMap (fun x=>be x 4)).length<=500:=by
    have e:n.kids.flatMap (fun x=>be x 4)=(n.kids.take (i+1)).flatMap (fun x=>be x 4)++(n.kids.drop (i+1)).flatMap (fun x=>be x 4):=by rw [<- List.flatMap_append,List.take_append_drop]
    rw [e,List.length_append,List.length_append] at hlb
    rw [List.length_append]
    omega
   rw [hst,List.length_append,List.length_append] at hle
   have hlit:RdB [] w5 ⟨some ⟨r6,0,none⟩,4,4⟩ (be n.kids[i] 4):=qtl (T:=5) h56
   have hlen4:=qam n.kids[i] 4
   generalize be n.kids[i] 4=four at hst hle hlit hlen4
   refine qdp (src:=⟨some ⟨r6,0,none⟩,4,4⟩) (ys:=four) (b2.frame0 f5) hlit (by rw [List.length_append]; omega) fun s6 B6 w6 b6 f6 n6=>?_
   have h51:=h5.sub (L':=[(r1,.cells (ndV x) 143)]) (List.sublist_cons_self _ _)
   have ho6:=h51.frame f6 (fun i hi=>.inr (hB2 i hi)) (fun p hp=>by rw [List.mem_singleton.1 hp]; exact hr2)
   rw [qbg (by omega)]
   refine hX _ _ ⟨i+1,s6,B6,rfl,hlt,by rw [hst,<- List.append_assoc]; exact b6,ho6,fun hm=>?_,fun b hb=>?_⟩ (by dsimp only; omega)
   ·rcases n6 r1 hm with h | h
    ·exact hr2 h
    ·have:=qac (h51.at (i:=0) rfl); dsimp only at this; omega
   ·rcases n6 b hb with h | h
    ·exact hB2 b h
    ·exact Nat.le_trans h51.fr.size h
  ·have hge:i=n.kids.length:=by have:=of_decide_eq_false hc; omega
   rw [hge,List.take_length] at b2
   refine Own.ld (c:=.slice) ho 0 rfl x.2.1 rfl ?_
   refine qqO (hpk.frame0 ho.fr) (by omega) (by rw [hkeys]; omega) fun s5 B5 w5 b5 f5 n5=>?_
   rw [hkeys] at b5
   refine qdp (b2.frame0 f5) (b5.rds qas (S:=[]) (fun _ _ h=>nomatch h)) (by omega) fun s6 B6 w6 b6 f6 n6=>?_
   rw [<- hbody] at b6
   have:=fin b6 (fun b hb=>by
    rcases n6 b hb with h | h
    ·exact hB2 b h
    ·exact Nat.le_trans (Nat.le_trans ho.fr.size f5.size) h) ((ho.fr.trans f5).trans' f6 fun i hi=>.inr (hB2 i hi))
   rw [hkind] at this
   exact this
end
end
abbrev ND:TypeId:=143
theorem qdK {k v:Nat}:∀ (c:Nat) (b:List Int),(leafR k v c b).1.length=c/\(leafR k v c b).2.length=c
 | 0,_=>⟨rfl,rfl⟩
 | c+1,b=>by
  have:=qdK (k:=k) (v:=v) c (b.drop (k+v))
  exact ⟨by rw [leafR,List.length_cons,this.1],by rw [leafR,List.length_cons,this.2]⟩
theorem qjQ {k v:Nat}:∀ (c:Nat) (b:List Int),leafR k v (c+1) b=((leafR k v c b).1++[(b.drop (c*(k+v))).take k],(leafR k v c b).2++[((b.drop (c*(k+v))).drop k).take v])
 | 0,b=>by simp [leafR]
 | c+1,b=>by
  have ih:=qjQ (k:=k) (v:=v) c (b.drop (k+v))
  have e:(k+v)+c*(k+v)=(c+1)*(k+v):=by rw [Nat.add_mul]; omega
  rw [leafR,ih]
  simp only [List.drop_drop,e]
  rfl
theorem qj7:∀ (c:Nat) (b:List Int),kidsR (c+1) b=kidsR c b++[getV ((b.drop (c*4)).take 4)]
 | 0,b=>by simp [kidsR]
 | c+1,b=>by
  have ih:=qj7 c (b.drop 4)
  have e:4+c*4=(c+1)*4:=by omega
  rw [kidsR,ih,List.drop_drop,e]
  rfl
theorem qjG {k:Nat}:∀ (c:Nat) (b:List Int),keysR k (c+1) b=keysR k c b++[(b.drop (c*k)).take k]
 | 0,b=>by simp [keysR]
 | c+1,b=>by
  have ih:=qjG (k:=k) c (b.drop k)
  have e:k+c*k=(c+1)*k:=by rw [Nat.add_mul]; omega
  rw [keysR,ih,List.drop_drop,e]
  rfl
theorem qhc:∀ (c:Nat) (b:List Int),(kidsR c b).length=c
 | 0,_=>rfl
 | c+1,b=>by rw [kidsR,List.length_cons,qhc c]
theorem qg0 {k:Nat}:∀ (c:Nat) (b:List Int),(keysR k c b).length=c
 | 0,_=>rfl
 | c+1,b=>by rw [keysR,List.length_cons,qg0 c]
theorem appK {w:World} {s x:Sl} {l:List Sl} {B:List Nat} {vb:Nat} {T':TypeId} {K:Sl->World->Prop} (h:Buf encSl 1 w s l B) (hl:l.length<=100000) (hv:w.heap[vb]?=some (.cells #[elSl x] T' (0,0)))
  (kk:∀ s' B' w',Buf encSl 1 w' s' (l++[x]) B'->Fr B w w'->(∀ b∈B',b∈B\/w.heap.size<=b)->K s' w') :
  Pt.run [Ty1.one Cell.slice] ((Builtin.append_ #[22,22] 22 #[.slice s.a s.len s.cap,.slice (some ⟨vb,0,none⟩) 1 1]).run Tryz.prog w) K:=by
 obtain ⟨inf,hi1,hz,hsz,hby⟩:=qjt
 refine Buf.appSrc (ys:=[x]) (e:=23) h qb0 (by kernel_rfl) hi1 hz hsz rfl (.ofSlice w (e':=23) (by kernel_rfl) _ 1 1 _ rfl (fun j u hj=>?_) fun u hu=>?_) rfl (by rw [hby]; omega) (by omega) fun s' B' w' b' f' n' _=>kk s' B' w' b' f' n'
 ·rw [Addr.add_mk,qai hv,Nat.zero_add]
  rw [List.flatMap_cons,List.flatMap_nil,List.append_nil] at hj
  simpa [encSl] using hj
 ·rw [List.flatMap_cons,List.flatMap_nil,List.append_nil] at hu
  rw [List.mem_singleton.1 hu]; rfl
theorem qo0 {w:World} {s:Sl} {x:Int} {l:List Int} {B:List Nat} {vb:Nat} {T':TypeId} {K:Sl->World->Prop} (h:Buf encU 1 w s l B) (hl:l.length<=100000) (hv:w.heap[vb]?=some (.cells #[.int .u32 x] T' (0,0)))
  (kk:∀ s' B' w',Buf encU 1 w' s' (l++[x]) B'->Fr B w w'->(∀ b∈B',b∈B\/w.heap.size<=b)->K s' w') :
  Pt.run [Ty1.one Cell.slice] ((Builtin.append_ #[92,92] 92 #[.slice s.a s.len s.cap,.slice (some ⟨vb,0,none⟩) 1 1]).run Tryz.prog w) K:=by
 obtain ⟨inf,hi1,hz,hsz,hby⟩:=qdq
 refine Buf.appSrc (ys:=[x]) (e:=37) h qaT (by kernel_rfl) hi1 hz hsz rfl (.ofSlice w (e':=37) (by kernel_rfl) _ 1 1 _ rfl (fun j u hj=>?_) fun u hu=>?_) rfl (by rw [hby]; omega) (by omega) fun s' B' w' b' f' n' _=>kk s' B' w' b' f' n'
 ·rw [Addr.add_mk,qai hv,Nat.zero_add]
  rw [List.flatMap_cons,List.flatMap_nil,List.append_nil] at hj
  simpa [encU] using hj
 ·rw [List.flatMap_cons,List.flatMap_nil,List.append_nil] at hu
  rw [List.mem_singleton.1 hu]; rfl
abbrev takerV (rt:Nat):Value:=.func (.func 215) #[] #[.pointer (some ⟨rt,0,none⟩)]
theorem qnm {w0 w:World} {L:List (Nat×Obj)} {rt i m:Nat} {s:Sl} {b:List Int} {T:TypeId} {K:Sl->World->Prop} (h:Own [] w0 w L) (hi:L[i]?=some (rt,.cells #[elSl s] T (0,0))) (hr:RdB [] w0 s b) (hm:m<=b.length) (hl:b.length<=1000000)
  (kk:∀ s' B' sN w',Own [] w0 w' (L.set i (rt,.cells #[elSl sN] T (0,0)))->BufB w' s' (b.take m) B'->(∀ c∈B',w.heap.size<=c)->RdB [] w0 sN (b.drop m)->Fr [rt] w w'->K s' w') :
  callV Tryz.prog (takerV rt) [.int .i64 m] [.one .slice] w K:=by
 refine qba (lb:=[.pointer (some ⟨rt,0,none⟩)]) rfl (by kernel_rfl) ?_
 refine qiK (n:=m) (cap0:=⟨rt,0,none⟩) ?_
 unfold qev
 refine Own.ld (c:=.slice) h i hi s rfl ?_
 refine Rds.part (S:=[]) hr (lo:=none) (hi:=some (m:Int)) 0 m rfl rfl (Nat.zero_le _) hm fun s1 _ h1 _=>?_
 rw [List.drop_zero] at h1
 refine qaR (h1.frame0 h.fr) (by rw [List.length_take]; omega) fun s2 B2 w2 b2 f2 n2 _ _=>?_
 have h2:=h.frame0 f2
 refine Own.ld (c:=.slice) h2 i hi s rfl ?_
 refine Rds.part (S:=[]) hr (lo:=some (m:Int)) (hi:=none) m b.length rfl (by rw [Option.getD_none,hr.1]) hm (Nat.le_refl _) fun s3 _ h3 _=>?_
 rw [List.take_length] at h3
 have hrt:=qac (h.at hi)
 refine Own.st' h2 i hi #[elSl s3] rfl rfl (Nat.le_refl _) fun w3 ho3 f3=>kk s2 B2 s3 w3 ho3 (b2.frame f3 fun c hc hm=>?_) n2 h3 ((f2.mono fun _ h _=>nomatch h).trans f3)
 have:=n2 c hc
 rw [List.mem_singleton.1 hm] at this
 dsimp only at hrt
 omega
def getO (x:NdC) (o:Nat):Sl:=if o=1 then x.2.1 else x.2.2.1
def setO (x:NdC) (o:Nat) (s:Sl):NdC:=if o=1 then (x.1,s,x.2.2) else (x.1,x.2.1,s,x.2.2.2)
theorem qkx {x:NdC} {o:Nat} (ho:o=1\/o=2):(ndV x)[o]?=some (elSl (getO x o)):=by rcases ho with rfl | rfl <;> rfl
theorem qti {x:NdC} {o:Nat} {s:Sl} (ho:o=1\/o=2):splice (ndV x) o [elSl s]=ndV (setO x o s):=by rcases ho with rfl | rfl <;> rfl
theorem qpI {w0 w:World} {L:List (Nat×Obj)} {r5 rt m o:Nat} {x:NdC} {s':Sl} {b:List Int} {l:List Sl} {Bk:List Nat} {T:TypeId} {K:World->Prop} (ho:o=1\/o=2)
  (h:Own [] w0 w ((r5,.cells (ndV x) ND (0,0))::(rt,.cells #[elSl s'] T (0,0))::L)) (hr:RdB [] w0 s' b) (hm:m<=b.length) (hbl:b.length<=1000000)
  (hbuf:Buf encSl 1 w (getO x o) l Bk) (hBk:∀ c∈Bk,w0.heap.size<=c/\c∉r5::rt::L.map (·.1)) (hl:l.length<=100000)
  (kk:∀ sn sN s20 Bk' w',Own [] w0 w' ((r5,.cells (ndV (setO x o s20)) ND (0,0))::(rt,.cells #[elSl sN] T (0,0))::L)->RdB [] w0 sN (b.drop m)->Buf encSl 1 w' s20 (l++[sn]) Bk'->
   (∀ c∈Bk',c∈Bk\/w.heap.size<=c)->(∀ c∈Bk',c∉r5::rt::L.map (·.1))->Fr (r5::rt::Bk) w w'->(∀ G:List Nat,(∀ c∈G,c<w.heap.size\/c∈Bk')->RdB G w' sn (b.take m))->K w') :
  (ld Cell.slice ⟨r5,o,none⟩ (World.drew w)<|
    fun (s_13:Sl)=>
    callV Tryz.prog (takerV rt) ([Value.int IntKind.i64 m]) ([Ty1.one Cell.slice]) (World.drew w)<|
    fun (s_14:Sl) (w_15:World)=>
    held [fun (w_16:Go.World)=>World.cell? w_16 ⟨r5,o,none⟩=some (Value.slice s_13.a s_13.len s_13.cap)] w_15<|
    new (Obj.cells #[Value.slice s_14.a s_14.len s_14.cap] 23) w_15<|
    fun (r_17:Nat) (w_18:World)=>
    held [fun (w_19:Go.World)=>World.cell? w_19 ⟨r5,o,none⟩=some (Value.slice s_13.a s_13.len s_13.cap)] w_18<|
    run [Ty1.one Cell.slice] ((Builtin.append_ (#[22,22]) 22 (#[Value.slice s_13.a s_13.len s_13.cap,Value.slice (some ⟨r_17,0,none⟩) 1 1])).run Tryz.prog w_18)<|
    fun (s_20:Sl) (w_21:World)=>
    st ⟨r5,o,none⟩ ([Value.slice s_20.a s_20.len s_20.cap]) w_21 K):=by
 have hd:=h.drew
 refine Own.ld (c:=.slice) hd 0 rfl (getO x o) (qkx ho) ?_
 refine qnm hd (i:=1) rfl hr hm hbl fun s14 B14 sN w15 h15 b14 n14 hN f15=>?_
 have h15:Own [] w0 w15 ((r5,.cells (ndV x) ND (0,0))::(rt,.cells #[elSl sN] T (0,0))::L):=h15
 refine qah (h15.cell 0 rfl (qkx ho)) ?_
 refine Own.new' h15 fun r17 w18 e17 f18 h18=>?_
 refine qah (h18.cell 1 rfl (qkx ho)) ?_
 have hbuf0:Buf encSl 1 w.drew (getO x o) l Bk:=hbuf
 have hb15:=hbuf0.frame f15 fun c hc hm=>(hBk c hc).2 (by rw [List.mem_singleton.1 hm]; simp)
 have hb18:=hb15.frame0 f18
 refine appK hb18 hl (h18.at (i:=0) rfl) fun s20 Bk' w21 b21 f21 n21=>?_
 have h180:=h18.sub (L':=(r5,.cells (ndV x) ND (0,0))::(rt,.cells #[elSl sN] T (0,0))::L) (List.sublist_cons_self _ _)
 have hs1:w.heap.size<=w15.heap.size:=f15.size
 have hs2:=f18.size
 have hs3:=f21.size
 have hLlt:∀ c∈r5::rt::L.map (·.1),c<w.heap.size:=fun c hc=>by
  obtain ⟨p,hp,rfl⟩:=List.mem_map.1 (show c∈((r5,Obj.cells (ndV x) ND (0,0))::(rt,.cells #[elSl s'] T (0,0))::L).map (·.1) from hc)
  exact qac (h.blk p hp)
 have hnotB:∀ p∈((r5,Obj.cells (ndV x) ND (0,0))::(rt,.cells #[elSl sN] T (0,0))::L),p.1∉Bk:=fun p hp hm=>(hBk p.1 hm).2 (List.mem_map_of_mem (f:=(·.1)) hp)
 have h21:=h180.frame f21 (fun i hi=>.inr (hBk i hi).1) hnotB
 have hBk':∀ c∈Bk',c∈Bk\/w.heap.size<=c:=fun c hc=>(n21 c hc).elim .inl fun h=>.inr (by omega)
 have hBn:∀ c∈Bk',c∉r5::rt::L.map (·.1):=fun c hc hm=>by
  rcases hBk' c hc with h | h
  ·exact (hBk c h).2 hm
  ·have:=hLlt c hm; omega
 refine Own.st' h21 0 rfl (ndV (setO x o s20)) (qti ho) rfl (by rcases ho with rfl | rfl <;> exact Nat.le_of_ble_eq_true rfl) fun w22 h22 f22=>?_
 have h5:∀ c∈Bk',c∉[r5]:=fun c hc hm=>hBn c hc (by rw [List.mem_singleton.1 hm]; simp)
 have fr1:Fr (r5::rt::Bk) w15 w22:=((f18.mono fun _ h _=>nomatch h).trans (f21.mono fun i hi _=>by simp [hi])).trans (f22.mono fun i hi _=>by simp [List.mem_singleton.1 hi])
 have fr0:Fr (r5::rt::Bk) w w22:=((Fr.refl _ w).drew.trans (f15.mono fun i hi _=>by simp [List.mem_singleton.1 hi])).trans fr1
 refine kk s14 sN s20 Bk' w22 h22 hN (b21.frame f22 h5) hBk' hBn fr0 fun G hG=>?_
 have hG15:∀ c∈B14,c∉r5::rt::Bk++G.filter fun c=>decide (c<w.heap.size):=fun c hc hm=>by
  have h1:w.heap.size<=c:=n14 c hc
  rcases List.mem_append.1 hm with hm | hm
  ·rcases List.mem_cons.1 hm with rfl | hm
   ·have:=hLlt c (by simp); omega
   ·rcases List.mem_cons.1 hm with rfl | hm
    ·have:=hLlt c (by simp); omega
    ·have:=hbuf.lt c hm; omega
  ·have:=(List.mem_filter.1 hm).2
   simp at this
   omega
 refine (b14.rds qas hG15).frame (fr1.mono fun i hi _=>List.mem_append_left _ hi) fun c hc=>?_
 rcases hG c hc with h1 | h1
 ·exact .inl (List.mem_append_right _ (List.mem_filter.2 ⟨hc,by simpa using h1⟩))
 ·rcases n21 c h1 with h2 | h2
  ·exact .inl (List.mem_append_left _ (by simp [h2]))
  ·exact .inr (by omega)
section
theorem qe6 {S:List Nat} {w0 w:World} {L L':List (Nat×Obj)} (h:Own S w0 w L) (p:L.Perm L'):Own S w0 w L':=⟨fun x hx=>h.blk x (p.mem_iff.2 hx),(p.map _).nodup_iff.1 h.nodup,h.fr,fun x hx=>h.own x (p.mem_iff.2 hx)⟩
theorem qb2 {α:Type} {enc:α->List Value} {k:Nat} {w:World} {s:Sl} {l:List α} {B:List Nat} (h:Buf enc k w s l B):B.Nodup:=by
 rcases h with ⟨_,_,rfl⟩ | ⟨b,_,_,_,rfl,_⟩ <;> simp
def Els (w:World) (ps:Kps) (T:List Nat):Prop:=∀ p∈ps,RdB T w p.1 p.2
theorem Els.frame {w w':World} {ps:Kps} {T T' S:List Nat} (h:Els w ps T) (f:Fr S w w') (hS:∀ b∈S,b∈T) (hT:∀ b∈T',b∈T\/w.heap.size<=b):Els w' ps T':=fun p hp=>(h p hp).frame (f.mono fun i hi _=>hS i hi) hT
theorem Els.snoc {w:World} {ps:Kps} {T:List Nat} {s:Sl} {a:Key} (h:Els w ps T) (g:RdB T w s a):Els w (ps++[(s,a)]) T:=fun p hp=>by
 rcases List.mem_append.1 hp with hp | hp
 ·exact h p hp
 ·rw [List.mem_singleton.1 hp]; exact g
theorem qoQ {G:List Nat} {w:World} {x:NdC} {n:NodeM} {pk pv:Kps} {Bk Bv Bi T:List Nat} (h0:x.1=n.leaf) (hN:NB n) (h1:Buf encSl 1 w x.2.1 (slsP pk) Bk) (e1:keyP pk=n.keys) (h2:Buf encSl 1 w x.2.2.1 (slsP pv) Bv) (e2:keyP pv=n.vals) (h3:Buf encU 1 w x.2.2.2 n.kids Bi)
  (d1:∀ c∈Bk,c∉Bv/\c∉Bi) (d2:∀ c∈Bv,c∉Bi) (g1:Els w pk T) (g2:Els w pv T) (hT:∀ c∈G++(Bk++(Bv++Bi)),c∈T):NodeB (G++(Bk++(Bv++Bi))) w x n (Bk++(Bv++Bi)):=by
 refine ⟨h0,hN,Bk,Bv,Bi,rfl,?_,⟨pk,h1,e1,fun p hp=>(g1 p hp).weak fun c hc=>.inl (hT c hc)⟩,⟨pv,h2,e2,fun p hp=>(g2 p hp).weak fun c hc=>.inl (hT c hc)⟩,h3⟩
 refine List.nodup_append.2 ⟨qb2 h1,List.nodup_append.2 ⟨qb2 h2,qb2 h3,fun a ha b hb e=>d2 a ha (e▸hb)⟩,fun a ha b hb e=>?_⟩
 rcases List.mem_append.1 hb with hb | hb
 ·exact (d1 a ha).1 (e▸hb)
 ·exact (d1 a ha).2 (e▸hb)
section
variable {w:World} {s:Sl} {b:List Int}
theorem qtY {count k v:Nat} {K:NdC×Bool->World->Prop} (hb:RdB [] w s b) (hB:IsB b) (hl:b.length<=1000) (hc:count<=100000) (hk:1<=k/\k<=1000) (hv:v<=1000)
  (kk:∀ x B n w',(b.length=count*(k+v)->n=⟨true,(leafR k v count b).1,(leafR k v count b).2,[]⟩)->NodeB (List.range w.heap.size++B) w' x n B->Fr [] w w'->(∀ c∈B,w.heap.size<=c)->K (x,decide (b.length=count*(k+v))) w') :
  call Tryz.prog 145 [.slice s.a s.len s.cap,.int .i64 count,.int .i64 k,.int .i64 v] [.agg qaa,.one .bool] w K:=by
 refine qnX (body:=s) (count:=count) (k:=k) (v:=v) ?_
 unfold qjy
 refine Own.new' (Own.start [] w) fun r1 w1 e1 f1 h=>?_
 have hmul:count*(k+v)<=100000*2000:=Nat.mul_le_mul hc (by omega)
 have ew:IntKind.wrap .i64 ((count:Int)*IntKind.wrap .i64 ((k:Int)+(v:Int)))=((count*(k+v):Nat):Int):=by
  have e1:IntKind.wrap .i64 ((k:Int)+(v:Int))=((k+v:Nat):Int):=by rw [wi' _ (by omega)]; rfl
  rw [e1,<- Int.natCast_mul,wi' _ (by omega)]
 rw [ew]
 have hlen:=hb.1
 refine qab (fun hc1=>?_) (fun hc1=>?_)
 ·have hne:b.length≠count*(k+v):=fun e=>by
   rw [hlen,e] at hc1
   simp at hc1
  refine Own.st' h 0 rfl (ndV zeroX) rfl rfl (Nat.le_of_ble_eq_true rfl) fun w2 h f2=>?_
  refine Own.ldA (cl:=qaa) h 0 rfl zeroX rfl ?_
  have:=kk zeroX [] zeroN w2 (fun e=>absurd e hne) (.zero _ _) h.fr (fun _ h=>nomatch h)
  rw [decide_eq_false hne] at this
  exact this
 have heq:b.length=count*(k+v):=by
  have:((s.len:Int)==((count*(k+v):Nat):Int))=true:=by simpa using hc1
  have:=beq_iff_eq.1 this
  omega
 have hcl:count<=1000:=by
  have:count*1<=count*(k+v):=Nat.mul_le_mul_left _ (by omega)
  omega
 refine Own.new' h fun r5 w2 e2 f2 h=>?_
 refine Own.st' h 0 rfl (ndV (true,⟨none,0,0⟩,⟨none,0,0⟩,⟨none,0,0⟩)) rfl rfl (Nat.le_of_ble_eq_true rfl) fun w3 h f3=>?_
 refine qfI (b:=s) ?_
 unfold qec
 refine Own.new' h fun rt w4 e4 f4 h=>?_
 have h:=qe6 h (List.Perm.swap _ _ _)
 have hnd:=h.nodup
 have own:=fun p hp=>(h.own p hp).elim (fun h=>(nomatch h:False).elim) (id:w.heap.size<=p.1->_)
 refine qak (fun i w'=>∃ (c:Nat) (sk sv sn:Sl) (pk pv:Kps) (Bk Bv:List Nat),i=(c:Int)/\c<=count/\Own [] w w' [(r5,.cells (ndV (true,sk,sv,⟨none,0,0⟩)) ND (0,0)),(rt,.cells #[elSl sn] 23 (0,0)),(r1,.cells (ndV zeroX) ND (0,0))]/\
   RdB [] w sn (b.drop (c*(k+v)))/\Buf encSl 1 w' sk (slsP pk) Bk/\keyP pk=(leafR k v c b).1/\Buf encSl 1 w' sv (slsP pv) Bv/\keyP pv=(leafR k v c b).2/\(∀ c∈Bk,w.heap.size<=c/\c∉[r5,rt,r1])/\(∀ c∈Bv,w.heap.size<=c/\c∉[r5,rt,r1])/\(∀ c∈Bk,c∉Bv)/\
   Els w' pk (List.range w.heap.size++r5::rt::r1::(Bk++Bv))/\Els w' pv (List.range w.heap.size++r5::rt::r1::(Bk++Bv))) (fun i _=>((count:Int)-i).toNat)
  ⟨0,⟨none,0,0⟩,⟨none,0,0⟩,s,[],[],[],[],rfl,Nat.zero_le _,h,by rw [Nat.zero_mul,List.drop_zero]; exact hb,.nil _ _ _,rfl,.nil _ _ _,rfl,fun _ h=>(nomatch h),fun _ h=>(nomatch h),fun _ h=>(nomatch h),fun _ h=>(nomatch h),fun _ h=>(nomatch h)⟩ ?_
 rintro _ w' ⟨c,sk,sv,sn,pk,pv,Bk,Bv,rfl,hcc,h,hsn,hbk,ek,hbv,ev,nk,nv,dkv,gk,gv⟩ X hX
 have lk:pk.length=c:=by rw [<- List.length_map (f:=(·.2)),show pk.map (·.2)=keyP pk from rfl,ek,(qdK c b).1]
 have lv:pv.length=c:=by rw [<- List.length_map (f:=(·.2)),show pv.map (·.2)=keyP pv from rfl,ev,(qdK c b).2]
 have hlt3:∀ z∈[r5,rt,r1],z<w'.heap.size:=fun z hz=>by
  simp only [List.mem_cons,List.not_mem_nil,or_false] at hz
  rcases hz with rfl | rfl | rfl
  ·exact qac (h.at (i:=0) rfl)
  ·exact qac (h.at (i:=1) rfl)
  ·exact qac (h.at (i:=2) rfl)
 refine qab (fun hc2=>?_) (fun hc2=>?_)
 ·have hlt:c<count:=by have:=of_decide_eq_true hc2; omega
  have hstep:(c+1)*(k+v)<=count*(k+v):=Nat.mul_le_mul_right _ hlt
  rw [Nat.add_mul,Nat.one_mul] at hstep
  have hdl:(b.drop (c*(k+v))).length=b.length-c*(k+v):=List.length_drop
  refine qpI (o:=1) (m:=k) (.inl rfl) h hsn (by omega) (by omega) (x:=(true,sk,sv,⟨none,0,0⟩)) hbk (fun z hz=>nk z hz) (by simp; omega) fun s14 sN s20 Bk' w5 h5 hN5 b5 n5 m5 f5 g5=>?_
  have h5:Own [] w w5 [(r5,.cells (ndV (true,s20,sv,⟨none,0,0⟩)) ND (0,0)),(rt,.cells #[elSl sN] 23 (0,0)),(r1,.cells (ndV zeroX) ND (0,0))]:=h5
  have hbv5:=hbv.frame f5 fun z hz hm=>by
   simp only [List.mem_cons] at hm
   rcases hm with rfl | rfl | hm
   ·exact (nv _ hz).2 (by simp)
   ·exact (nv _ hz).2 (by simp)
   ·exact dkv z hm hz
  have hT5:∀ z∈List.range w.heap.size++r5::rt::r1::(Bk'++Bv),z∈List.range w.heap.size++r5::rt::r1::(Bk++Bv)\/w'.heap.size<=z:=fun z hz=>by
   simp only [List.mem_append,List.mem_cons] at hz ⊢
   rcases hz with hz | rfl | rfl | rfl | hz | hz
   ·exact .inl (.inl hz)
   ·simp
   ·simp
   ·simp
   ·rcases n5 z hz with h | h
    ·simp [h]
    ·exact .inr h
   ·simp [hz]
  have hS5:∀ z∈r5::rt::Bk,z∈List.range w.heap.size++r5::rt::r1::(Bk++Bv):=fun z hz=>by
   simp only [List.mem_append,List.mem_cons] at hz ⊢
   rcases hz with rfl | rfl | hz <;> simp [*]
  have gk5:=(gk.frame f5 hS5 hT5).snoc (s:=s14) (a:=(b.drop (c*(k+v))).take k) (g5 _ fun z hz=>by
   simp only [List.mem_append,List.mem_cons,List.mem_range] at hz
   have:=h.fr.size
   rcases hz with hz | rfl | rfl | rfl | hz | hz
   ·exact .inl (by omega)
   ·exact .inl (hlt3 _ (by simp))
   ·exact .inl (hlt3 _ (by simp))
   ·exact .inl (hlt3 _ (by simp))
   ·exact .inr hz
   ·exact .inl (hbv.lt z hz))
  have gv5:=gv.frame f5 hS5 hT5
  have nk5:∀ z∈Bk',w.heap.size<=z/\z∉[r5,rt,r1]:=fun z hz=>⟨by
   rcases n5 z hz with h' | h'
   ·exact (nk z h').1
   ·exact Nat.le_trans h.fr.size h',m5 z hz⟩
  have dkv5:∀ z∈Bk',z∉Bv:=fun z hz hm=>by
   rcases n5 z hz with h' | h'
   ·exact dkv z h' hm
   ·have:=hbv.lt z hm; omega
  have b5':Buf encSl 1 w5 s20 (slsP (pk++[(s14,(b.drop (c*(k+v))).take k)])) Bk':=by rw [show slsP (pk++[(s14,(b.drop (c*(k+v))).take k)])=slsP pk++[s14] by simp]; exact b5
  refine qpI (o:=2) (m:=v) (.inr rfl) h5 hN5 (by rw [List.length_drop]; omega) (by rw [List.length_drop]; omega) (x:=(true,s20,sv,⟨none,0,0⟩)) hbv5 (fun z hz=>nv z hz) (by simp; omega) fun s24 sN2 s30 Bv' w6 h6 hN6 b6 n6 m6 f6 g6=>?_
  have h6:Own [] w w6 [(r5,.cells (ndV (true,s20,s30,⟨none,0,0⟩)) ND (0,0)),(rt,.cells #[elSl sN2] 23 (0,0)),(r1,.cells (ndV zeroX) ND (0,0))]:=h6
  have hlt5:∀ z∈[r5,rt,r1],z<w5.heap.size:=fun z hz=>Nat.lt_of_lt_of_le (hlt3 z hz) f5.size
  have hbk6:=b5'.frame f6 fun z hz hm=>by
   simp only [List.mem_cons] at hm
   rcases hm with rfl | rfl | hm
   ·exact (nk5 _ hz).2 (by simp)
   ·exact (nk5 _ hz).2 (by simp)
   ·exact dkv5 z hz hm
  have hT6:∀ z∈List.range w.heap.size++r5::rt::r1::(Bk'++Bv'),z∈List.range w.heap.size++r5::rt::r1::(Bk'++Bv)\/w5.heap.size<=z:=fun z hz=>by
   simp only [List.mem_append,List.mem_cons] at hz ⊢
   rcases hz with hz | rfl | rfl | rfl | hz | hz
   ·exact .inl (.inl hz)
   ·simp
   ·simp
   ·simp
   ·simp [hz]
   ·rcases n6 z hz with h | h
    ·simp [h]
    ·exact .inr h
  have hS6:∀ z∈r5::rt::Bv,z∈List.range w.heap.size++r5::rt::r1::(Bk'++Bv):=fun z hz=>by
   simp only [List.mem_append,List.mem_cons] at hz ⊢
   rcases hz with rfl | rfl | hz <;> simp [*]
  have gv6:=(gv5.frame f6 hS6 hT6).snoc (s:=s24) (a:=((b.drop (c*(k+v))).drop k).take v) (g6 _ fun z hz=>by
   simp only [List.mem_append,List.mem_cons,List.mem_range] at hz
   have:=h5.fr.size
   rcases hz with hz | rfl | rfl | rfl | hz | hz
   ·exact .inl (by omega)
   ·exact .inl (hlt5 _ (by simp))
   ·exact .inl (hlt5 _ (by simp))
   ·exact .inl (hlt5 _ (by simp))
   ·exact .inl (b5.lt z hz)
   ·exact .inr hz)
  have gk6:=gk5.frame f6 hS6 hT6
  rw [qbg (by omega)]
  have hls:=qjQ (k:=k) (v:=v) c b
  refine hX _ _ ⟨c+1,s20,s30,sN2,pk++[(s14,(b.drop (c*(k+v))).take k)],pv++[(s24,((b.drop (c*(k+v))).drop k).take v)],Bk',Bv',rfl,hlt,h6,?_,hbk6,?_,?_,?_,nk5,fun z hz=>⟨?_,m6 z hz⟩,fun z hz hm=>?_,gk6,gv6⟩ (by omega)
  ·rw [List.drop_drop,List.drop_drop] at hN6
   have e:c*(k+v)+(k+v)=(c+1)*(k+v):=by rw [Nat.add_mul]; omega
   rw [<- e]
   exact hN6
  ·rw [hls]; simp [ek]
  ·rw [show slsP (pv++[(s24,((b.drop (c*(k+v))).drop k).take v)])=slsP pv++[s24] by simp]; exact b6
  ·rw [hls]; simp [ev]
  ·rcases n6 z hz with h' | h'
   ·exact (nv z h').1
   ·exact Nat.le_trans h5.fr.size h'
  ·rcases n6 z hm with h' | h'
   ·exact dkv5 z hz h'
   ·have:=b5.lt z hz; omega
 ·have hge:c=count:=by have:=of_decide_eq_false hc2; omega
  subst hge
  refine Own.ldA (cl:=qaa) h 0 rfl (true,sk,sv,⟨none,0,0⟩) rfl ?_
  refine Own.st' h 2 rfl (ndV (true,sk,sv,⟨none,0,0⟩)) rfl rfl (Nat.le_of_ble_eq_true rfl) fun w5 h5 f5=>?_
  refine Own.ldA (cl:=qaa) h5 2 rfl (true,sk,sv,⟨none,0,0⟩) rfl ?_
  have hn1:∀ {B:List Nat},(∀ z∈B,w.heap.size<=z/\z∉[r5,rt,r1])->∀ z∈B,z∉[r1]:=fun hB z hz hm=>(hB z hz).2 (by rw [List.mem_singleton.1 hm]; simp)
  have hs1:∀ z∈[r1],z∈List.range w.heap.size++r5::rt::r1::(Bk++Bv):=fun z hz=>by rw [List.mem_singleton.1 hz]; simp
  have:=kk (true,sk,sv,⟨none,0,0⟩) (Bk++(Bv++[])) ⟨true,(leafR k v c b).1,(leafR k v c b).2,[]⟩ w5 (fun _=>rfl)
   (qoQ (T:=List.range w.heap.size++r5::rt::r1::(Bk++Bv)) rfl ⟨(qgE c hB).1,(qgE c hB).2,fun _ h=>(nomatch h)⟩ (hbk.frame f5 (hn1 nk)) ek (hbv.frame f5 (hn1 nv)) ev (.nil _ _ _) (fun z hz=>⟨dkv z hz,fun h=>nomatch h⟩) (fun _ _ h=>nomatch h)
    (gk.frame f5 hs1 fun z hz=>.inl hz) (gv.frame f5 hs1 fun z hz=>.inl hz) fun z hz=>by
     simp only [List.append_nil,List.mem_append,List.mem_cons] at hz ⊢
     rcases hz with hz | hz | hz <;> simp [*]) h5.fr (fun z hz=>by
    rw [List.append_nil] at hz
    rcases List.mem_append.1 hz with hz | hz
    ·exact (nk z hz).1
    ·exact (nv z hz).1)
  rw [decide_eq_true heq] at this
  exact this
end
end
end Go.Proofs.YtmmkegapckbomaaGreatDoor
end
