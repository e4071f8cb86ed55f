/- Texts SuC, FormsG, PtS, PrA, PrB, PrC, PrD, PrE, PrF, PrG, FormsD, DkA, DkB, DkC, DkD, PmA, PrH, FlD, PmB, PrI, NdA, LwT, PmC, PrJ, PrK, PrL, PrM, PmD, PmE, PrN, PrQ, PmN, TrC, TrD, PtT, NdB: contracts of the program's functions, one behind the other. Conditions: those that stand in each line. -/
import Derived.Test.YtmmkegapckbomaaGreatDoorCCP2
import Derived.Test.YtmmkegapckbomaaGreatDoorCCP1
import Derived.Test.YtmmkegapckbomaaGreatDoorProg
import Derived.KernelRfl
import Derived.Laws.IdiomRangeMap
import Derived.Lib.Bytealg
import Derived.Lib.BytesEntry
import Derived.Lib.SliceRun
import Derived.Lib.Overlaps
import Derived.Lib.AppendZerosOnto
set_option linter.unusedVariables false
set_option linter.unusedSimpArgs false
section
namespace Go.Proofs.YtmmkegapckbomaaGreatDoor
open Go Go.Pt List
attribute [local irreducible] ld ldA ldV fld fldA newZ st new idx idxS idxA slc slcS slcP mkS chk nn call callV inv run runQ runU join loop held ext rng undefer s2a nxt ent IntKind.wrap
theorem qfX:((Tryz.prog.info? 121).bind (·.zero)).map (fun z=>z.cells.toList)=some (supV 0 (zs 27)):=by kernel_rfl
theorem qpx {P:Program} {t:TypeId} {z:Value} {offs:Array (Nat×Nat)} (u:(P.info? t).bind (·.zero)=some z) (A:P.underlying t=some (.struct (fieldsOf P t))) (h:∀ w,((fieldsOf P t).mapM fun f=>do pure (f.offset,<- sizeOf f.type):Sem (Array (Nat×Nat))).run P w=.ok offs w) (w:World) :
  (Instr.build t #[]).run P w=.ok (.agg z.cells) w:=by
 simp only [Instr.build,Sem.run_bind,qaH u,Result.andThen_ok,run_underlying A,h,Instr.fill,Sem.run_pure]
theorem qdO {w:World} {K:List Value->Prop} (k:K (supV 0 (zs 27))):runQ [Ty1.raw] (fun w'=>(Instr.build 121 #[]).run Tryz.prog w') w K:=by
 obtain ⟨z,u,h⟩:=yS.1 qfX
 refine qbu (ts:=[Ty1.raw]) (supV 0 (zs 27)) ?_ k
 have:=qpx (P:=Tryz.prog) (t:=121) (offs:=#[(0,1),(1,1),(2,1),(3,1),(4,24)]) u (by kernel_rfl) (fun w=>by kernel_rfl) w
 rw [this]
 show Result.ok (Value.agg z.cells) w=.ok (Value.agg (supV 0 (zs 27)).toArray) w
 rw [<- h]
theorem qdJ {cs:Array Value} {vs:List Value} (h:vs.length=cs.size):splice cs 0 vs=vs.toArray:=by
 apply Array.ext'
 rw [qas _ _ _ (by omega),take_zero,xH,drop_of_length_le (by rw [Array.length_toList]; omega),xG]
theorem qhz {q:Int} {t:List Int} (h:t.length=27):(supV q t).toArray.size=28:=by rw [size_toArray]; exact qaJ h
theorem qij {w:World} {r:Nat} {q:Int} {t:List Int} {T:TypeId} {u:Nat×Nat} {K:List Value->Prop} (A:w.heap[r]?=some (.cells (supV q t).toArray T u)) (h:t.length=27) (k:K (supV q t)):ldV 28 ⟨r,0,none⟩ w K:=
 qcf A (supV q t) (qaJ h) (by rw [xE,zS (Nat.le_of_eq (qaJ h))]) k
theorem qhR {w0 w:World} {L:List (Nat×Obj)} {r:Nat} {q E:Int} {t A:List Int} {T:TypeId} {K:WP} (G:Own [] w0 w L) (i:Nat) (hi:L[i]?=some (r,.cells (supV E A).toArray T (0,0))) (C:A.length=27) (h:t.length=27)
  (I:∀ w',Own [] w0 w' (L.set i (r,.cells (supV q t).toArray T (0,0)))->K w'):chk ((supV q t).length=28) (st ⟨r,0,none⟩ (supV q t) w K):=by
 refine qbg (qaJ h) ?_
 refine Own.st' G i hi (supV q t).toArray (qdJ (by rw [qhz C,qaJ h])) (qni _ _) (by rw [qhz C,qaJ h]; decide) fun w' u _=>I w' u
theorem qb2 {w0 w:World} {L:List (Nat×Obj)} {r:Nat} {q G:Int} {t C:List Int} {T:TypeId} {K:List Value->WP} (I:Own [] w0 w L) (i:Nat) (hi:L[i]?=some (r,.cells (supV G C).toArray T (0,0))) (J:C.length=27) (E:t.length=27)
  (O:∀ w',Fr [] w0 w'->K (supV q t) w'):chk ((supV q t).length=28) (st ⟨r,0,none⟩ (supV q t) w fun w'=>ldV 28 ⟨r,0,none⟩ w' fun Q=>K Q w'):=by
 refine qhR I i hi J E fun w' u=>?_
 have A:i<L.length:=by
  rcases Nat.lt_or_ge i L.length with h | h
  ·exact h
  ·rw [yR h] at hi; cases hi
 exact qij (u.at (i:=i) (by rw [List.getElem?_set_self A])) E (O w' u.fr)
abbrev Sup:=Int×List Int
def supZero:Sup:=(0,zs 27)
def readSV (place:Int) (l:List Int):Sup×Int:=
 if (openV place l).2.2≠0 then (supZero,(openV place l).2.2)
 else if (openV place l).1≠1\/(openV place l).2.1.length≠116 then (supZero,2)
 else if Int.tmod (parseQ (openV place l).2.1) 2≠place then (supZero,2)
 else ((parseQ (openV place l).2.1,parseT (openV place l).2.1),0)
theorem qbC (place:Int) (l:List Int):(readSV place l).1.2.length=27:=by
 unfold readSV
 split <;> (try rfl)
 split <;> (try rfl)
 split <;> rfl
def newestV (a b:List Int):Sup×Int:=
 if (readSV 0 a).2≠0/\(readSV 1 b).2≠0 then (supZero,5)
 else if (readSV 0 a).2≠0\/((readSV 1 b).2=0/\(readSV 1 b).1.1>(readSV 0 a).1.1) then ((readSV 1 b).1,0)
 else ((readSV 0 a).1,0)
theorem qi2 (a b:List Int):(newestV a b).1.2.length=27:=by
 unfold newestV
 split <;> (try rfl)
 split <;> exact qbC _ _
theorem qm5 {S:List Nat} {w:World} {s:Sl} {l:List Int} {place:Int} {K:List Value×Int->WP} (h:RdB S w s l) (hv:Hv w) (hB:IsB l) (hl:l.length<=100000) (O:place=0\/place=1)
  (hk:∀ w',Fr [] w w'->K (supV (readSV place l).1.1 (readSV place l).1.2,(readSV place l).2) w') :
  cW 162 [.i place,s.v] [.raw,.one .i] w K:=by
 refine qmx ?_
 unfold qje
 refine Own.newZ (Own.start [] w) qfX fun r1 w1 e1 u=>?_
 have Q:IntKind.wrap .u32 place=place:=by rcases O with rfl | rfl <;> kernel_rfl
 have R:IntKind.wrap .u64 place=place:=by rcases O with rfl | rfl <;> kernel_rfl
 rw [Q,R]
 refine qag (fun b w'=>b=false/\w'=w1) ?_ ?_
 ·rcases O with rfl | rfl
  ·exact cond_false rfl ⟨rfl,rfl⟩
  ·exact cond_true rfl ⟨rfl,rfl⟩
 rintro b w2 ⟨rfl,rfl⟩
 refine cond_false rfl ?_
 have C:∀ {e:Int} {w':World},readSV place l=(supZero,e)->Fr [] w w'->K (supV 0 (zs 27),e) w':=by
  intro e w' E hf
  have:=hk w' hf
  rw [E] at this
  exact this
 refine qle (h.frame0 u.fr) (hv.frame0 u.fr) hB hl fun s3 B3 w3 b3 f3 n3=>?_
 have u:=u.frame0 f3
 refine qaa (fun A=>?_) (fun A=>?_)
 ·have E:(openV place l).2.2≠0:=by simpa using A
  refine qdO ?_
  refine qb2 u 0 rfl rfl rfl fun w4 f4=>?_
  exact C (by rw [readSV,if_pos E]) f4
 have E:¬ (openV place l).2.2≠0:=by simpa using A
 refine qag (fun b w'=>b=decide ((openV place l).1≠1\/(openV place l).2.1.length≠116)/\w'=w3) ?_ ?_
 ·refine qaa (fun A=>?_) (fun A=>?_)
  ·have J:(openV place l).1≠1:=by simpa using A
   exact ⟨by simp [J],rfl⟩
  ·have J:(openV place l).1=1:=by simpa using A
   have U:s3.len=(openV place l).2.1.length:=b3.len
   refine ⟨?_,rfl⟩
   dsimp only
   rw [U]
   by_cases hx:(openV place l).2.1.length=116
   ·rw [hx]; simp [J]
   ·have:¬ (((openV place l).2.1.length:Int)=116):=by omega
    simp [J,hx,this]
 rintro b w4 ⟨rfl,rfl⟩
 refine qaa (fun A=>?_) (fun A=>?_)
 ·refine qdO ?_
  refine qb2 u 0 rfl rfl rfl fun w5 V=>?_
  exact C (by rw [readSV,if_neg E,if_pos (zC A)]) V
 have G:=zB A
 have I:(openV place l).2.1.length=116:=by
  rcases Nat.decEq (openV place l).2.1.length 116 with h | h
  ·exact absurd (Or.inr h) G
  ·exact h
 have aa:=b3.rds (S:=[]) qat (by simp)
 refine qrk aa I fun w5 V=>?_
 have u:=u.frame0 V
 refine Own.newZ u qfX fun r6 w6 e6 u=>?_
 refine qhR u 0 rfl rfl (qaN _) fun w7 u=>?_
 refine Own.ld u 0 rfl (parseQ (openV place l).2.1) rfl ?_
 refine qaa (fun A=>?_) (fun A=>?_)
 ·have hq:Int.tmod (parseQ (openV place l).2.1) 2≠place:=by simpa using A
  refine qdO ?_
  refine qb2 u 1 rfl rfl rfl fun w8 f8=>?_
  exact C (by rw [readSV,if_neg E,if_neg G,if_pos hq]) f8
 ·have hq:¬ Int.tmod (parseQ (openV place l).2.1) 2≠place:=by simpa using A
  refine qij (u.at (i:=0) rfl) (qaN _) ?_
  refine qb2 u 1 rfl rfl (qaN _) fun w8 f8=>?_
  have:=hk w8 f8
  rw [readSV,if_neg E,if_neg G,if_neg hq] at this
  exact this
theorem qqh {S:List Nat} {w:World} {U sb:Sl} {a b:List Int} {K:List Value×Int->WP} (ha:RdB S w U a) (hb:RdB S w sb b) (V:Hv w) (I:IsB a) (J:IsB b) (O:a.length<=100000) (Q:b.length<=100000)
  (R:∀ w',Fr [] w w'->K (supV (newestV a b).1.1 (newestV a b).1.2,(newestV a b).2) w') :
  cW 129 [U.v,sb.v] [.raw,.one .i] w K:=by
 refine qkD ?_
 unfold qgI
 refine Own.newZ (Own.start [] w) qfX fun r1 w1 e1 h=>?_
 refine qm5 (ha.frame0 h.fr) (V.frame0 h.fr) I O (.inl rfl) fun w2 f2=>?_
 have h:=h.frame0 f2
 refine Own.newZ h qfX fun r3 w3 e3 h=>?_
 refine qhR h 0 rfl rfl (qbC _ _) fun w4 h=>?_
 refine qm5 (hb.frame0 h.fr) (V.frame0 h.fr) J Q (.inr rfl) fun w5 f5=>?_
 have h:=h.frame0 f5
 refine Own.newZ h qfX fun r6 w6 e6 h=>?_
 refine qhR h 0 rfl rfl (qbC _ _) fun w7 h=>?_
 refine qag (fun c w'=>c=decide ((readSV 0 a).2≠0/\(readSV 1 b).2≠0)/\w'=w7) ?_ ?_
 ·refine qaa (fun u=>?_) (fun u=>?_)
  ·have A:(readSV 0 a).2≠0:=by simpa using u
   refine ⟨?_,rfl⟩
   by_cases G:(readSV 1 b).2=0 <;> simp [A,G]
  ·have A:(readSV 0 a).2=0:=by simpa using u
   exact ⟨by simp [A],rfl⟩
 rintro c w8 ⟨rfl,rfl⟩
 refine qaa (fun u=>?_) (fun u=>?_)
 ·refine qdO ?_
  refine qb2 h 2 rfl rfl rfl fun w9 f9=>?_
  have:=R w9 f9
  rw [newestV,if_pos (zC u)] at this
  exact this
 have hn:=zB u
 refine qag (fun c w'=>c=decide ((readSV 0 a).2≠0\/((readSV 1 b).2=0/\(readSV 1 b).1.1>(readSV 0 a).1.1))/\w'=w8) ?_ ?_
 ·refine qaa (fun u=>?_) (fun u=>?_)
  ·have A:(readSV 0 a).2≠0:=by simpa using u
   exact ⟨by simp [A],rfl⟩
  ·have A:(readSV 0 a).2=0:=by simpa using u
   refine qaa (fun u=>?_) (fun u=>?_)
   ·have G:(readSV 1 b).2=0:=by simpa using u
    refine Own.ld h 0 rfl (readSV 1 b).1.1 rfl ?_
    refine Own.ld h 1 rfl (readSV 0 a).1.1 rfl ?_
    refine ⟨?_,rfl⟩
    by_cases h3:(readSV 1 b).1.1>(readSV 0 a).1.1 <;> simp [A,G,h3]
   ·have G:(readSV 1 b).2≠0:=by simpa using u
    exact ⟨by simp [A,G],rfl⟩
 rintro c w9 ⟨rfl,rfl⟩
 refine qaa (fun u=>?_) (fun u=>?_)
 ·refine qij (h.at (i:=0) rfl) (qbC _ _) ?_
  refine qb2 h 2 rfl rfl (qbC _ _) fun C E=>?_
  have:=R C E
  rw [newestV,if_neg hn,if_pos (zC u)] at this
  exact this
 ·refine qij (h.at (i:=1) rfl) (qbC _ _) ?_
  refine qb2 h 2 rfl rfl (qbC _ _) fun C E=>?_
  have:=R C E
  rw [newestV,if_neg hn,if_neg (zB u)] at this
  exact this
end Go.Proofs.YtmmkegapckbomaaGreatDoor
end
section
set_option maxRecDepth 100000
namespace Go.Proofs.YtmmkegapckbomaaGreatDoor
open Go Go.Pt
@[reducible] def qkX:List Cell:=[Cell.int IntKind.u32,Cell.int IntKind.u32,Cell.int IntKind.u32]
def qea (s:Sl) (v:Int) (K:Bool->WP) (w:World):Prop:=cW 201 ([s.v,.u v]) ([.one .i]) w fun (b:Int) c=>K (decide (b>=0)) c
theorem qhM {s v w K} (hF:qea s v K w):cW 155 [s.v,.u v] [.one .bool] w K:=qad (an:=[.n,.n]) Tryz.func155 hF
def qgy (s:Sl) (v:Int) (K:Int->WP) (w:World):Prop:=loop (Int) (fun a (b:Int) c=>cond (decide (b<(↑s.len:Int))) (idx s b 1 fun d=>ld .u d c fun (e:Int)=>cond (v==e) (K b c) (a (IntKind.wrap .i64 (b+1)) c)) (K (-1) c)) 0 w
theorem qjV {s v w K} (hF:qgy s v K w):cW 201 [s.v,.u v] [.one .i] w K:=qad (an:=[.n,.n,.n,.l [(8,.one .i)],.n,.n,.n,.n,.n,.n,.n]) Tryz.func201 hF
def qgu (d:Option Addr) (K:Int->WP) (w:World):Prop:=loop (Int) (fun b (c:Int) e=>cond (decide (c<2)) (mkS 5 ([.b 0]) 1 1 512 512 e fun f g=>cW 99 ([.pointer d,.i c,f.v]) ([.one .i]) g fun (h:Int) i=>cond (!h==0) (K h i) (b (IntKind.wrap .i64 (c+1)) i)) (cW 100 ([.pointer d]) ([.one .i]) e fun (j:Int) k=>cond (!j==0) (K j k) (loop (Sl×Int) (fun l (m:Sl×Int) n=>cW 97 ([.pointer d]) ([.one .i]) n fun (o:Int) p=>cond (decide (m.snd<o)) (new (Obj.cells #[.u (IntKind.wrap .u32 m.snd)] 37) p fun q r=>run [.one .slice] ((Builtin.append_ (#[92,92]) 92 (#[m.fst.v,.slice (pW q) 1 1])).run Tryz.prog r) fun s t=>l ((s,IntKind.wrap .i64 (m.snd+1))) t) (cW 101 ([.i (↑m.fst.len:Int)]) ([.one .i]) p fun (u:Int) v=>slc m.fst (some u) none none 1 fun x=>slc m.fst none (some u) none 1 fun y=>cW 102 ([.pointer d,x.v,y.v]) ([.one .i]) v.drew fun (z:Int) A=>cond (!z==0) (K z A) (cW 97 ([.pointer d]) ([.one .i]) A fun (B:Int) C=>runQ [.raw] (fun D=>(Instr.build 121 (#[(0,.int .u64 1),(1,.u (IntKind.wrap .u32 B)),(2,.u 2),(3,.u (IntKind.wrap .u32 (IntKind.wrap .i64 ((↑m.fst.len:Int)-u))))])).run Tryz.prog D) C fun E=>cW 103 ([.pointer d,.agg (List.toArray E)]) ([.one .i]) C fun (F:Int) G=>K F G))) (({ a:=none,len:=0,cap:=0 },2)) k))) 0 w
theorem qjU {d w K} (hF:qgu d K w):cW 58 [.pointer d] [.one .i] w K:=qad (an:=[.n,.n,.n,.l [(10,.one .i)],.n,.n,.n,.n,.n,.n,.n,.n,.n,.n,.n,.n,.n,.n,.l [(6,.one .slice),(7,.one .i)],.n,.n,.n,.n,.n,.n,.o [[0,1,2,3,4,5,6,7,8]],.n,.n,.n]) Tryz.func58 hF
def qgx (d:Option Addr) (K:((List Value)×Int)->WP) (w:World):Prop:=newZ Tryz.prog 121 w fun b c=>cW 125 ([.pointer d,.i 0]) ([.one .slice,.one .i]) c fun (e:Sl×Int) f=>cond (!e.snd==0) (runQ [.raw] (fun g=>(Instr.build 121 #[]).run Tryz.prog g) f fun h=>chk (List.length h=28)<|st ⟨b,0,none⟩ h f fun i=>ldV 28 ⟨b,0,none⟩ i fun j=>K ((j,e.snd)) i) (cW 125 ([.pointer d,.i 1]) ([.one .slice,.one .i]) f fun (k:Sl×Int) l=>cond (!k.snd==0) (runQ [.raw] (fun m=>(Instr.build 121 #[]).run Tryz.prog m) l fun n=>chk (List.length n=28)<|st ⟨b,0,none⟩ n l fun o=>ldV 28 ⟨b,0,none⟩ o fun p=>K ((p,k.snd)) o) (cW 129 ([e.fst.v,k.fst.v]) ([.raw,.one .i]) l fun (q:List Value×Int) r=>chk (List.length q.fst=28)<|st ⟨b,0,none⟩ q.fst r fun s=>ldV 28 ⟨b,0,none⟩ s fun t=>K ((t,q.snd)) s))
theorem qkz {d w K} (hF:qgx d K w):cW 96 [.pointer d] [.raw,.one .i] w K:=qad (an:=[.n,.n,.n,.n,.n,.n,.n,.n,.n,.n]) Tryz.func96 hF
def qja (d:Option Addr) (K:((Option Addr)×Int)->WP) (w:World):Prop:=cW 96 ([.pointer d]) ([.raw,.one .i]) w fun (a:List Value×Int) b=>newZ Tryz.prog 121 b fun c e=>chk (List.length a.fst=28)<|st ⟨c,0,none⟩ a.fst e fun f=>cond (!a.snd==0) (K ((none,a.snd)) f) (ldV 28 ⟨c,0,none⟩ f fun g=>runQ [.raw] (fun h=>(Instr.build 127 (#[(0,.pointer d),(1,.agg (List.toArray g))])).run Tryz.prog h) f fun i=>new (Obj.cells (List.toArray i) 127) f fun j k=>join (Bool) (fun l=>ld .u ⟨c,1,none⟩ k.drew fun (m:Int)=>cW 97 ([.pointer d]) ([.one .i]) k.drew fun (n:Int) o=>held [cEl ⟨c,1,none⟩ (.u m)] o<|cond (!m==IntKind.wrap .u32 n) (l true o) (cW 98 ([.pointer (pW j)]) ([.one .bool]) o fun (q:Bool) r=>l (!q) r)) fun (s:Bool) t=>cond s (K ((none,2)) t) (cW 81 ([.pointer (pW j)]) [] t fun (u:PUnit) v=>K ((pW j,0)) v))
theorem qmD {d w K} (hF:qja d K w):cW 56 [.pointer d] [.one .ptr,.one .i] w K:=qad (an:=[.n,.n,.n,.n,.n,.n,.n,.j [(29,.one .bool)],.o [[0,1,2,3,4,5,6,7,8,9,10]],.n,.n,.n]) Tryz.func56 hF
def qdD (p:Option Addr) (K:Bool->WP) (w:World):Prop:=new (Obj.map #[] 0) w fun b c=>nn p fun d=>ld .u (⟨(Addr.add d 1).block,(Addr.add d 1).off+2,none⟩) c fun (e:Int)=>loop (Int) (fun f (g:Int) h=>cond (!g==0) (join (Bool) (fun i=>cond (decide (g<2)) (i true h) (nn p fun j=>ld .u (⟨(Addr.add j 1).block,(Addr.add j 1).off+1,none⟩) h fun (k:Int)=>cond (decide (g>=k)) (i true h) (runQ [.one .i] (fun l=>(Instr.lookup 200 (.map (some b)) (.u g) false).run Tryz.prog l) h fun (m:Int)=>i (decide (m>0)) h))) fun (n:Bool) o=>cond n (K false o) (runU ((Instr.mapUpdate 200 (.map (some b)) (.u g) (.i 1)).run Tryz.prog o) fun q=>nn p fun r=>ld .ptr r q fun s=>cW 125 ([.pointer s,.i (IntKind.wrap .i64 g)]) ([.one .slice,.one .i]) q fun (t:Sl×Int) u=>cond (!t.snd==0) (K false u) (cW 126 ([.u g,t.fst.v]) ([.one .b,.one .slice,.one .i]) u fun (v:Int×Sl×Int) x=>join (Bool) (fun y=>cond (!v.snd.snd==0) (y true x) (y (!v.fst==2) x)) fun (z:Bool) A=>cond z (K false A) (cW 130 ([v.snd.fst.v]) ([.one .u,.one .slice,.one .i]) A fun (B:Int×Sl×Int) C=>cond (!B.snd.snd==0) (K false C) (nn p fun D=>ld .slice ⟨D.block,D.off+29,none⟩ C.drew fun E=>nn p fun F=>ld .slice ⟨F.block,F.off+30,none⟩ C.drew fun G=>new (Obj.cells #[.u g] 37) C.drew fun H I=>held [cEl ⟨F.block,F.off+30,none⟩ G.v,cEl ⟨D.block,D.off+29,none⟩ E.v] I<|run [.one .slice] ((Builtin.append_ (#[92,92]) 92 (#[E.v,.slice (pW H) 1 1])).run Tryz.prog I) fun M N=>held [cEl ⟨F.block,F.off+30,none⟩ G.v] N<|run [.one .slice] ((Builtin.append_ (#[92,92]) 92 (#[G.v,B.snd.fst.v])).run Tryz.prog N) fun P Q=>nn p fun R=>st ⟨R.block,R.off+29,none⟩ ([M.v]) Q fun S=>nn p fun T=>st ⟨T.block,T.off+30,none⟩ ([P.v]) S fun U=>f B.fst U))))) (nn p fun V=>ld .slice ⟨V.block,V.off+30,none⟩ h fun W=>loop (Int×Int) (fun X (Y:Int×Int) Z=>cond (decide (Y.snd<(↑W.len:Int))) (idx W Y.snd 1 fun aa=>ld .u aa Z fun (ab:Int)=>join (Bool) (fun ac=>cond (decide (ab<=Y.fst)) (ac true Z) (nn p fun ad=>ld .u (⟨(Addr.add ad 1).block,(Addr.add ad 1).off+1,none⟩) Z fun (ae:Int)=>cond (decide (ab>=ae)) (ac true Z) (runQ [.one .i] (fun af=>(Instr.lookup 200 (.map (some b)) (.u ab) false).run Tryz.prog af) Z fun (ag:Int)=>ac (decide (ag>0)) Z))) fun (ah:Bool) ai=>cond ah (K false ai) (X ((ab,IntKind.wrap .i64 (Y.snd+1))) ai)) (nn p fun aj=>ld .slice ⟨aj.block,aj.off+30,none⟩ Z.drew fun ak=>nn p fun al=>ld .u (⟨(Addr.add al 1).block,(Addr.add al 1).off+3,none⟩) Z.drew fun (am:Int)=>K ((↑ak.len:Int)==IntKind.wrap .i64 am) Z.drew)) ((0,0)) h)) e c
theorem qgN {p w K} (hF:qdD p K w):cW 98 [.pointer p] [.one .bool] w K:=qad (an:=[.n,.n,.n,.n,.l [(4,.one .u)],.n,.n,.n,.j [(38,.one .bool)],.n,.n,.n,.n,.n,.n,.n,.n,.j [(65,.one .bool)],.n,.n,.n,.n,.n,.n,.o [[0,1,2,3,4,5,6,9,10,11,12,13,7,8,14,15,16,17,18,19,20]],.n,.n,.n,.l [(11,.one .u),(99,.one .i)],.n,.n,.n,.n,.n,.j [(120,.one .bool)],.n,.n,.o [[0,1,2,3,4,5,6,7,8,9,10,11,12]]]) Tryz.func98 hF
def qdj (p:Option Addr) (K:Unit->WP) (w:World):Prop:=nn p fun a=>ld .i ⟨a.block,a.off+31,none⟩ w fun (b:Int)=>nn p fun c=>st ⟨c.block,c.off+31,none⟩ ([.i (IntKind.wrap .i64 (b+1))]) w fun d=>(nn p fun e=>ldV 24 (⟨(Addr.add e 1).block,(Addr.add e 1).off+4,none⟩) d.drew fun f=>cW 115 [] ([.one .ptr]) d.drew fun g h=>held [aEl (⟨(Addr.add e 1).block,(Addr.add e 1).off+4,none⟩) 0 f] h<|cW 115 [] ([.one .ptr]) h fun j k=>held [aEl (⟨(Addr.add e 1).block,(Addr.add e 1).off+4,none⟩) 0 f] k<|new (Obj.map #[] 0) k fun m n=>held [aEl (⟨(Addr.add e 1).block,(Addr.add e 1).off+4,none⟩) 0 f] n<|runQ [.raw] (fun q=>(Instr.build 125 (#[(0,.pointer g),(1,.pointer j),(2,.map (some m)),(3,.agg (List.toArray f))])).run Tryz.prog q) n fun r=>nn p fun s=>chk (List.length r=27)<|st ⟨s.block,s.off+33,none⟩ r n fun t=>nn p fun u=>ld .slice ⟨u.block,u.off+30,none⟩ t fun v=>loop (Int) (fun x (y:Int) z=>cond (decide (y<(↑v.len:Int))) (idx v y 1 fun A=>ld .u A z fun (B:Int)=>nn p fun C=>ld .ptr ⟨C.block,C.off+33,none⟩ z fun D=>cW 116 ([.pointer D,.u B]) ([.one .bool]) z fun (E:Bool) F=>x (IntKind.wrap .i64 (y+1)) F) (K () z)) 0 t)/\((nn p fun G=>ldV 24 (⟨(Addr.add G 1).block,(Addr.add G 1).off+4,none⟩) d.drew fun H=>cW 115 [] ([.one .ptr]) d.drew fun I J=>held [aEl (⟨(Addr.add G 1).block,(Addr.add G 1).off+4,none⟩) 0 H] J<|new (Obj.map #[] 0) J fun M N=>held [aEl (⟨(Addr.add G 1).block,(Addr.add G 1).off+4,none⟩) 0 H] N<|cW 115 [] ([.one .ptr]) N fun P Q=>held [aEl (⟨(Addr.add G 1).block,(Addr.add G 1).off+4,none⟩) 0 H] Q<|runQ [.raw] (fun S=>(Instr.build 125 (#[(0,.pointer I),(1,.pointer P),(2,.map (some M)),(3,.agg (List.toArray H))])).run Tryz.prog S) Q fun T=>nn p fun U=>chk (List.length T=27)<|st ⟨U.block,U.off+33,none⟩ T Q fun V=>nn p fun W=>ld .slice ⟨W.block,W.off+30,none⟩ V fun X=>loop (Int) (fun Y (Z:Int) aa=>cond (decide (Z<(↑X.len:Int))) (idx X Z 1 fun ab=>ld .u ab aa fun (ac:Int)=>nn p fun ad=>ld .ptr ⟨ad.block,ad.off+33,none⟩ aa fun ae=>cW 116 ([.pointer ae,.u ac]) ([.one .bool]) aa fun (af:Bool) ag=>Y (IntKind.wrap .i64 (Z+1)) ag) (K () aa)) 0 V)/\(nn p fun ah=>ldV 24 (⟨(Addr.add ah 1).block,(Addr.add ah 1).off+4,none⟩) d.drew fun ai=>new (Obj.map #[] 0) d.drew fun aj ak=>held [aEl (⟨(Addr.add ah 1).block,(Addr.add ah 1).off+4,none⟩) 0 ai] ak<|cW 115 [] ([.one .ptr]) ak fun am an=>held [aEl (⟨(Addr.add ah 1).block,(Addr.add ah 1).off+4,none⟩) 0 ai] an<|cW 115 [] ([.one .ptr]) an fun ap aq=>held [aEl (⟨(Addr.add ah 1).block,(Addr.add ah 1).off+4,none⟩) 0 ai] aq<|runQ [.raw] (fun au=>(Instr.build 125 (#[(0,.pointer am),(1,.pointer ap),(2,.map (some aj)),(3,.agg (List.toArray ai))])).run Tryz.prog au) aq fun av=>nn p fun aw=>chk (List.length av=27)<|st ⟨aw.block,aw.off+33,none⟩ av aq fun ax=>nn p fun ay=>ld .slice ⟨ay.block,ay.off+30,none⟩ ax fun az=>loop (Int) (fun aA (aB:Int) aC=>cond (decide (aB<(↑az.len:Int))) (idx az aB 1 fun aD=>ld .u aD aC fun (aE:Int)=>nn p fun aF=>ld .ptr ⟨aF.block,aF.off+33,none⟩ aC fun aG=>cW 116 ([.pointer aG,.u aE]) ([.one .bool]) aC fun (aH:Bool) aI=>aA (IntKind.wrap .i64 (aB+1)) aI) (K () aC)) 0 ax))
theorem qgq {p w K} (hF:qdj p K w):cW 81 [.pointer p] [] w K:=qad (an:=[.n,.n,.o [[0,4,5,6,7,8,1,2,3,9,10,11,12],[0,4,5,6,7,8,1,3,2,9,10,11,12],[0,4,5,6,7,8,3,1,2,9,10,11,12]],.n,.l [(28,.one .i)],.n,.n,.n,.n]) Tryz.func81 hF
def qdC (p:Option Addr) (t:Int) (K:((Int×Int×Int))->WP) (w:World):Prop:=new (Obj.cells #[.u 0,.u 0,.u 0] 39) w fun a b=>join (Bool) (fun c=>cond (decide (t<0)) (c true b) (c (decide (t>=8)) b)) fun (d:Bool) e=>cond d (st ⟨a,0,none⟩ ([.u 0,.u 0,.u 0]) e fun f=>ldA (qkX) ⟨a,0,none⟩ f fun (g:Int×Int×Int)=>K g f) (nn p fun h=>chk (0<=t/\t<(↑8:Int))<|ldA (qkX) (Addr.add ⟨(Addr.add h 33).block,(Addr.add h 33).off+3,none⟩ (Int.toNat t*3)) e fun (i:Int×Int×Int)=>st ⟨a,0,none⟩ (HL.mk qkX i) e fun j=>ldA (qkX) ⟨a,0,none⟩ j fun (k:Int×Int×Int)=>K k j)
theorem qgP {p t w K} (hF:qdC p t K w):cW 19 [.pointer p,.i t] [.agg [.u,.u,.u]] w K:=qad (an:=[.n,.n,.j [(10,.one .bool)],.n,.n]) Tryz.func19 hF
def qcw (p:Option Addr) (t:Int) (r0:Int) (r1:Int) (r2:Int) (K:Int->WP) (w:World):Prop:=new (Obj.cells #[.u r0,.u r1,.u r2] 39) w fun a b=>nn p fun c=>ld .bool ⟨c.block,c.off+32,none⟩ b fun (d:Bool)=>cond d (K 7 b) (join (Bool) (fun e=>cond (decide (t<0)) (e true b) (e (decide (t>=8)) b)) fun (f:Bool) g=>cond f (K 4 g) (ldA (qkX) ⟨a,0,none⟩ g.drew fun (h:Int×Int×Int)=>nn p fun i=>chk (0<=t/\t<(↑8:Int))<|st (Addr.add ⟨(Addr.add i 33).block,(Addr.add i 33).off+3,none⟩ (Int.toNat t*3)) (HL.mk qkX h) g.drew fun j=>K 0 j))
theorem qeV {p t r0 r1 r2 w K} (hF:qcw p t r0 r1 r2 K w):cW 107 [.pointer p,.i t,.agg #[.u r0,.u r1,.u r2]] [.one .i] w K:=qad (an:=[.n,.n,.n,.n,.j [(12,.one .bool)],.n,.n,.o [[0,1,2,3,4,5,6,7]],.n]) Tryz.func107 hF
def qdG (p:Option Addr) (n:Int) (K:Bool->WP) (w:World):Prop:=join (Bool) (fun b=>cond (decide (n<2)) (b true w) (nn p fun c=>ld .u (⟨(Addr.add c 1).block,(Addr.add c 1).off+1,none⟩) w fun (d:Int)=>cond (decide (n>=d)) (b true w) (nn p fun e=>ld .slice ⟨e.block,e.off+29,none⟩ w fun f=>cW 155 ([f.v,.u n]) ([.one .bool]) w fun (g:Bool) h=>cond g (b true h) (nn p fun i=>ld .ptr ⟨i.block,i.off+33,none⟩ h fun j=>cW 152 ([.pointer j,.u n]) ([.one .bool]) h fun (k:Bool) l=>cond k (b true l) (nn p fun m=>ld .ptr (⟨(Addr.add m 33).block,(Addr.add m 33).off+1,none⟩) l fun o=>cW 152 ([.pointer o,.u n]) ([.one .bool]) l fun (q:Bool) r=>b q r))))) fun (s:Bool) t=>cond s (K false t) (nn p fun u=>ld .map (⟨(Addr.add u 33).block,(Addr.add u 33).off+2,none⟩) t fun (v:Option Nat)=>runQ [.agg [.b,.slice],.one .bool] (fun x=>(Instr.lookup 123 (.map v) (.u n) true).run Tryz.prog x) t fun (y:(Int×Sl)×Bool)=>new (Obj.cells #[.b 0,.slice none 0 0] 161) t fun z A=>st ⟨z,0,none⟩ ([.b y.fst.fst,y.fst.snd.v]) A fun B=>K (!y.snd) B)
theorem qgM {p n w K} (hF:qdG p n K w):cW 124 [.pointer p,.u n] [.one .bool] w K:=qad (an:=[.n,.n,.j [(43,.one .bool)],.n,.n,.n]) Tryz.func124 hF
def qdx (p:Option Addr) (n:Int) (K:(Int×Sl×Int)->WP) (w:World):Prop:=nn p fun b=>ld .bool ⟨b.block,b.off+32,none⟩ w fun (c:Bool)=>cond c (K ((0,{ a:=none,len:=0,cap:=0 },7)) w) (nn p fun d=>ld .map (⟨(Addr.add d 33).block,(Addr.add d 33).off+2,none⟩) w fun (e:Option Nat)=>runQ [.agg [.b,.slice],.one .bool] (fun f=>(Instr.lookup 123 (.map e) (.u n) true).run Tryz.prog f) w fun (g:(Int×Sl)×Bool)=>new (Obj.cells #[.b 0,.slice none 0 0] 161) w fun h i=>st ⟨h,0,none⟩ ([.b g.fst.fst,g.fst.snd.v]) i fun j=>cond g.snd (ld .b ⟨h,0,none⟩ j.drew fun (k:Int)=>ld .slice ⟨h,1,none⟩ j.drew fun l=>cW 123 ([l.v]) ([.one .slice]) j.drew fun m o=>held [cEl ⟨h,0,none⟩ (.b k)] o<|K ((k,m,0)) o) (cW 124 ([.pointer p,.u n]) ([.one .bool]) j fun (r:Bool) s=>cond (!r) (K ((0,{ a:=none,len:=0,cap:=0 },10)) s) (nn p fun t=>ld .ptr t s fun u=>cW 125 ([.pointer u,.i (IntKind.wrap .i64 n)]) ([.one .slice,.one .i]) s fun (v:Sl×Int) x=>cond (!v.snd==0) (K ((0,{ a:=none,len:=0,cap:=0 },v.snd)) x) (cW 126 ([.u n,v.fst.v]) ([.one .b,.one .slice,.one .i]) x fun (y:Int×Sl×Int) z=>K y z))))
theorem qgY {p n w K} (hF:qdx p n K w):cW 91 [.pointer p,.u n] [.one .b,.one .slice,.one .i] w K:=qad (an:=[.n,.n,.n,.n,.n,.n,.n,.n,.o [[0,1,2,3,4,5,6,7]],.n,.n,.n,.n,.n,.n,.n,.n]) Tryz.func91 hF
def qdE (p:Option Addr) (kind:Int) (body:Sl) (K:(Int×Int)->WP) (w:World):Prop:=nn p fun b=>ld .bool ⟨b.block,b.off+32,none⟩ w fun (c:Bool)=>cond c (K ((0,7)) w) (cond (decide ((↑body.len:Int)>500)) (K ((0,3)) w) (nn p fun d=>ld .ptr ⟨d.block,d.off+33,none⟩ w fun e=>cW 171 ([.pointer e]) ([.one .u,.one .bool]) w fun (f:Int×Bool) g=>cond (!f.snd) (K ((0,6)) g) (nn p fun h=>ld .map (⟨(Addr.add h 33).block,(Addr.add h 33).off+2,none⟩) g.drew fun (i:Option Nat)=>cW 123 ([body.v]) ([.one .slice]) g.drew fun j k=>held [cEl (⟨(Addr.add h 33).block,(Addr.add h 33).off+2,none⟩) (.map i)] k<|runU ((Instr.mapUpdate 123 (.map i) (.u f.fst) (.agg #[.b kind,j.v])).run Tryz.prog k) fun m=>K ((f.fst,0)) m)))
theorem qgS {p kind body w K} (hF:qdE p kind body K w):cW 137 [.pointer p,.b kind,body.v] [.one .u,.one .i] w K:=qad (an:=[.n,.n,.n,.n,.n,.n,.n,.n,.n,.n,.n,.o [[0,1,2,3,4,5,6,7,8,9,10]],.n]) Tryz.func137 hF
def qd6 (p:Option Addr) (n:Int) (kind:Int) (body:Sl) (K:Int->WP) (w:World):Prop:=nn p fun b=>ld .bool ⟨b.block,b.off+32,none⟩ w fun (c:Bool)=>cond c (K 7 w) (nn p fun d=>ld .map (⟨(Addr.add d 33).block,(Addr.add d 33).off+2,none⟩) w fun (e:Option Nat)=>runQ [.agg [.b,.slice],.one .bool] (fun f=>(Instr.lookup 123 (.map e) (.u n) true).run Tryz.prog f) w fun (g:(Int×Sl)×Bool)=>new (Obj.cells #[.b 0,.slice none 0 0] 161) w fun h i=>st ⟨h,0,none⟩ ([.b g.fst.fst,g.fst.snd.v]) i fun j=>cond (!g.snd) (K 10 j) (cond (decide ((↑body.len:Int)>500)) (K 3 j) (nn p fun k=>ld .map (⟨(Addr.add k 33).block,(Addr.add k 33).off+2,none⟩) j.drew fun (l:Option Nat)=>cW 123 ([body.v]) ([.one .slice]) j.drew fun m o=>held [cEl (⟨(Addr.add k 33).block,(Addr.add k 33).off+2,none⟩) (.map l)] o<|runU ((Instr.mapUpdate 123 (.map l) (.u n) (.agg #[.b kind,m.v])).run Tryz.prog o) fun r=>K 0 r)))
theorem qhJ {p n kind body w K} (hF:qd6 p n kind body K w):cW 136 [.pointer p,.u n,.b kind,body.v] [.one .i] w K:=qad (an:=[.n,.n,.n,.n,.n,.n,.n,.n,.n,.n,.n,.n,.o [[0,1,2,3,4,5,6,7,8,9,10]],.n]) Tryz.func136 hF
def qdz (p:Option Addr) (n:Int) (K:Int->WP) (w:World):Prop:=nn p fun b=>ld .bool ⟨b.block,b.off+32,none⟩ w fun (c:Bool)=>cond c (K 7 w) (nn p fun d=>ld .map (⟨(Addr.add d 33).block,(Addr.add d 33).off+2,none⟩) w fun (e:Option Nat)=>runQ [.agg [.b,.slice],.one .bool] (fun f=>(Instr.lookup 123 (.map e) (.u n) true).run Tryz.prog f) w fun (g:(Int×Sl)×Bool)=>new (Obj.cells #[.b 0,.slice none 0 0] 161) w fun h i=>st ⟨h,0,none⟩ ([.b g.fst.fst,g.fst.snd.v]) i fun j=>cond g.snd (nn p fun k=>ld .map (⟨(Addr.add k 33).block,(Addr.add k 33).off+2,none⟩) j fun (l:Option Nat)=>run [] ((Builtin.delete_ (#[123,37]) 0 (#[.map l,.u n])).run Tryz.prog j) fun (m:PUnit) o=>nn p fun q=>ld .ptr ⟨q.block,q.off+33,none⟩ o fun r=>cW 116 ([.pointer r,.u n]) ([.one .bool]) o fun (s:Bool) t=>K 0 t) (cW 124 ([.pointer p,.u n]) ([.one .bool]) j fun (u:Bool) v=>cond (!u) (K 10 v) (nn p fun x=>ld .ptr (⟨(Addr.add x 33).block,(Addr.add x 33).off+1,none⟩) v fun y=>cW 116 ([.pointer y,.u n]) ([.one .bool]) v fun (z:Bool) A=>K 0 A)))
theorem qgO {p n w K} (hF:qdz p n K w):cW 110 [.pointer p,.u n] [.one .i] w K:=qad (an:=[.n,.n,.n,.n,.n,.n,.n,.n,.n,.n,.n,.n,.n,.n,.n]) Tryz.func110 hF
def qdy (p:Option Addr) (K:Int->WP) (w:World):Prop:=nn p fun a=>ld .ptr ⟨a.block,a.off+33,none⟩ w fun b=>cW 78 ([.pointer b]) ([.one .i]) w fun (c:Int) d=>K c d
theorem qgX {p w K} (hF:qdy p K w):cW 46 [.pointer p] [.one .i] w K:=qad (an:=[.n,.n]) Tryz.func46 hF
def qgL (d:Option Addr) (numbers:Sl) (pages:Sl) (K:Int->WP) (w:World):Prop:=cW 132 ([numbers.v,pages.v]) ([.one .slice,.one .i]) w fun (b:Sl×Int) c=>cond (!b.snd==0) (K b.snd c) (loop (Int) (fun e (f:Int) g=>cond (decide (f<(↑b.fst.len:Int))) (idx b.fst f 1 fun h=>ld .slice h g fun i=>idx pages f 1 fun j=>ld .u j g fun (k:Int)=>cW 114 ([.u k,.b 2,i.v]) ([.one .slice,.one .i]) g fun (l:Sl×Int) m=>idx pages f 1 fun n=>ld .u n m fun (o:Int)=>cW 99 ([.pointer d,.i (IntKind.wrap .i64 o),l.fst.v]) ([.one .i]) m fun (p:Int) q=>cond (!p==0) (K p q) (e (IntKind.wrap .i64 (f+1)) q)) (cW 100 ([.pointer d]) ([.one .i]) g fun (r:Int) s=>K r s)) 0 c)
theorem qjZ {d numbers pages w K} (hF:qgL d numbers pages K w):cW 102 [.pointer d,numbers.v,pages.v] [.one .i] w K:=qad (an:=[.n,.n,.n,.n,.n,.n,.n,.l [(25,.one .i)],.n,.n,.n,.n,.n,.n,.n,.n,.n]) Tryz.func102 hF
def qiH (d:Option Addr) (s:List Value) (K:Int->WP) (w:World):Prop:=new (Obj.cells (List.toArray s) 121) w fun b c=>ld (.int .u64) ⟨b,0,none⟩ c.drew fun (e:Int)=>ldV 28 ⟨b,0,none⟩ c.drew fun f=>cW 133 ([.agg (List.toArray f)]) ([.one .slice]) c.drew fun g h=>held [cEl ⟨b,0,none⟩ (.int .u64 e)] h<|cW 99 ([.pointer d,.i (IntKind.wrap .i64 (Int.tmod e 2)),g.v]) ([.one .i]) h fun (j:Int) k=>cond (!j==0) (K j k) (cW 100 ([.pointer d]) ([.one .i]) k fun (l:Int) m=>K l m)
theorem qmt {d s w K} (hF:qiH d s K w):cW 103 [.pointer d,.agg s.toArray] [.one .i] w K:=qad (an:=[.n,.n,.n,.o [[0,1,2,3,4,5,6,7,8]],.n,.n,.n]) Tryz.func103 hF
end Go.Proofs.YtmmkegapckbomaaGreatDoor
end
section
set_option linter.unusedSectionVars false
namespace Go.Pt
open Go List
section
variable {α:Type} [DecidableEq α] {P:Program} {w:World} {kt:TypeId} {kv:α->Value}
def MapS (kv:α->Value) (w:World) (b:Nat) (f:List (α×Value)):Prop:=
 ∃ es c,w.heap[b]?=some (.map es c)/\Ents kv es.toList f/\(es.toList.map (·.born)).Pairwise (· < ·)/\∀ e∈es.toList,e.born<c
theorem MapS.at {b:Nat} {f:List (α×Value)} (h:MapS kv w b f):MapAt kv w b f:=by
 obtain ⟨es,c,hb,he,_⟩:=h
 exact ⟨es,c,hb,he⟩
theorem MapS.frame {w':World} {b:Nat} {S:List Nat} {f:List (α×Value)} (h:MapS kv w b f) (k:Fr S w w') (h1:b∉S):MapS kv w' b f:=by
 obtain ⟨es,c,hb,he⟩:=h
 exact ⟨es,c,by rw [k.block b (qab hb) h1]; exact hb,he⟩
theorem MapS.lt {b:Nat} {f:List (α×Value)} (h:MapS kv w b f):b<w.heap.size:=by
 obtain ⟨es,c,hb,_⟩:=h
 exact qab hb
theorem MapS.empty {b:Nat} (hb:w.heap[b]?=some (.map #[] 0)):MapS kv w b []:=⟨#[],0,hb,rfl,by simp,by simp⟩
theorem MapS.new {t et:TypeId} {v:Value} (ht:P.underlying t=some (.map kt et)) (K:KeyOk P kt kv) {b:Nat} {f:List (α×Value)} (h:MapS kv w b f) (x:α) (hx:posOf x f=none) :
  ∃ o,(Instr.mapUpdate t (.map (some b)) (kv x) v).run P w=.ok () (upd w b o)/\MapS kv (upd w b o) b (f++[(x,v)]):=by
 obtain ⟨es,c,hb,he,hs,hc⟩:=h
 refine ⟨.map (es.push ⟨kv x,v,c⟩) (c+1),?_,es.push ⟨kv x,v,c⟩,c+1,?_,?_,?_,?_⟩
 ·simp [Instr.mapUpdate,run_underlying ht,Go.MapKept.run_getObj_map hb,K.check,qaM K he,hx,Go.MapKept.run_setObj_map _ hb]
  rfl
 ·rw [qay _ _ _ _ (qab hb),if_pos rfl]
 ·simp only [Ents] at he ⊢
  simp [he]
 ·rw [Array.toList_push,xM,pairwise_append]
  refine ⟨hs,by simp,fun a ha b hb'=>?_⟩
  obtain ⟨e,he',rfl⟩:=mem_map.1 ha
  simp at hb'
  subst hb'
  exact hc e he'
 ·intro e he'
  rw [Array.toList_push] at he'
  rcases zD.1 he' with h1 | h1
  ·exact Nat.lt_succ_of_lt (hc e h1)
  ·simp at h1; subst h1; exact Nat.lt_succ_self _
theorem MapS.del {t et ty:TypeId} (ht:P.underlying t=some (.map kt et)) (K:KeyOk P kt kv) {b:Nat} {f:List (α×Value)} (h:MapS kv w b f) (x:α) :
  ∃ o,(Builtin.delete_ #[t,kt] ty #[.map (some b),kv x]).run P w=.ok (.tuple #[]) (upd w b o)/\MapS kv (upd w b o) b (match posOf x f with | some q=>f.eraseIdx q.1 | none=>f):=by
 obtain ⟨es,c,hb,he,hs,hc⟩:=h
 cases hp:posOf x f with
 | none=>
  refine ⟨.map es c,?_,es,c,?_,he,hs,hc⟩
  ·simp [Builtin.delete_,run_underlying ht,Go.MapKept.run_getObj_map hb,K.check,qaM K he,hp,Go.MapKept.run_setObj_map _ hb]
   rfl
  ·rw [qay _ _ _ _ (qab hb),if_pos rfl]
 | some q=>
  have h1:(es.eraseIdxIfInBounds q.1).toList=es.toList.eraseIdx q.1:=by simp
  refine ⟨.map (es.eraseIdxIfInBounds q.1) c,?_,es.eraseIdxIfInBounds q.1,c,?_,?_,?_,?_⟩
  ·simp [Builtin.delete_,run_underlying ht,Go.MapKept.run_getObj_map hb,K.check,qaM K he,hp,Go.MapKept.run_setObj_map _ hb]
   rfl
  ·rw [qay _ _ _ _ (qab hb),if_pos rfl]
  ·rw [h1]
   simp only [Ents] at he ⊢
   rw [qbh,he,<- qbh]
  ·rw [h1,qbh]
   exact hs.sublist (eraseIdx_sublist _ _)
  ·rw [h1]
   exact fun e he'=>hc e (mem_of_mem_eraseIdx he')
end
end Go.Pt
end
section
namespace Go.Proofs.YtmmkegapckbomaaGreatDoor
open Go Go.Pt List
attribute [local irreducible] ld ldA ldV fld fldA newZ st new idx idxS idxA slc slcS slcP mkS chk nn call callV inv run runQ runU join loop held ext rng undefer s2a nxt ent IntKind.wrap
abbrev PGT:TypeId:=127
abbrev MLT:TypeId:=123
def look {β:Type} (n:Int):List (Int×β)->Option (Nat×β)
 | []=>none
 | p::r=>if n=p.1 then some (0,p.2) else (look n r).map fun q=>(q.1+1,q.2)
def setL {β:Type} (n:Int) (v:β) (l:List (Int×β)):List (Int×β):=match look n l with | some q=>l.set q.1 (n,v) | none=>l++[(n,v)]
def delL {β:Type} (n:Int) (l:List (Int×β)):List (Int×β):=match look n l with | some q=>l.eraseIdx q.1 | none=>l
theorem qb7 {β γ:Type} (g:β->γ) (n:Int):∀ l:List (Int×β),look n (l.map fun e=>(e.1,g e.2))=(look n l).map fun q=>(q.1,g q.2)
 | []=>rfl
 | p::r=>by
  simp only [xN,look]
  by_cases h:n=p.1
  ·simp [h]
  ·rw [if_neg h,if_neg h,qb7 g n r]
   cases look n r <;> rfl
theorem qbV (n:Int):∀ l:List (Int×Value),posOf n l=look n l
 | []=>rfl
 | p::r=>by simp only [posOf,look,qbV n r]
theorem qbd {β:Type} {n:Int}:∀ {l:List (Int×β)} {q:Nat×β},look n l=some q->l[q.1]?=some (n,q.2)/\(n,q.2)∈l
 | p::r,q,h=>by
  simp only [look] at h
  by_cases hp:n=p.1
  ·rw [if_pos hp] at h
   cases h
   subst hp
   exact ⟨rfl,by simp⟩
  ·rw [if_neg hp] at h
   obtain ⟨x,u,rfl⟩:=yS.1 h
   obtain ⟨A,C⟩:=qbd u
   exact ⟨by simpa using A,zN _ C⟩
theorem qby {β:Type} {n:Int}:∀ {l:List (Int×β)},look n l=none↔n∉l.map (·.1)
 | []=>by simp [look]
 | p::r=>by
  simp only [look,xN,zG,not_or]
  by_cases hp:n=p.1
  ·simp [hp]
  ·rw [if_neg hp,Option.map_eq_none_iff,qby (l:=r)]
   simp [hp]
theorem qfY {β γ:Type} (g:β->γ) (n:Int) (v:β) (l:List (Int×β)):(setL n v l).map (fun e=>(e.1,g e.2))=setL n (g v) (l.map fun e=>(e.1,g e.2)):=by
 unfold setL
 rw [qb7]
 cases look n l with
 | none=>simp
 | some q=>simp [map_set]
theorem qnG {β γ:Type} (g:β->γ) (n:Int) (l:List (Int×β)):(delL n l).map (fun e=>(e.1,g e.2))=delL n (l.map fun e=>(e.1,g e.2)):=by
 unfold delL
 rw [qb7]
 cases look n l with
 | none=>rfl
 | some q=>simp only [Option.map_some]; exact qbh _ l q.1
theorem qf0 {β:Type} {n:Int} {v:β} {l:List (Int×β)} {e:Int×β} (h:e∈setL n v l):e∈l\/e=(n,v):=by
 unfold setL at h
 split at h
 ·exact mem_or_eq_of_mem_set h
 ·rcases zD.1 h with h | h
  ·exact .inl h
  ·exact .inr (by simpa using h)
theorem qny {β:Type} {n:Int} {l:List (Int×β)} {e:Int×β} (h:e∈delL n l):e∈l:=by
 unfold delL at h
 split at h
 ·exact mem_of_mem_eraseIdx h
 ·exact h
theorem qgc {t et:TypeId} {v:Value} {w:World} (U:Tryz.prog.underlying t=some (.map 37 et)) {b:Nat} {f:List (Int×Value)} (h:MapS u32V w b f) (x:Int) :
  ∃ o,(Instr.mapUpdate t (.map (some b)) (u32V x) v).run Tryz.prog w=.ok () (upd w b o)/\MapS u32V (upd w b o) b (setL x v f):=by
 have K:=qch
 cases G:posOf x f with
 | none=>
  obtain ⟨o,I,h2⟩:=MapS.new U K h x (v:=v) G
  refine ⟨o,I,?_⟩
  rw [qbV] at G
  rw [setL,G]
  exact h2
 | some q=>
  obtain ⟨A,c,O,V,hs,hc⟩:=h
  have Q:=G
  rw [qbV] at Q
  obtain ⟨I,_⟩:=qbd Q
  have E:=V
  simp only [Ents] at E
  have hi:A[q.1]?.map (·.key)=some (u32V x):=by
   have:=congrArg (·[q.1]?) E
   simp only [zQ,I,Option.map_some] at this
   rw [<- xK]
   cases C:A.toList[q.1]? with
   | none=>rw [C] at this; cases this
   | some e=>rw [C] at this; simp at this; simp [this.1]
  refine ⟨.map (A.modify q.1 fun e=>{ e with key:=u32V x,val:=v }) c,?_,A.modify q.1 fun e=>{ e with key:=u32V x,val:=v },c,?_,?_,?_,?_⟩
  ·simp [Instr.mapUpdate,run_underlying U,Go.MapKept.run_getObj_map O,K.check,qaM K V,G,hi,Instr.keyThatStays,Instr.sameBits,Go.MapKept.run_setObj_map _ O]
   rfl
  ·rw [qay _ _ _ _ (qab O),if_pos rfl]
  ·rw [setL,Q]
   show ((A.modify q.1 _).toList).map _=(f.set q.1 (x,v)).map _
   rw [Array.toList_modify]
   apply ext_getElem?
   intro j
   have u:=congrArg (·[j]?) E
   simp only [zQ] at u
   rw [zQ,zQ,List.getElem?_modify,List.getElem?_set]
   by_cases hqj:q.1=j
   ·subst hqj
    have R:=(zP.1 I).1
    rw [I] at u
    cases C:A.toList[q.1]? with
    | none=>rw [C] at u; cases u
    | some e=>simp [R]
   ·simp only [hqj,if_false]
    rw [<- u]
    cases A.toList[j]? <;> rfl
  ·have e:(A.modify q.1 fun e=>{ e with key:=u32V x,val:=v }).toList.map (·.born)=A.toList.map (·.born):=by
    rw [Array.toList_modify]
    apply ext_getElem?
    intro j
    rw [zQ,zQ,List.getElem?_modify]
    by_cases hqj:q.1=j
    ·subst hqj; cases A.toList[q.1]? <;> simp
    ·simp [hqj]
   rw [e]; exact hs
  ·intro e J
   rw [Array.toList_modify] at J
   obtain ⟨j,u⟩:=mem_iff_getElem?.1 J
   rw [List.getElem?_modify] at u
   by_cases hqj:q.1=j
   ·subst hqj
    cases C:A.toList[q.1]? with
    | none=>rw [C] at u; simp at u
    | some e0=>
     rw [C] at u
     simp at u
     subst u
     exact hc e0 (yE C)
   ·simp [hqj] at u
    exact hc e (yE (by rw [xK]; exact u))
section
structure PgM where
 sup:Sup
 lists:List Int
 named:List Int
 turn:Int
 over:Bool
 free:List Int
 deferred:List Int
 fresh:List (Int×Int×List Int)
 roots:List Int
abbrev Leaf:=Int×Sl×List Int
def leafV (x:Leaf):Value:=.agg #[.b x.1,x.2.1.v]
def pgRest (sl sn:Sl) (turn:Int) (over:Bool) (fb defb mb:Nat):List Value:=
 [sl.v,sn.v,.i turn,.bool over,.pointer (pW fb),.pointer (pW defb),.map (some mb)]
def pgCells (db:Option Addr) (sup:Sup) (sl sn:Sl) (turn:Int) (over:Bool) (fb defb mb:Nat) (roots:List Int):Array Value:=
 ((.pointer db::supV sup.1 sup.2)++pgRest sl sn turn over fb defb mb++roots.map (Value.int .u32)).toArray
section
variable {db:Option Addr} {sup:Sup} {sl sn:Sl} {turn:Int} {over:Bool} {fb defb mb:Nat} {roots:List Int}
theorem qa1 (h:sup.2.length=27):(Value.pointer db::supV sup.1 sup.2).length=29:=by rw [yH,qaJ h]
theorem qoI (h:sup.2.length=27):(pgCells db sup sl sn turn over fb defb mb roots).size=36+roots.length:=by
 rw [pgCells,size_toArray,zF,zF,qa1 h,zK]; rfl
theorem quQ:(pgCells db sup sl sn turn over fb defb mb roots)[0]?=some (.pointer db):=rfl
theorem quh (A:sup.2.length=27) (n:Nat) (h:n<27):(pgCells db sup sl sn turn over fb defb mb roots)[n+2]?=some (.u (sup.2.getD n 0)):=by
 rw [pgCells,List.getElem?_toArray,zV,yY (by rw [qa1 A]; omega),List.getElem?_cons_succ]
 have:=qfe (q:=sup.1) (t:=sup.2) n (by omega)
 rw [List.getElem?_toArray] at this
 exact this
theorem qia (u:sup.2.length=27) (j:Nat) (h:j<7):(pgCells db sup sl sn turn over fb defb mb roots)[29+j]?=(pgRest sl sn turn over fb defb mb)[j]?:=by
 rw [pgCells,List.getElem?_toArray,zV,yX (by rw [qa1 u]; omega),qa1 u,vD,yY (by exact h)]
theorem qsX (h:sup.2.length=27):(pgCells db sup sl sn turn over fb defb mb roots)[29]?=some sl.v:=qia h 0 (by decide)
theorem qsS (h:sup.2.length=27):(pgCells db sup sl sn turn over fb defb mb roots)[30]?=some sn.v:=qia h 1 (by decide)
theorem qfC (h:sup.2.length=27):(pgCells db sup sl sn turn over fb defb mb roots)[32]?=some (.bool over):=qia h 3 (by decide)
theorem qfE (h:sup.2.length=27):(pgCells db sup sl sn turn over fb defb mb roots)[33]?=some (.pointer (pW fb)):=qia h 4 (by decide)
theorem qqO (h:sup.2.length=27):(pgCells db sup sl sn turn over fb defb mb roots)[34]?=some (.pointer (pW defb)):=qia h 5 (by decide)
theorem qcA (h:sup.2.length=27):(pgCells db sup sl sn turn over fb defb mb roots)[35]?=some (.map (some mb)):=qia h 6 (by decide)
end
structure Rows (F:List Nat) (w:World) (sl sn:Sl) (lists named:List Int) (fs:List (Int×Leaf)):Prop where
 lists:Rd F w sl lists
 named:Rd F w sn named
 bodies:∀ e∈fs,RdB F w e.2.2.1 e.2.2.2
theorem Rows.frame {F F':List Nat} {w w':World} {sl sn:Sl} {u A:List Int} {E:List (Int×Leaf)} (h:Rows F w sl sn u A E) (f:Fr F w w') (C:∀ b∈F',b∈F\/w.heap.size<=b):Rows F' w' sl sn u A E:=
 ⟨h.lists.frame f C,h.named.frame f C,fun e G=>(h.bodies e G).frame f C⟩
structure PgX (w:World) (X:List Nat) (pb:Nat) (db:Option Addr) (M:PgM) (fb defb mb:Nat) (sl sn:Sl) (F1 F2:List Nat) (fs:List (Int×Leaf)):Prop where
 cell:w.heap[pb]?=some (.cells (pgCells db M.sup sl sn M.turn M.over fb defb mb M.roots) PGT (0,0))
 free:PoolAt w fb F1 M.free
 deferred:PoolAt w defb F2 M.deferred
 map:MapS u32V w mb (fs.map fun e=>(e.1,leafV e.2))
 fresh:M.fresh=fs.map fun e=>(e.1,e.2.1,e.2.2.2)
 rows:Rows (X++pb::mb::(F1++F2)) w sl sn M.lists M.named fs
 xlt:∀ b∈X,b<w.heap.size
 xsep:∀ b∈X,b∉pb::mb::(F1++F2)
 sep:pb≠mb/\(∀ b∈F1,b≠pb/\b≠mb/\b∉F2)/\(∀ b∈F2,b≠pb/\b≠mb)
 suplen:M.sup.2.length=27
 rootlen:M.roots.length=24
def PagerAt (w:World) (X:List Nat) (pb:Nat) (db:Option Addr) (F:List Nat) (M:PgM):Prop:=
 ∃ fb defb mb sl sn h u A,F=pb::mb::(h++u)/\PgX w X pb db M fb defb mb sl sn h u A
theorem PgX.lt_mb {w:World} {X:List Nat} {pb:Nat} {db:Option Addr} {M:PgM} {fb defb mb:Nat} {sl sn:Sl} {F1 F2:List Nat} {u:List (Int×Leaf)} (h:PgX w X pb db M fb defb mb sl sn F1 F2 u):mb<w.heap.size:=by
 exact h.map.lt
theorem PgX.lt {w:World} {X:List Nat} {pb:Nat} {db:Option Addr} {M:PgM} {fb defb mb:Nat} {sl sn:Sl} {F1 F2:List Nat} {A:List (Int×Leaf)} (h:PgX w X pb db M fb defb mb sl sn F1 F2 A):∀ b∈pb::mb::(F1++F2),b<w.heap.size:=by
 intro b u
 rcases zG.1 u with rfl | u
 ·exact qab h.cell
 rcases zG.1 u with rfl | u
 ·exact h.lt_mb
 rcases zD.1 u with u | u
 ·exact h.free.lt b u
 ·exact h.deferred.lt b u
theorem PagerAt.lt {w:World} {X:List Nat} {pb:Nat} {db:Option Addr} {F:List Nat} {M:PgM} (h:PagerAt w X pb db F M):∀ b∈F,b<w.heap.size:=by
 obtain ⟨fb,defb,mb,sl,sn,A,C,E,rfl,u⟩:=h
 exact u.lt
theorem PgX.frame {w w':World} {S X:List Nat} {pb:Nat} {db:Option Addr} {M:PgM} {fb defb mb:Nat} {sl sn:Sl} {F1 F2:List Nat} {C:List (Int×Leaf)} (h:PgX w X pb db M fb defb mb sl sn F1 F2 C) (f:Fr S w w') (A:∀ b∈pb::mb::(F1++F2),b∉S)
  (E:Rows (X++pb::mb::(F1++F2)) w' sl sn M.lists M.named C):PgX w' X pb db M fb defb mb sl sn F1 F2 C where
 cell:=by rw [f.block pb (qab h.cell) (A pb (by simp))]; exact h.cell
 free:=h.free.frame f fun b u=>A b (by simp [u])
 deferred:=h.deferred.frame f fun b u=>A b (by simp [u])
 map:=h.map.frame f (A mb (by simp))
 fresh:=h.fresh
 rows:=E
 xlt:=fun b u=>yC (h.xlt b u) f.size
 xsep:=h.xsep
 sep:=h.sep
 suplen:=h.suplen
 rootlen:=h.rootlen
theorem PgX.frame0 {w w':World} {X:List Nat} {pb:Nat} {db:Option Addr} {M:PgM} {fb defb mb:Nat} {sl sn:Sl} {F1 F2:List Nat} {A:List (Int×Leaf)} (h:PgX w X pb db M fb defb mb sl sn F1 F2 A) (f:Fr [] w w'):PgX w' X pb db M fb defb mb sl sn F1 F2 A:=
 h.frame f (by simp) (h.rows.frame (f.mono (fun b u=>by cases u)) (fun b u=>.inl u))
theorem PagerAt.frame0 {w w':World} {X:List Nat} {pb:Nat} {db:Option Addr} {F:List Nat} {M:PgM} (h:PagerAt w X pb db F M) (f:Fr [] w w'):PagerAt w' X pb db F M:=by
 obtain ⟨fb,defb,mb,sl,sn,u,A,C,rfl,E⟩:=h
 exact ⟨fb,defb,mb,sl,sn,u,A,C,rfl,E.frame0 f⟩
theorem qmJ {w:World} {pb mb:Nat} {F1 u F2:List Nat} (n1:∀ b∈u,b∈F1\/w.heap.size<=b):∀ b∈pb::mb::(u++F2),b∈pb::mb::(F1++F2)\/w.heap.size<=b:=fun b h=>by
 simp only [zG,zD] at h ⊢
 rcases h with h | h | h | h
 ·exact .inl (.inl h)
 ·exact .inl (.inr (.inl h))
 ·rcases n1 b h with A | A
  ·exact .inl (.inr (.inr (.inl A)))
  ·exact .inr A
 ·exact .inl (.inr (.inr (.inr h)))
theorem qqm {w:World} {pb mb:Nat} {F1 F2 u:List Nat} (n1:∀ b∈u,b∈F2\/w.heap.size<=b):∀ b∈pb::mb::(F1++u),b∈pb::mb::(F1++F2)\/w.heap.size<=b:=fun b h=>by
 simp only [zG,zD] at h ⊢
 rcases h with h | h | h | h
 ·exact .inl (.inl h)
 ·exact .inl (.inr (.inl h))
 ·exact .inl (.inr (.inr (.inl h)))
 ·rcases n1 b h with A | A
  ·exact .inl (.inr (.inr (.inr A)))
  ·exact .inr A
theorem qkY {w:World} {X F F':List Nat} (n:∀ b∈F',b∈F\/w.heap.size<=b):∀ b∈X++F',b∈X++F\/w.heap.size<=b:=fun b u=>by
 rcases zD.1 u with h | h
 ·exact .inl (zH _ h)
 ·rcases n b h with h | h
  ·exact .inl (zI _ h)
  ·exact .inr h
theorem qr2 {w:World} {X F F':List Nat} (A:∀ b∈X,b<w.heap.size) (C:∀ b∈X,b∉F) (n:∀ b∈F',b∈F\/w.heap.size<=b):∀ b∈X,b∉F':=fun b u h=>by
 rcases n b h with h | h
 ·exact C b u h
 ·have:=A b u; omega
theorem PgX.setFree {w w':World} {X:List Nat} {pb:Nat} {db:Option Addr} {M:PgM} {fb defb mb:Nat} {sl sn:Sl} {F1 A F2:List Nat} {G:List (Int×Leaf)} {l:List Int} (h:PgX w X pb db M fb defb mb sl sn F1 F2 G) (f:Fr F1 w w') (J:PoolAt w' fb A l) (C:∀ b∈A,b∈F1\/w.heap.size<=b) :
  PgX w' X pb db { M with free:=l } fb defb mb sl sn A F2 G where
 cell:=by rw [f.block pb (qab h.cell) (fun u=>(h.sep.2.1 pb u).1 rfl)]; exact h.cell
 free:=J
 deferred:=h.deferred.frame f fun b u E=>(h.sep.2.1 b E).2.2 u
 map:=h.map.frame f (fun u=>(h.sep.2.1 mb u).2.1 rfl)
 fresh:=h.fresh
 rows:=h.rows.frame (f.mono fun b u _=>by simp [u]) (qkY (qmJ C))
 xlt:=fun b u=>yC (h.xlt b u) f.size
 xsep:=qr2 h.xlt h.xsep (qmJ C)
 sep:=⟨h.sep.1,fun b u=>by
  rcases C b u with I | I
  ·exact h.sep.2.1 b I
  ·have O:=qab h.cell
   have Q:=h.lt_mb
   exact ⟨by omega,by omega,fun K=>by have:=h.deferred.lt b K; omega⟩,h.sep.2.2⟩
 suplen:=h.suplen
 rootlen:=h.rootlen
theorem PgX.setDef {w w':World} {X:List Nat} {pb:Nat} {db:Option Addr} {M:PgM} {fb defb mb:Nat} {sl sn:Sl} {F1 F2 A:List Nat} {I:List (Int×Leaf)} {l:List Int} (h:PgX w X pb db M fb defb mb sl sn F1 F2 I) (f:Fr F2 w w') (J:PoolAt w' defb A l) (E:∀ b∈A,b∈F2\/w.heap.size<=b) :
  PgX w' X pb db { M with deferred:=l } fb defb mb sl sn F1 A I where
 cell:=by rw [f.block pb (qab h.cell) (fun u=>(h.sep.2.2 pb u).1 rfl)]; exact h.cell
 free:=h.free.frame f fun b u G=>(h.sep.2.1 b u).2.2 G
 deferred:=J
 map:=h.map.frame f (fun u=>(h.sep.2.2 mb u).2 rfl)
 fresh:=h.fresh
 rows:=h.rows.frame (f.mono fun b u _=>by simp [u]) (qkY (qqm E))
 xlt:=fun b u=>yC (h.xlt b u) f.size
 xsep:=qr2 h.xlt h.xsep (qqm E)
 sep:=⟨h.sep.1,fun b u=>⟨(h.sep.2.1 b u).1,(h.sep.2.1 b u).2.1,fun K=>by
  rcases E b K with C | C
  ·exact (h.sep.2.1 b u).2.2 C
  ·have:=h.free.lt b u; omega⟩,fun b u=>by
  rcases E b u with C | C
  ·exact h.sep.2.2 b C
  ·have O:=qab h.cell
   have Q:=h.lt_mb
   exact ⟨by omega,by omega⟩⟩
 suplen:=h.suplen
 rootlen:=h.rootlen
theorem PgX.setMap {w:World} {o:Obj} {X:List Nat} {pb:Nat} {db:Option Addr} {M:PgM} {fb defb mb:Nat} {sl sn:Sl} {F1 F2:List Nat} {G A:List (Int×Leaf)} (h:PgX w X pb db M fb defb mb sl sn F1 F2 G) (J:MapS u32V (upd w mb o) mb (A.map fun e=>(e.1,leafV e.2)))
  (u:∀ e∈A,e∈G\/RdB (X++pb::mb::(F1++F2)) w e.2.2.1 e.2.2.2) :
  PgX (upd w mb o) X pb db { M with fresh:=A.map fun e=>(e.1,e.2.1,e.2.2.2) } fb defb mb sl sn F1 F2 A:=by
 have f:Fr [mb] w (upd w mb o):=qd9 h.lt_mb o
 have I:Fr (X++pb::mb::(F1++F2)) w (upd w mb o):=f.mono fun b u _=>by simp only [zE] at u; subst u; simp
 have C:=h.rows.frame I (F':=X++pb::mb::(F1++F2)) (fun b u=>.inl u)
 exact {
  cell:=by rw [f.block pb (qab h.cell) (by simpa using h.sep.1)]; exact h.cell
  free:=h.free.frame f fun b u=>by simpa using (h.sep.2.1 b u).2.1
  deferred:=h.deferred.frame f fun b u=>by simpa using (h.sep.2.2 b u).2
  map:=J
  fresh:=rfl
  rows:=⟨C.lists,C.named,fun e K=>by
   rcases u e K with E | E
   ·exact C.bodies e E
   ·exact E.frame I (fun b u=>.inl u)⟩
  xlt:=fun b u=>yC (h.xlt b u) f.size
  xsep:=h.xsep
  sep:=h.sep
  suplen:=h.suplen
  rootlen:=h.rootlen }
theorem PagerAt.frameX {w w':World} {X A:List Nat} {pb:Nat} {db:Option Addr} {F:List Nat} {M:PgM} (h:PagerAt w X pb db F M) (f:Fr X w w') (C:∀ b∈A,b<w'.heap.size) (G:∀ b∈A,b∈X\/w.heap.size<=b):PagerAt w' A pb db F M:=by
 obtain ⟨fb,defb,mb,sl,sn,I,J,O,rfl,h⟩:=h
 have Q:∀ b∈pb::mb::(I++J),b∉X:=fun b u C=>h.xsep b C u
 have E:=h.frame (w':=w') f Q (h.rows.frame (f.mono fun b u _=>zH _ u) (fun b u=>.inl u))
 refine ⟨fb,defb,mb,sl,sn,I,J,O,rfl,{ E with rows:=h.rows.frame (f.mono fun b u _=>zH _ u) (fun b u=>?_),xlt:=C,xsep:=fun b u K=>?_ }⟩
 ·rcases zD.1 u with u | u
  ·rcases G b u with u | u
   ·exact .inl (zH _ u)
   ·exact .inr u
  ·exact .inl (zI _ u)
 ·rcases G b u with u | u
  ·exact h.xsep b u K
  ·have:=h.lt b K; omega
theorem PagerAt.sep {w:World} {X:List Nat} {pb:Nat} {db:Option Addr} {F:List Nat} {M:PgM} (h:PagerAt w X pb db F M):∀ b∈X,b∉F:=by
 obtain ⟨fb,defb,mb,sl,sn,u,A,C,rfl,h⟩:=h
 exact h.xsep
end
section
theorem qsB {S:List Nat} {w:World} {s:Sl} {l:List Int} {n:Int} {K:Int->WP} (h:Rd S w s l) (O:l.length<=1000000) (G:∀ x:Int,(decide (x>=0)=decide (n∈l))->K x w) :
  cW 201 [s.v,.u n] [.one .i] w K:=by
 refine qjV ?_
 unfold qgy
 have I:=h.1
 refine qak (fun x w'=>w'=w/\∃ i:Nat,x=i/\i<=l.length/\n∉l.take i) (fun x _=>((l.length:Int)-x).toNat) ⟨rfl,0,rfl,by omega,by simp⟩ ?_
 rintro x w' ⟨rfl,i,rfl,Q,A⟩ X J
 refine qaa (fun C=>?_) (fun C=>?_)
 ·have E:i<l.length:=by have:=zC C; omega
  refine Rd.at h i rfl (zA E) ?_
  refine qaa (fun C=>?_) (fun C=>?_)
  ·have e:n=l[i]:=by simpa using C
   refine G _ ?_
   rw [zZ (show (i:Int)>=0 by omega),zZ (by rw [e]; exact zW E)]
  ·have e:n≠l[i]:=by simpa using C
   rw [wi' _ (by omega)]
   refine J _ _ ⟨rfl,i+1,by simp,by omega,?_⟩ (by omega)
   rw [yF E]
   simp only [zD,zE,not_or]
   exact ⟨A,e⟩
 ·have:i=l.length:=by have:=zB C; omega
  subst this
  rw [xZ] at A
  refine G _ ?_
  rw [zU (by decide),zU A]
theorem qoA {S:List Nat} {w:World} {s:Sl} {l:List Int} {n:Int} {K:Bool->WP} (h:Rd S w s l) (A:l.length<=1000000) (C:K (decide (n∈l)) w) :
  cW 155 [s.v,.u n] [.one .bool] w K:=by
 refine qhM ?_
 unfold qea
 refine qsB h A fun x E=>?_
 rw [E]
 exact C
theorem quO:∀ w,(zeroValue 161).run Tryz.prog w=.ok (.agg #[.b 0,.slice none 0 0]) w:=fun w=>by kernel_rfl
theorem qpl:Tryz.prog.underlying MLT=some (.map 37 161):=by kernel_rfl
theorem qih {w:World} {mb:Nat} {A:List (Int×Leaf)} {n:Int} {K:((Int×Sl)×Bool)->Prop} (h:MapAt u32V w mb (A.map fun e=>(e.1,leafV e.2)))
  (E:∀ q,look n A=some q->K ((q.2.1,q.2.2.1),true)) (G:look n A=none->K ((0,⟨none,0,0⟩),false)) :
  runQ [Ty1.agg [Cell.int .u8,Cell.slice],Ty1.one Cell.bool] (fun w'=>(Instr.lookup MLT (.map (some mb)) (.u n) true).run Tryz.prog w') w K:=by
 have:=qn1 (P:=Tryz.prog) qpl quO qch h n
 rw [qbV,qb7] at this
 cases C:look n A with
 | none=>
  rw [C] at this
  exact qbu (ts:=[Ty1.agg [Cell.int .u8,Cell.slice],Ty1.one Cell.bool]) ((0,⟨none,0,0⟩),false) this (G C)
 | some q=>
  rw [C] at this
  exact qbu (ts:=[Ty1.agg [Cell.int .u8,Cell.slice],Ty1.one Cell.bool]) ((q.2.1,q.2.2.1),true) this (E q C)
section
variable {w:World} {X:List Nat} {pb:Nat} {db:Option Addr} {F:List Nat} {M:PgM}
theorem qrZ {K:Int->WP} (h:PagerAt w X pb db F M) (A:K M.free.length w):cW 46 [.pointer (pW pb)] [.one .i] w K:=by
 obtain ⟨fb,defb,mb,sl,sn,C,E,G,rfl,u⟩:=h
 refine qgX ?_
 unfold qdy
 refine qae (qaj u.cell (pW fb) (qfE u.suplen) ?_)
 exact qtz u.free A
def usedV (M:PgM) (n:Int):Bool:=!(decide (n<2)||decide (n>=M.sup.2.getD 0 0)||decide (n∈M.lists)||decide (n∈M.free)||decide (n∈M.deferred))&&(look n M.fresh).isNone
theorem qm8 {n:Int} {K:Bool->WP} (h:PagerAt w X pb db F M) (hl:M.lists.length<=1000000) (Q:∀ w',Fr [] w w'->K (usedV M n) w'):cW 124 [.pointer (pW pb),.u n] [.one .bool] w K:=by
 obtain ⟨fb,defb,mb,sl,sn,F1,F2,V,rfl,A⟩:=h
 refine qgM ?_
 unfold qdG
 refine qag (fun b w'=>b=(decide (n<2)||decide (n>=M.sup.2.getD 0 0)||decide (n∈M.lists)||decide (n∈M.free)||decide (n∈M.deferred))/\w'=w) ?_ ?_
 ·refine qaa (fun C=>⟨by rw [C]; rfl,rfl⟩) (fun C=>?_)
  refine qae ?_
  simp only [Addr.add_mk]
  refine qaj A.cell (M.sup.2.getD 0 0) (quh A.suplen 0 (by decide)) ?_
  refine qaa (fun E=>⟨by rw [C,E]; rfl,by trivial⟩) (fun E=>?_)
  refine qae (qaj A.cell sl (qsX A.suplen) ?_)
  refine qoA A.rows.lists hl ?_
  refine qaa (fun G=>⟨by rw [C,E,G]; rfl,by trivial⟩) (fun G=>?_)
  refine qae (qaj A.cell (pW fb) (qfE A.suplen) ?_)
  refine qnl A.free ?_
  refine qaa (fun I=>⟨by rw [C,E,G,I]; rfl,by trivial⟩) (fun I=>?_)
  refine qae ?_
  refine qaj A.cell (pW defb) (qqO A.suplen) ?_
  refine qnl A.deferred ⟨by rw [C,E,G,I]; rfl,by trivial⟩
 rintro b w' ⟨rfl,rfl⟩
 have O:(look n M.fresh).isNone=(look n V).isNone:=by
  rw [A.fresh,qb7 (fun x:Leaf=>(x.1,x.2.2))]
  cases look n V <;> rfl
 refine qaa (fun C=>?_) (fun C=>?_)
 ·have:=Q w' (.refl _ _)
  rw [usedV,C] at this
  exact this
 refine qae ?_
 simp only [Addr.add_mk]
 refine qaj A.cell (some mb) (qcA A.suplen) ?_
 refine qih A.map.at (fun q R=>?_) (fun R=>?_)
 ·refine Own.new' (Own.start [] w') fun r w1 e1 f1 J=>?_
  refine Own.st J 0 rfl _ rfl rfl rfl fun U J _=>?_
  have:=Q U J.fr
  rw [usedV,C,O,R] at this
  exact this
 ·refine Own.new' (Own.start [] w') fun r w1 e1 f1 J=>?_
  refine Own.st J 0 rfl _ rfl rfl rfl fun U J _=>?_
  have:=Q U J.fr
  rw [usedV,C,O,R] at this
  exact this
def makeV (M:PgM) (kind:Int) (body:List Int):(Int×Int)×PgM:=
 if M.over then ((0,7),M) else if body.length>500 then ((0,3),M) else
 match M.free with
 | []=>((0,6),M)
 | n::r=>((n,0),{ M with free:=r,fresh:=setL n (kind,body) M.fresh })
theorem qs3 {kind:Int} {s:Sl} {body:List Int} {K:Int×Int->WP} (h:PagerAt w X pb db F M) (hb:RdB (X++F) w s body) (hl:body.length<=100000) (hf:M.free.length<=1000000)
  (hk:∀ F' w',PagerAt w' X pb db F' (makeV M kind body).2->Fr F w w'->(∀ b∈F',b∈F\/w.heap.size<=b)->K (makeV M kind body).1 w') :
  cW 137 [.pointer (pW pb),.b kind,s.v] [.one .u,.one .i] w K:=by
 have h0:=h
 obtain ⟨fb,defb,mb,sl,sn,F1,F2,fs,rfl,hx⟩:=h
 have hlen:=hb.1
 refine qgS (p:=pW pb) (body:=s) ?_
 unfold qdE
 have same:∀ {e:Int},makeV M kind body=((0,e),M)->K (0,e) w:=by
  intro e he
  have:=hk _ w (by rw [he]; exact h0) (.refl _ _) (fun b hb=>.inl hb)
  rw [he] at this
  exact this
 refine qae (qaj (c:=.bool) hx.cell M.over (qfC hx.suplen) ?_)
 refine qaa (fun hc=>same (by rw [makeV,if_pos hc])) (fun hc=>?_)
 have ho:¬ M.over=true:=by rw [hc]; decide
 refine qaa (fun hc=>?_) (fun hc=>?_)
 ·have:=zC hc
  exact same (by rw [makeV,if_neg ho,if_pos (by omega)])
 have hb5:¬ body.length>500:=by have:=zB hc; omega
 refine qae (qaj (c:=.ptr) hx.cell (pW fb) (qfE hx.suplen) ?_)
 refine qtk hx.free hf fun F1' w1 hp1 f1 n1=>?_
 have hx1:=hx.setFree f1 hp1 n1
 have fF:Fr (pb::mb::(F1++F2)) w w1:=f1.mono fun b hb _=>by simp [hb]
 have nF:=qmJ (w:=w) (pb:=pb) (mb:=mb) (F2:=F2) n1
 cases hfr:M.free with
 | nil=>
  have hmv:makeV M kind body=((0,6),M):=by rw [makeV,if_neg ho,if_neg hb5,hfr]
  rw [hfr] at hp1 hx1
  refine cond_true rfl ?_
  have hM:{ M with free:=(takeV []).2 }=M:=by
   show { M with free:=[] }=M
   rw [<- hfr]
  rw [hM] at hx1
  have:=hk _ w1 (by rw [hmv]; exact ⟨fb,defb,mb,sl,sn,F1',F2,fs,rfl,hx1⟩) fF nF
  rw [hmv] at this
  exact this
 | cons n r=>
  have hmv:makeV M kind body=((n,0),{ M with free:=r,fresh:=setL n (kind,body) M.fresh }):=by rw [makeV,if_neg ho,if_neg hb5,hfr]
  rw [hfr] at hp1 hx1
  refine cond_false rfl ?_
  refine qae ?_
  simp only [Addr.add_mk]
  have c1:w1.heap[pb]?=_:=hx1.cell
  refine qaj (w:=w1.drew) (c:=.map) c1 (some mb) (qcA hx.suplen) ?_
  have hb1:RdB (X++pb::mb::(F1'++F2)) w1.drew s body:=hb.frame (fF.drew.mono fun b hb _=>zI _ hb) (qkY nF)
  refine qaX hb1 (by omega) fun s2 B2 w2 b2 f2 n2 _ _=>?_
  have f12:Fr [] w1 w2:=((Fr.refl [] w1).drew).trans f2
  have hx2:=hx1.frame0 f12
  refine qah (by show _=_; rw [qaf hx2.cell]; exact qcA hx.suplen) ?_
  obtain ⟨o,hr,hm⟩:=qgc (v:=leafV (kind,s2,body)) qpl hx2.map n
  refine qid _ hr ?_
  have hm':MapS u32V (upd w2 mb o) mb ((setL n (kind,s2,body) fs).map fun e=>(e.1,leafV e.2)):=by rw [qfY leafV]; exact hm
  have hx3:=hx2.setMap hm' fun e he=>by
   rcases qf0 he with h1 | h1
   ·exact .inl h1
   ·subst h1
    refine .inr (b2.rds qat fun b hb hb2=>?_)
    have l2:w1.heap.size<=b:=n2 b hb
    rcases zD.1 hb2 with hb2 | hb2
    ·have:=hx1.xlt b hb2; omega
    ·have:=hx1.lt b hb2; omega
  have hM:(setL n (kind,s2,body) fs).map (fun e=>(e.1,e.2.1,e.2.2.2))=setL n (kind,body) M.fresh:=by
   rw [hx.fresh]; exact qfY (fun x:Leaf=>(x.1,x.2.2)) n (kind,s2,body) fs
  rw [hM] at hx3
  have f3:Fr (pb::mb::(F1++F2)) w (upd w2 mb o):=(fF.trans' f12 (by simp)).trans' (qd9 hx2.lt_mb o) fun b hb=>by simp only [zE] at hb; subst hb; exact .inl (by simp)
  have:=hk _ (upd w2 mb o) (by rw [hmv]; exact ⟨fb,defb,mb,sl,sn,F1',F2,_,rfl,hx3⟩) f3 nF
  rw [hmv] at this
  exact this
end
end
section
theorem PgX.fresh_look {w:World} {X:List Nat} {pb:Nat} {db:Option Addr} {M:PgM} {fb defb mb:Nat} {sl sn:Sl} {F1 F2:List Nat} {u:List (Int×Leaf)} (h:PgX w X pb db M fb defb mb sl sn F1 F2 u) (n:Int):look n M.fresh=(look n u).map fun q=>(q.1,q.2.1,q.2.2.2):=by
 rw [h.fresh,qb7 (fun x:Leaf=>(x.1,x.2.2))]
section
variable {w:World} {X:List Nat} {pb:Nat} {db:Option Addr} {F:List Nat} {M:PgM}
def putV (M:PgM) (n kind:Int) (body:List Int):Int×PgM:=
 if M.over then (7,M) else match look n M.fresh with
 | none=>(10,M)
 | some _=>if body.length>500 then (3,M) else (0,{ M with fresh:=setL n (kind,body) M.fresh })
theorem qtm {n kind:Int} {s:Sl} {body:List Int} {K:Int->WP} (h:PagerAt w X pb db F M) (C:RdB (X++F) w s body) (hl:body.length<=100000)
  (hk:∀ w',PagerAt w' X pb db F (putV M n kind body).2->Fr F w w'->K (putV M n kind body).1 w') :
  cW 136 [.pointer (pW pb),.u n,.b kind,s.v] [.one .i] w K:=by
 have h0:=h
 obtain ⟨fb,defb,mb,sl,sn,F1,F2,fs,rfl,E⟩:=h
 have ao:=C.1
 refine qhJ ?_
 unfold qd6
 have G:∀ {e:Int} {w':World},putV M n kind body=(e,M)->Fr [] w w'->K e w':=by
  intro e w' he hf
  have:=hk w' (by rw [he]; exact h0.frame0 hf) (hf.mono (fun b C=>by cases C))
  rw [he] at this
  exact this
 have I:=E.fresh_look n
 refine qae (qaj E.cell M.over (qfC E.suplen) ?_)
 refine qaa (fun R=>G (by rw [putV,if_pos R]) (.refl _ _)) (fun R=>?_)
 have ho:¬ M.over=true:=by rw [R]; decide
 refine qae ?_
 simp only [Addr.add_mk]
 refine qaj E.cell (some mb) (qcA E.suplen) ?_
 refine qih E.map.at (fun q hq=>?_) (fun hq=>?_)
 ·rw [hq] at I
  refine Own.new' (Own.start [] w) fun r w1 e1 f1 A=>?_
  refine Own.st A 0 rfl _ rfl rfl rfl fun O A _=>?_
  refine cond_false rfl ?_
  refine qaa (fun R=>?_) (fun R=>?_)
  ·have:=zC R
   exact G (by rw [putV,if_neg ho,I]; dsimp only [Option.map_some]; rw [if_pos (by omega)]) A.fr
  have ak:¬ body.length>500:=by have:=zB R; omega
  have V:putV M n kind body=(0,{ M with fresh:=setL n (kind,body) M.fresh }):=by rw [putV,if_neg ho,I]; dsimp only [Option.map_some]; rw [if_neg ak]
  have U:=E.frame0 A.drew.fr
  refine qae ?_
  refine qaj (w:=O.drew) (c:=.map) U.cell (some mb) (qcA E.suplen) ?_
  refine qaX (C.frame0 A.drew.fr) (by omega) fun s2 B2 w3 b2 f2 n2 _ _=>?_
  have aa:Fr [] w w3:=A.drew.fr.trans f2
  have Q:=E.frame0 aa
  refine qah (by show _=_; simp only [Addr.add_mk]; rw [qaf Q.cell]; exact qcA E.suplen) ?_
  obtain ⟨o,hr,hm⟩:=qgc (v:=leafV (kind,s2,body)) qpl Q.map n
  refine qid _ hr ?_
  have al:MapS u32V (upd w3 mb o) mb ((setL n (kind,s2,body) fs).map fun e=>(e.1,leafV e.2)):=by rw [qfY leafV]; exact hm
  have ab:=Q.setMap al fun e he=>by
   rcases qf0 he with h1 | h1
   ·exact .inl h1
   ·subst h1
    refine .inr (b2.rds qat fun b C J=>?_)
    have l2:O.drew.heap.size<=b:=n2 b C
    rcases zD.1 J with J | J
    ·have:b<O.heap.size:=U.xlt b J
     have:O.drew.heap.size=O.heap.size:=rfl
     omega
    ·have:b<O.heap.size:=U.lt b J
     have:O.drew.heap.size=O.heap.size:=rfl
     omega
  have hM:(setL n (kind,s2,body) fs).map (fun e=>(e.1,e.2.1,e.2.2.2))=setL n (kind,body) M.fresh:=by
   rw [E.fresh]; exact qfY (fun x:Leaf=>(x.1,x.2.2)) n (kind,s2,body) fs
  rw [hM] at ab
  have f4:Fr (pb::mb::(F1++F2)) w (upd w3 mb o):=(aa.mono (T:=pb::mb::(F1++F2)) (fun b C=>by cases C)).trans' (qd9 Q.lt_mb o) fun b C=>by simp only [zE] at C; subst C; exact .inl (by simp)
  have:=hk (upd w3 mb o) (by rw [V]; exact ⟨fb,defb,mb,sl,sn,F1,F2,_,rfl,ab⟩) f4
  rw [V] at this
  exact this
 ·rw [hq] at I
  refine Own.new' (Own.start [] w) fun r w1 e1 f1 A=>?_
  refine Own.st A 0 rfl _ rfl rfl rfl fun O A _=>?_
  refine cond_true rfl ?_
  exact G (by rw [putV,if_neg ho,I]; rfl) A.fr
def dropV (M:PgM) (n:Int):Int×PgM:=
 if M.over then (7,M) else match look n M.fresh with
 | some _=>(0,{ M with fresh:=delL n M.fresh,free:=ins n M.free })
 | none=>if usedV M n then (0,{ M with deferred:=ins n M.deferred }) else (10,M)
theorem qsC {n:Int} {K:Int->WP} (h:PagerAt w X pb db F M) (hl:M.lists.length<=1000000) (hf:M.free.length<=1000000) (hd:M.deferred.length<=1000000)
  (hk:∀ F' w',PagerAt w' X pb db F' (dropV M n).2->Fr F w w'->(∀ b∈F',b∈F\/w.heap.size<=b)->K (dropV M n).1 w') :
  cW 110 [.pointer (pW pb),.u n] [.one .i] w K:=by
 have h0:=h
 obtain ⟨fb,defb,mb,sl,sn,F1,F2,fs,rfl,G⟩:=h
 refine qgO ?_
 unfold qdz
 have R:∀ {e:Int} {w':World},dropV M n=(e,M)->Fr [] w w'->K e w':=by
  intro e w' he hf
  have:=hk _ w' (by rw [he]; exact h0.frame0 hf) (hf.mono (fun b C=>by cases C)) (fun b C=>.inl C)
  rw [he] at this
  exact this
 have I:=G.fresh_look n
 refine qae (qaj G.cell M.over (qfC G.suplen) ?_)
 refine qaa (fun U=>R (by rw [dropV,if_pos U]) (.refl _ _)) (fun U=>?_)
 have ho:¬ M.over=true:=by rw [U]; decide
 refine qae ?_
 simp only [Addr.add_mk]
 refine qaj G.cell (some mb) (qcA G.suplen) ?_
 refine qih G.map.at (fun q hq=>?_) (fun hq=>?_)
 ·rw [hq] at I
  refine Own.new' (Own.start [] w) fun r w1 e1 f1 A=>?_
  refine Own.st A 0 rfl _ rfl rfl rfl fun w2 A _=>?_
  refine cond_true rfl ?_
  have J:dropV M n=(0,{ M with fresh:=delL n M.fresh,free:=ins n M.free }):=by rw [dropV,if_neg ho,I]; rfl
  have O:=G.frame0 A.fr
  refine qae ?_
  refine qaj O.cell (some mb) (qcA G.suplen) ?_
  obtain ⟨o,hr,hm⟩:=MapS.del (ty:=0) qpl qch O.map n
  refine qrF (ts:=[]) () _ hr ?_
  have ap:MapS u32V (upd w2 mb o) mb ((delL n fs).map fun e=>(e.1,leafV e.2)):=by
   rw [qnG leafV]
   rw [qbV] at hm
   unfold delL
   cases hl:look n (fs.map fun e=>(e.1,leafV e.2)) with
   | none=>rw [hl] at hm; exact hm
   | some q=>rw [hl] at hm; exact hm
  have E:=O.setMap ap fun e he=>.inl (qny he)
  have hM:(delL n fs).map (fun e=>(e.1,e.2.1,e.2.2.2))=delL n M.fresh:=by
   rw [G.fresh]; exact qnG (fun x:Leaf=>(x.1,x.2.2)) n fs
  rw [hM] at E
  have f3:Fr (pb::mb::(F1++F2)) w (upd w2 mb o):=(A.fr.mono (T:=pb::mb::(F1++F2)) (fun b C=>by cases C)).trans' (qd9 O.lt_mb o) fun b C=>by simp only [zE] at C; subst C; exact .inl (by simp)
  refine qae (qaj E.cell (pW fb) (qfE G.suplen) ?_)
  refine qm6 E.free hf fun ar w4 V f4 n4=>?_
  have aa:=E.setFree f4 V n4
  have hs:w.heap.size<=(upd w2 mb o).heap.size:=by rw [qbP]; exact A.fr.size
  have:=hk _ w4 (by rw [J]; exact ⟨fb,defb,mb,sl,sn,ar,F2,_,rfl,aa⟩) (f3.trans' f4 fun b C=>.inl (by simp [C])) fun b C=>by
   rcases qmJ n4 b C with h1 | h1
   ·exact .inl h1
   ·exact .inr (zL hs h1)
  rw [J] at this
  exact this
 ·rw [hq] at I
  refine Own.new' (Own.start [] w) fun r w1 e1 f1 A=>?_
  refine Own.st A 0 rfl _ rfl rfl rfl fun w2 A _=>?_
  refine cond_false rfl ?_
  refine qm8 (h0.frame0 A.fr) hl fun w3 f3=>?_
  have Q:=A.fr.trans f3
  refine qaa (fun U=>?_) (fun U=>?_)
  ·have hu:usedV M n=false:=by simpa using U
   exact R (by rw [dropV,if_neg ho,I]; show (if usedV M n then _ else _)=_; rw [hu]; rfl) Q
  have hu:usedV M n=true:=by simpa using U
  have J:dropV M n=(0,{ M with deferred:=ins n M.deferred }):=by
   rw [dropV,if_neg ho,I]; show (if usedV M n then _ else _)=_; rw [hu]; rfl
  have E:=G.frame0 Q
  refine qae (qaj E.cell (pW defb) (qqO G.suplen) ?_)
  refine qm6 E.deferred hd fun aw w4 V f4 n4=>?_
  have aa:=E.setDef f4 V n4
  have:=hk _ w4 (by rw [J]; exact ⟨fb,defb,mb,sl,sn,F1,aw,_,rfl,aa⟩) ((Q.mono (T:=pb::mb::(F1++F2)) (fun b C=>by cases C)).trans' f4 fun b C=>.inl (by simp [C])) fun b C=>by
   rcases qqm n4 b C with h1 | h1
   ·exact .inl h1
   ·exact .inr (zL Q.size h1)
  rw [J] at this
  exact this
end
end
def left (es:Array MapEntry) (seen:Array Nat):List MapEntry:=es.toList.filter fun e=>!seen.toList.contains e.born
end Go.Proofs.YtmmkegapckbomaaGreatDoor
end
section
namespace Go.Proofs.YtmmkegapckbomaaGreatDoor
open Go Go.Pt Go.Sort List
attribute [local irreducible] ld ldA ldV fld fldA newZ st new idx idxS idxA slc slcS slcP mkS chk nn call callV inv run runQ runU join loop held ext rng undefer s2a nxt ent IntKind.wrap
section
variable {w:World} {X:List Nat} {pb:Nat} {db:Option Addr} {F:List Nat} {M:PgM}
end
end Go.Proofs.YtmmkegapckbomaaGreatDoor
end
section
namespace Go.Proofs.YtmmkegapckbomaaGreatDoor
open Go Go.Pt List
attribute [local irreducible] ld ldA ldV fld fldA newZ st new idx idxS idxA slc slcS slcP mkS chk nn call callV inv run runQ runU join loop held ext rng undefer s2a nxt ent IntKind.wrap
theorem qbD {A X Y Z:List Value} (h:X.length=Y.length):splice (A++X++Z).toArray A.length Y=(A++Y++Z).toArray:=by
 apply Array.ext'
 rw [qas _ _ _ (by rw [size_toArray]; simp only [zF]; omega)]
 exact qd1 A X Y Z h
theorem qa9 {offs:Array (Nat×Nat)} {u:Array Value} {i o s:Nat} {v:Value} {A:List (Nat×Value)} (h:offs[i]?=some (o,s)) (C:v.cells.size=s) (G:o+s<=u.size) :
  Instr.fill (offs[·]?) u ((i,v)::A)=Instr.fill (offs[·]?) (splice u o v.cells.toList) A:=by
 have E:=qfN o v.cells u
 simp only [Instr.fill,h]
 rw [if_neg (by simp [C]; omega),E]
theorem qhN {P:Program} {t:TypeId} {z:Value} {parts:List (Nat×Value)} {offs:Array (Nat×Nat)} {cs:Array Value} (u:(P.info? t).bind (·.zero)=some z) (A:P.underlying t=some (.struct (fieldsOf P t))) (h:∀ w,((fieldsOf P t).mapM fun f=>do pure (f.offset,<- sizeOf f.type):Sem (Array (Nat×Nat))).run P w=.ok offs w)
  (C:Instr.fill (offs[·]?) z.cells parts=some cs) (w:World):(Instr.build t parts.toArray).run P w=.ok (.agg cs) w:=by
 simp only [Instr.build,Sem.run_bind,qaH u,Result.andThen_ok,run_underlying A,h,C,Sem.run_pure]
abbrev WKT:TypeId:=125
def workV (x y:Option Addr) (m:Option Nat) (roots:List Int):List Value:=[.pointer x,.pointer y,.map m]++roots.map (Value.int .u32)
theorem qdi {x y:Option Addr} {m:Option Nat} {roots:List Int} (h:roots.length=24):(workV x y m roots).length=27:=by simp [workV,h]
theorem quI:(Tryz.prog.info? WKT).bind (·.zero)=some (.agg (workV none none none (zs 24)).toArray):=by kernel_rfl
theorem qpK {x y:Option Addr} {m:Option Nat} {roots:List Int} (h:roots.length=24) (w:World) :
  (Instr.build WKT #[(0,.pointer x),(1,.pointer y),(2,.map m),(3,.agg (roots.map (Value.int .u32)).toArray)]).run Tryz.prog w=.ok (.agg (workV x y m roots).toArray) w:=by
 refine qhN (parts:=[(0,.pointer x),(1,.pointer y),(2,.map m),(3,.agg (roots.map (Value.int .u32)).toArray)]) (offs:=#[(0,1),(1,1),(2,1),(3,24)]) quI (by kernel_rfl) (fun w=>by kernel_rfl) ?_ w
 have u:(Value.agg (roots.map (Value.int .u32)).toArray).cells.size=24:=by show (roots.map (Value.int .u32)).toArray.size=24; simp [h]
 rw [qa9 (o:=0) (s:=1) rfl rfl (zO rfl),qa9 (o:=1) (s:=1) rfl rfl (zO rfl),qa9 (o:=2) (s:=1) rfl rfl (zO rfl),qa9 (o:=3) (s:=24) rfl u (zO rfl)]
 show some _=_
 congr 1
 exact qbD (A:=[.pointer x,.pointer y,.map m]) (X:=(zs 24).map (Value.int .u32)) (Z:=[]) (Y:=roots.map (Value.int .u32)) (by simp [h,qaP]) |>.trans (by rw [xG]; rfl)
def pgRaw (db:Option Addr) (sup:Sup) (sl sn:Sl) (turn:Int) (over:Bool) (wk:List Value):Array Value:=
 ((Value.pointer db::supV sup.1 sup.2)++([sl.v,sn.v,.i turn,.bool over]:List Value)++wk).toArray
theorem qoG {db:Option Addr} {sup:Sup} {sl sn:Sl} {turn:Int} {over:Bool} {fb defb mb:Nat} {roots:List Int} :
  pgRaw db sup sl sn turn over (workV (pW fb) (pW defb) (some mb) roots)=pgCells db sup sl sn turn over fb defb mb roots:=by
 simp [pgRaw,pgCells,pgRest,workV]
section
variable {db:Option Addr} {sup:Sup} {sl sn:Sl} {turn:Int} {over:Bool} {wk:List Value}
theorem qf8 (h:sup.2.length=27):(pgRaw db sup sl sn turn over wk).size=33+wk.length:=by
 rw [pgRaw,size_toArray,zF,zF,qa1 h]; rfl
theorem qde (u:sup.2.length=27) (j:Nat) (h:j<4):(pgRaw db sup sl sn turn over wk)[29+j]?=([sl.v,sn.v,.i turn,.bool over]:List Value)[j]?:=by
 rw [pgRaw,List.getElem?_toArray,zV,yX (by rw [qa1 u]; omega),qa1 u,vD,yY (by exact h)]
theorem quy:(pgRaw db sup sl sn turn over wk)[0]?=some (.pointer db):=rfl
theorem qib (A:sup.2.length=27) (n:Nat) (h:n<27):(pgRaw db sup sl sn turn over wk)[n+2]?=some (.u (sup.2.getD n 0)):=by
 rw [pgRaw,List.getElem?_toArray,zV,yY (by rw [qa1 A]; omega),List.getElem?_cons_succ]
 have:=qfe (q:=sup.1) (t:=sup.2) n (by omega)
 rw [List.getElem?_toArray] at this
 exact this
theorem qlU (h:sup.2.length=27):((pgRaw db sup sl sn turn over wk).toList.drop 5).take 24=(sup.2.drop 3).map (Value.int .u32):=by
 have u:((sup.2.drop 3).map (Value.int .u32)).length=24:=by rw [zK,yB,h]
 have e:(pgRaw db sup sl sn turn over wk).toList.drop 5=(sup.2.drop 3).map (Value.int .u32)++([sl.v,sn.v,.i turn,.bool over]++wk):=by
  show List.drop 3 ((sup.2.map (Value.int .u32))++[_,_,_,_]++wk)=_
  rw [zV,drop_append_of_le_length (by rw [zK,h]; decide),xP]
 rw [e,take_append_of_le_length (Nat.le_of_eq u.symm),zS (Nat.le_of_eq u)]
theorem qr4 (C:sup.2.length=27) {u:Int}:splice (pgRaw db sup sl sn turn over wk) 31 [.i u]=pgRaw db sup sl sn u over wk:=by
 have h:((Value.pointer db::supV sup.1 sup.2)++([sl.v,sn.v]:List Value)).length=31:=by rw [zF,qa1 C]; rfl
 have:=qbD (A:=(Value.pointer db::supV sup.1 sup.2)++([sl.v,sn.v]:List Value)) (X:=[.i turn]) (Y:=[.i u]) (Z:=.bool over::wk) rfl
 rw [h] at this
 simpa [pgRaw] using this
theorem qsy (C:sup.2.length=27) {u:List Value} (E:wk.length=u.length):splice (pgRaw db sup sl sn turn over wk) 33 u=pgRaw db sup sl sn turn over u:=by
 have h:((Value.pointer db::supV sup.1 sup.2)++([sl.v,sn.v,.i turn,.bool over]:List Value)).length=33:=by rw [zF,qa1 C]; rfl
 have:=qbD (A:=(Value.pointer db::supV sup.1 sup.2)++([sl.v,sn.v,.i turn,.bool over]:List Value)) (X:=wk) (Y:=u) (Z:=[]) E
 rw [h,xG,xG] at this
 exact this
end
end Go.Proofs.YtmmkegapckbomaaGreatDoor
end
section
set_option maxRecDepth 100000
namespace Go.Proofs.YtmmkegapckbomaaGreatDoor
open Go Go.Pt
def qmd (blocks:Int) (K:((Option Addr)×Int)->WP) (w:World):Prop:=join (Bool) (fun b=>cond (decide (blocks<8)) (b true w) (b (decide (blocks>4096)) w)) fun (c:Bool) d=>cond c (K ((none,1)) d) (mkS 177 ([.b 0,.b 0,.b 0,.b 0,.b 0,.b 0,.b 0,.b 0,.b 0,.b 0,.b 0,.b 0,.b 0,.b 0,.b 0,.b 0,.b 0,.b 0,.b 0,.b 0,.b 0,.b 0,.b 0,.b 0,.b 0,.b 0,.b 0,.b 0,.b 0,.b 0,.b 0,.b 0,.b 0,.b 0,.b 0,.b 0,.b 0,.b 0,.b 0,.b 0,.b 0,.b 0,.b 0,.b 0,.b 0,.b 0,.b 0,.b 0,.b 0,.b 0,.b 0,.b 0,.b 0,.b 0,.b 0,.b 0,.b 0,.b 0,.b 0,.b 0,.b 0,.b 0,.b 0,.b 0,.b 0,.b 0,.b 0,.b 0,.b 0,.b 0,.b 0,.b 0,.b 0,.b 0,.b 0,.b 0,.b 0,.b 0,.b 0,.b 0,.b 0,.b 0,.b 0,.b 0,.b 0,.b 0,.b 0,.b 0,.b 0,.b 0,.b 0,.b 0,.b 0,.b 0,.b 0,.b 0,.b 0,.b 0,.b 0,.b 0,.b 0,.b 0,.b 0,.b 0,.b 0,.b 0,.b 0,.b 0,.b 0,.b 0,.b 0,.b 0,.b 0,.b 0,.b 0,.b 0,.b 0,.b 0,.b 0,.b 0,.b 0,.b 0,.b 0,.b 0,.b 0,.b 0,.b 0,.b 0,.b 0,.b 0,.b 0,.b 0,.b 0,.b 0,.b 0,.b 0,.b 0,.b 0,.b 0,.b 0,.b 0,.b 0,.b 0,.b 0,.b 0,.b 0,.b 0,.b 0,.b 0,.b 0,.b 0,.b 0,.b 0,.b 0,.b 0,.b 0,.b 0,.b 0,.b 0,.b 0,.b 0,.b 0,.b 0,.b 0,.b 0,.b 0,.b 0,.b 0,.b 0,.b 0,.b 0,.b 0,.b 0,.b 0,.b 0,.b 0,.b 0,.b 0,.b 0,.b 0,.b 0,.b 0,.b 0,.b 0,.b 0,.b 0,.b 0,.b 0,.b 0,.b 0,.b 0,.b 0,.b 0,.b 0,.b 0,.b 0,.b 0,.b 0,.b 0,.b 0,.b 0,.b 0,.b 0,.b 0,.b 0,.b 0,.b 0,.b 0,.b 0,.b 0,.b 0,.b 0,.b 0,.b 0,.b 0,.b 0,.b 0,.b 0,.b 0,.b 0,.b 0,.b 0,.b 0,.b 0,.b 0,.b 0,.b 0,.b 0,.b 0,.b 0,.b 0,.b 0,.b 0,.b 0,.b 0,.b 0,.b 0,.b 0,.b 0,.b 0,.b 0,.b 0,.b 0,.b 0,.b 0,.b 0,.b 0,.b 0,.b 0,.b 0,.b 0,.b 0,.b 0,.b 0,.b 0,.b 0,.b 0,.b 0,.b 0,.b 0,.b 0,.b 0,.b 0,.b 0,.b 0,.b 0,.b 0,.b 0,.b 0,.b 0,.b 0,.b 0,.b 0,.b 0,.b 0,.b 0,.b 0,.b 0,.b 0,.b 0,.b 0,.b 0,.b 0,.b 0,.b 0,.b 0,.b 0,.b 0,.b 0,.b 0,.b 0,.b 0,.b 0,.b 0,.b 0,.b 0,.b 0,.b 0,.b 0,.b 0,.b 0,.b 0,.b 0,.b 0,.b 0,.b 0,.b 0,.b 0,.b 0,.b 0,.b 0,.b 0,.b 0,.b 0,.b 0,.b 0,.b 0,.b 0,.b 0,.b 0,.b 0,.b 0,.b 0,.b 0,.b 0,.b 0,.b 0,.b 0,.b 0,.b 0,.b 0,.b 0,.b 0,.b 0,.b 0,.b 0,.b 0,.b 0,.b 0,.b 0,.b 0,.b 0,.b 0,.b 0,.b 0,.b 0,.b 0,.b 0,.b 0,.b 0,.b 0,.b 0,.b 0,.b 0,.b 0,.b 0,.b 0,.b 0,.b 0,.b 0,.b 0,.b 0,.b 0,.b 0,.b 0,.b 0,.b 0,.b 0,.b 0,.b 0,.b 0,.b 0,.b 0,.b 0,.b 0,.b 0,.b 0,.b 0,.b 0,.b 0,.b 0,.b 0,.b 0,.b 0,.b 0,.b 0,.b 0,.b 0,.b 0,.b 0,.b 0,.b 0,.b 0,.b 0,.b 0,.b 0,.b 0,.b 0,.b 0,.b 0,.b 0,.b 0,.b 0,.b 0,.b 0,.b 0,.b 0,.b 0,.b 0,.b 0,.b 0,.b 0,.b 0,.b 0,.b 0,.b 0,.b 0,.b 0,.b 0,.b 0,.b 0,.b 0,.b 0,.b 0,.b 0,.b 0,.b 0,.b 0,.b 0,.b 0,.b 0,.b 0,.b 0,.b 0,.b 0,.b 0,.b 0,.b 0,.b 0,.b 0,.b 0,.b 0,.b 0,.b 0,.b 0,.b 0,.b 0,.b 0,.b 0,.b 0,.b 0,.b 0,.b 0,.b 0,.b 0,.b 0,.b 0,.b 0,.b 0,.b 0,.b 0,.b 0,.b 0,.b 0,.b 0,.b 0,.b 0,.b 0,.b 0,.b 0,.b 0,.b 0,.b 0,.b 0,.b 0,.b 0,.b 0,.b 0,.b 0,.b 0,.b 0,.b 0,.b 0,.b 0,.b 0,.b 0,.b 0,.b 0,.b 0,.b 0,.b 0,.b 0,.b 0,.b 0,.b 0,.b 0,.b 0,.b 0,.b 0,.b 0,.b 0,.b 0,.b 0,.b 0,.b 0,.b 0,.b 0,.b 0,.b 0,.b 0,.b 0,.b 0]) 512 512 blocks blocks d fun e f=>new (Obj.cells #[e.v,.slice none 0 0,.i (-1),.bool false,.i 0] 175) f fun g h=>K ((pW g,0)) h)
theorem qod {blocks w K} (hF:qmd blocks K w):cW 57 [.i blocks] [.one .ptr,.one .i] w K:=qad (an:=[.n,.n,.j [(9,.one .bool)],.n,.n]) Tryz.func57 hF
def qdA (d:Option Addr) (K:Int->WP) (w:World):Prop:=nn d fun a=>ld .slice a w fun b=>K (↑b.len:Int) w
theorem qgR {d w K} (hF:qdA d K w):cW 97 [.pointer d] [.one .i] w K:=qad (an:=[.n,.n]) Tryz.func97 hF
def qes (d:Option Addr) (n:Int) (K:(Sl×Int)->WP) (w:World):Prop:=new (Obj.cells #[.i n] 3) w fun b c=>new (Obj.cells #[.slice none 0 0] 23) c fun e f=>new (Obj.cells #[.i 0] 33) f fun g h=>nn d fun i=>ld .bool ⟨i.block,i.off+3,none⟩ h fun (j:Bool)=>cond j (st ⟨e,0,none⟩ ([.slice none 0 0]) h fun k=>st ⟨g,0,none⟩ ([.i 7]) k fun l=>ld .slice ⟨e,0,none⟩ l fun m=>ld .i ⟨g,0,none⟩ l fun (o:Int)=>K ((m,o)) l) (join (Bool) (fun p=>ld .i ⟨b,0,none⟩ h.drew fun (q:Int)=>cond (decide (q<0)) (p true h.drew) (ld .i ⟨b,0,none⟩ h.drew fun (r:Int)=>nn d fun s=>ld .slice s h.drew fun t=>p (decide (r>=(↑t.len:Int))) h.drew)) fun (u:Bool) v=>cond u (st ⟨e,0,none⟩ ([.slice none 0 0]) v fun x=>st ⟨g,0,none⟩ ([.i 4]) x fun y=>ld .slice ⟨e,0,none⟩ y fun z=>ld .i ⟨g,0,none⟩ y fun (A:Int)=>K ((z,A)) y) (nn d fun B=>ld .slice ⟨B.block,B.off+1,none⟩ v fun C=>cW 156 ([C.v]) ([.one .any]) v fun (D:Value) E=>rng Tryz.prog D [.one .i,.raw] (fun (F:Int×List Value) (G:World->(WP)->Prop) (H:WP) I J=>newZ Tryz.prog 179 J fun L M=>chk (List.length F.snd=513)<|st ⟨L,0,none⟩ F.snd M fun N=>G N fun O=>ld .i ⟨L,0,none⟩ O fun (P:Int)=>ld .i ⟨b,0,none⟩ O fun (Q:Int)=>cond (P==Q) (slcP ⟨L,1,none⟩ 512 none none none 1 fun R=>cW 123 ([R.v]) ([.one .slice]) O fun S T=>st ⟨e,0,none⟩ ([S.v]) T fun U=>st ⟨g,0,none⟩ ([.i 0]) U fun V=>I 0 V) (H O)) (fun W X=>nn d fun Y=>ld .slice Y X.drew fun Z=>ld .i ⟨b,0,none⟩ X.drew fun (aa:Int)=>idx Z aa 512 fun ab=>slcP ab 512 none none none 1 fun ac=>cW 123 ([ac.v]) ([.one .slice]) X.drew fun ad ae=>st ⟨e,0,none⟩ ([ad.v]) ae fun af=>st ⟨g,0,none⟩ ([.i 0]) af fun ag=>undefer W ag fun ah=>ld .slice ⟨e,0,none⟩ ah fun ai=>ld .i ⟨g,0,none⟩ ah fun (aj:Int)=>K ((ai,aj)) ah) [fun ak al=>undefer ak al fun am=>ld .slice ⟨e,0,none⟩ am fun an=>ld .i ⟨g,0,none⟩ am fun (ao:Int)=>K ((an,ao)) am] E))
theorem qil {d n w K} (hF:qes d n K w):cW 125 [.pointer d,.i n] [.one .slice,.one .i] w K:=qnn (an:=[.n,.n,.n,.n,.j [(13,.one .bool)],.o [[0,1,2,3,4,5,6,7,8,9,10,11]],.n,.n,.n,.r [.one .i,.raw],.n,.n,.n,.o [[0,1,2,3,4,5,6,7,8,9]]]) Tryz.func125 hF
def qfn (d:Option Addr) (K:Bool->WP) (w:World):Prop:=nn d fun a=>ld .i ⟨a.block,a.off+2,none⟩ w fun (b:Int)=>cond (b==0) (nn d fun c=>st ⟨c.block,c.off+3,none⟩ ([.bool true]) w fun e=>K true e) (join (PUnit) (fun f=>nn d fun g=>ld .i ⟨g.block,g.off+2,none⟩ w fun (h:Int)=>cond (decide (h>0)) (nn d fun i=>ld .i ⟨i.block,i.off+2,none⟩ w fun (j:Int)=>nn d fun k=>st ⟨k.block,k.off+2,none⟩ ([.i (IntKind.wrap .i64 (j-1))]) w fun l=>f () l) (f () w)) fun (m:PUnit) n=>K false n)
theorem qjI {d w K} (hF:qfn d K w):cW 131 [.pointer d] [.one .bool] w K:=qad (an:=[.n,.n,.n,.n,.n,.j [],.n,.n]) Tryz.func131 hF
def qdT (d:Option Addr) (n:Int) (b:Sl) (K:Int->WP) (w:World):Prop:=nn d fun c=>ld .bool ⟨c.block,c.off+3,none⟩ w fun (e:Bool)=>cond e (K 7 w) (join (Bool) (fun f=>cond (decide (n<0)) (f true w) (nn d fun g=>ld .slice g w fun h=>f (decide (n>=(↑h.len:Int))) w)) fun (i:Bool) j=>cond i (K 4 j) (cond (!(↑b.len:Int)==512) (K 1 j) (nn d fun k=>ld .slice ⟨k.block,k.off+1,none⟩ j.drew fun l=>s2a b 512 fun m=>ldV 512 m j.drew fun o=>runQ [.raw] (fun p=>(Instr.build 179 (#[(0,.i n),(1,.agg (List.toArray o))])).run Tryz.prog p) j.drew fun q=>chk (List.length q=513)<|new (Obj.cells (List.toArray q) 179) j.drew fun r s=>held [cEl ⟨k.block,k.off+1,none⟩ l.v] s<|run [.one .slice] ((Builtin.append_ (#[173,173]) 173 (#[l.v,.slice (pW r) 1 1])).run Tryz.prog s) fun u v=>nn d fun x=>st ⟨x.block,x.off+1,none⟩ ([u.v]) v fun y=>nn d fun z=>ld .i ⟨z.block,z.off+4,none⟩ y fun (A:Int)=>nn d fun B=>st ⟨B.block,B.off+4,none⟩ ([.i (IntKind.wrap .i64 (A+1))]) y fun C=>cW 131 ([.pointer d]) ([.one .bool]) C fun (D:Bool) E=>cond D (K 7 E) (K 0 E))))
theorem qg0 {d n b w K} (hF:qdT d n b K w):cW 99 [.pointer d,.i n,b.v] [.one .i] w K:=qad (an:=[.n,.n,.n,.n,.j [(12,.one .bool)],.n,.n,.n,.n,.o [[0,1,2,3,4,5,6,7,8,9,10,11,12,13,14]],.n,.n,.n,.n,.n]) Tryz.func99 hF
def qeh (d:Option Addr) (K:Int->WP) (w:World):Prop:=join (Bool) (fun a=>nn d fun b=>ld .bool ⟨b.block,b.off+3,none⟩ w fun (c:Bool)=>cond c (a true w) (cW 131 ([.pointer d]) ([.one .bool]) w fun (e:Bool) f=>a e f)) fun (g:Bool) h=>cond g (K 7 h) (nn d fun i=>ld .slice ⟨i.block,i.off+1,none⟩ h fun j=>loop (Int) (fun k (l:Int) m=>cond (decide (l<(↑j.len:Int))) (idx j l 513 fun n=>ldV 513 n m fun o=>newZ Tryz.prog 179 m fun p q=>chk (List.length o=513)<|st ⟨p,0,none⟩ o q fun r=>nn d fun s=>ld .slice s r.drew fun t=>ld .i ⟨p,0,none⟩ r.drew fun (u:Int)=>ldV 512 ⟨p,1,none⟩ r.drew fun v=>idx t u 512 fun x=>chk (List.length v=512)<|st x v r.drew fun y=>k (IntKind.wrap .i64 (l+1)) y) (nn d fun z=>st ⟨z.block,z.off+1,none⟩ ([.slice none 0 0]) m fun A=>K 0 A)) 0 h)
theorem qim {d w K} (hF:qeh d K w):cW 100 [.pointer d] [.one .i] w K:=qad (an:=[.n,.n,.j [(12,.one .bool)],.n,.n,.n,.l [(18,.one .i)],.n,.n,.n,.n,.o [[0,1,2,3,4,5,6,7,8,9]],.n,.n]) Tryz.func100 hF
def qdZ (s:Sl) (K:Value->WP) (w:World):Prop:=new (Obj.cells #[s.v] 173) w fun b c=>K (Value.func (Fn.func 202) #[] #[.pointer (pW b)]) c
theorem qh0 {s w K} (hF:qdZ s K w):cW 156 [s.v] [.one .any] w K:=qad (an:=[.n,.n]) Tryz.func156 hF
def qcS (yield:Value) (cap0:Addr) (K:Unit->WP) (w:World):Prop:=ld .slice cap0 w fun a=>loop (Int) (fun b (c:Int) d=>cond (decide (c>=0)) (ld .slice cap0 d fun e=>idx e c 513 fun f=>ldV 513 f d fun g=>callV Tryz.prog yield ([.i c,.agg (List.toArray g)]) ([.one .bool]) d fun (h:Bool) i=>cond (!h) (K () i) (b (IntKind.wrap .i64 (c-1)) i)) (K () d)) (IntKind.wrap .i64 ((↑a.len:Int)-1)) w
theorem qfy {yield cap0 w K} (hF:qcS yield cap0 K w):cW 202 [yield,.pointer (some cap0)] [] w K:=qad (an:=[.n,.l [(3,.one .i)],.n,.n,.n,.n]) Tryz.func202 hF
end Go.Proofs.YtmmkegapckbomaaGreatDoor
end
section
namespace Go.Proofs.YtmmkegapckbomaaGreatDoor
open Go Go.Pt List
attribute [local irreducible] ld ldA ldV fld fldA newZ st new idx idxS idxA slc slcS slcP mkS chk nn call callV inv run runQ runU join loop held ext rng undefer s2a nxt ent IntKind.wrap
abbrev Blk:={l:List Int // l.length=512}
def encK (b:Blk):List Value:=b.1.map (Value.int .u8)
theorem qaY (b:Blk):(encK b).length=512:=by rw [encK,zK,b.2]
def encW (x:Int×Blk):List Value:=Value.int .i64 x.1::encK x.2
theorem qbF (x:Int×Blk):(encW x).length=513:=by rw [encW,yH,qaY]
def Blk.zero:Blk:=⟨zs 512,qaP 512⟩
structure DiskM where
 safe:List Blk
 waits:List (Int×Blk)
 fuse:Int
 down:Bool
 writes:Int
structure DiskM.Ok (D:DiskM):Prop where
 at_:∀ x∈D.waits,0<=x.1/\x.1<D.safe.length
 fuse:-1<=D.fuse/\D.fuse<=1000000000
 safe:D.safe.length<=4096
 waits:D.waits.length<=1000000
 writes:0<=D.writes/\D.writes<=1000000000
 bytesS:∀ b∈D.safe,IsB b.1
 bytesW:∀ x∈D.waits,IsB x.2.1
abbrev DT:TypeId:=175
def dCells (D:DiskM) (sb:Nat) (h:Sl):Array Value:=#[.slice (pW sb) D.safe.length D.safe.length,h.v,.i D.fuse,.bool D.down,.i D.writes]
def DiskAt (w:World) (db:Nat) (F:List Nat) (D:DiskM):Prop:=
 ∃ (sb:Nat) (T:TypeId) (h:Sl) (B:List Nat),F=db::sb::B/\(db::sb::B).Nodup/\w.heap[db]?=some (.cells (dCells D sb h) DT (0,0))/\w.heap[sb]?=some (.cells (D.safe.flatMap encK).toArray T (0,0))/\Buf encW 513 w h D.waits B
theorem DiskAt.frame {w w':World} {db:Nat} {F S:List Nat} {D:DiskM} (h:DiskAt w db F D) (f:Fr S w w') (u:∀ b∈F,b∉S):DiskAt w' db F D:=by
 obtain ⟨sb,T,A,B,rfl,G,C,E,I⟩:=h
 exact ⟨sb,T,A,B,rfl,G,by rw [f.block db (qab C) (u _ (by simp))]; exact C,by rw [f.block sb (qab E) (u _ (by simp))]; exact E,I.frame f (fun b J=>u b (by simp [J]))⟩
theorem DiskAt.frame0 {w w':World} {db:Nat} {F:List Nat} {D:DiskM} (h:DiskAt w db F D) (f:Fr [] w w'):DiskAt w' db F D:=h.frame f (fun _ _ h=>by cases h)
theorem DiskAt.lt {w:World} {db:Nat} {F:List Nat} {D:DiskM} (h:DiskAt w db F D):∀ b∈F,b<w.heap.size:=by
 obtain ⟨sb,T,A,B,rfl,I,C,E,G⟩:=h
 intro b u
 simp only [zG] at u
 rcases u with rfl | rfl | u
 ·exact qab C
 ·exact qab E
 ·exact G.lt b u
theorem DiskAt.cell {w:World} {db:Nat} {F:List Nat} {D:DiskM} (h:DiskAt w db F D):∃ sb u,w.heap[db]?=some (.cells (dCells D sb u) DT (0,0)):=by
 obtain ⟨sb,T,u,B,rfl,C,A,E,G⟩:=h
 exact ⟨sb,u,A⟩
theorem DiskAt.mem {w:World} {db:Nat} {F:List Nat} {D:DiskM} (h:DiskAt w db F D):db∈F:=by
 obtain ⟨sb,T,u,B,rfl,_⟩:=h
 simp
def dCellsC (D:DiskM) (sb c:Nat) (h:Sl):Array Value:=#[.slice (pW sb) D.safe.length c,h.v,.i D.fuse,.bool D.down,.i D.writes]
def DiskZ (w:World) (db:Nat) (F:List Nat) (D:DiskM) (c:Nat) (Z:List Value):Prop:=
 ∃ (sb:Nat) (T:TypeId) (h:Sl) (B:List Nat),F=db::sb::B/\(db::sb::B).Nodup/\w.heap[db]?=some (.cells (dCellsC D sb c h) DT (0,0))/\w.heap[sb]?=some (.cells (D.safe.flatMap encK++Z).toArray T (0,0))/\Buf encW 513 w h D.waits B
theorem DiskAt.z {w:World} {db:Nat} {F:List Nat} {D:DiskM} (h:DiskAt w db F D):DiskZ w db F D D.safe.length []:=by
 obtain ⟨sb,T,u,B,rfl,A,C,E,G⟩:=h
 exact ⟨sb,T,u,B,rfl,A,C,by rw [xG]; exact E,G⟩
theorem DiskAt.turn {w w':World} {db:Nat} {F:List Nat} {D G:DiskM} {sb:Nat} {A:Sl} (h:DiskAt w db F D) (U:w.heap[db]?=some (.cells (dCells D sb A) DT (0,0))) (f:Fr [db] w w') (V:G.safe=D.safe) (hw:G.waits=D.waits) (J:w'.heap[db]?=some (.cells (dCells G sb A) DT (0,0))):DiskAt w' db F G:=by
 obtain ⟨C,T,u,B,rfl,E,h1,Q,h3⟩:=h
 have I:C=sb/\u=A:=by
  have q:=h1.symm.trans U
  have q0:=congrArg (fun o=>match o with | some (Obj.cells K _ _)=>(match K[0]? with | some (Value.slice (some a) _ _)=>a.block | _=>0) | _=>0) q
  have q1:=congrArg (fun o=>match o with | some (Obj.cells K _ _)=>K[1]? | _=>none) q
  refine ⟨q0,?_⟩
  have R:Value.slice u.a u.len u.cap=Value.slice A.a A.len A.cap:=yN q1
  cases A
  cases u
  simp only [Value.slice.injEq] at R
  obtain ⟨rfl,rfl,rfl⟩:=R
  rfl
 obtain ⟨rfl,rfl⟩:=I
 have O:C≠db:=fun e=>by rw [e] at E; simp at E
 have hB:∀ b∈B,b∉[db]:=fun b hb I=>by simp at I; subst I; simp at E; exact E.1.2 hb
 exact ⟨C,T,u,B,rfl,E,J,by rw [V,f.block C (qab Q) (by simpa using O)]; exact Q,by rw [hw]; exact h3.frame f hB⟩
theorem qhS {w:World} {db:Nat} {F:List Nat} {D:DiskM} {K:Int->WP} (h:DiskAt w db F D) (u:K D.safe.length w):cW 97 [.pointer (pW db)] [.one .i] w K:=by
 refine qgR ?_
 unfold qdA
 obtain ⟨sb,A,C⟩:=h.cell
 refine qae (qaj C ⟨pW sb,D.safe.length,D.safe.length⟩ rfl ?_)
 exact u
def newM (h:Nat):DiskM:=⟨List.replicate h .zero,[],-1,false,0⟩
theorem qtB {n:Nat} (h:n<=4096):(newM n).Ok:=
 ⟨fun _ h=>(by cases h),⟨by show (-1:Int)<=-1; decide,by show (-1:Int)<=1000000000; decide⟩,by rw [newM]; simpa using h,by simp [newM],by simp [newM],fun b u=>by rw [eq_of_mem_replicate u]; exact IsB.zs 512,fun _ h=>(by cases h)⟩
theorem qoH (n:Nat) (b:Blk):(List.replicate n (encK b)).flatten=(List.replicate n b).flatMap encK:=by
 rw [flatMap_def,map_replicate]
set_option maxRecDepth 100000 in
theorem qtp {w:World} {h:Int} {K:Option Addr×Int->WP} (C:(h<8\/h>4096)->K (none,1) w)
  (I:8<=h->h<=4096->∀ db F w',DiskAt w' db F (newM h.toNat)->Fr [] w w'->(∀ b∈F,w.heap.size<=b)->K (pW db,0) w') :
  cW 57 [.i h] [.one .ptr,.one .i] w K:=by
 refine qod ?_
 unfold qmd
 refine qag (fun b w'=>b=decide (h<8\/h>4096)/\w'=w) ?_ ?_
 ·refine qaa (fun A=>?_) (fun A=>?_)
  ·exact ⟨by rw [zZ (Or.inl (zC A))],rfl⟩
  ·have:=zB A
   exact ⟨by simp [this],rfl⟩
 rintro b J ⟨rfl,rfl⟩
 refine qaa (fun A=>C (zC A)) (fun A=>?_)
 have U:=zB A
 have O:8<=h:=by omega
 have Q:h<=4096:=by omega
 obtain ⟨n,rfl⟩:∃ n:Nat,h=n:=⟨h.toNat,by omega⟩
 refine Own.mkN (zero:=encK Blk.zero) (Own.start [] J) (qaY _) (by omega) (by omega) (by omega) (by omega) fun sb V e2 u=>?_
 refine Own.new u fun db R e3 s3 u=>?_
 have E:(List.replicate (n:Int).toNat (encK Blk.zero)).flatten=((newM n).safe).flatMap encK:=by rw [zJ]; exact qoH n _
 refine I O Q db [db,sb] R ⟨sb,177,⟨none,0,0⟩,[],rfl,?_,?_,?_,.nil _ _ _⟩ u.fr (fun b G=>?_)
 ·have:=u.nodup; simpa using this
 ·have:=u.at (i:=0) rfl
  rw [this]
  simp [dCells,newM]
 ·have:=u.at (i:=1) rfl
  rw [this,zJ,<- E,zJ]
 ·simp at G
  have:=u.own
  rcases G with rfl | rfl
  ·have:=u.own (b,_) (yE (i:=0) rfl)
   simpa using this
  ·have:=u.own (b,_) (yE (i:=1) rfl)
   simpa using this
def actM (D:DiskM):DiskM×Bool:=if D.fuse=0 then ({ D with down:=true },true) else if D.fuse>0 then ({ D with fuse:=D.fuse-1 },false) else (D,false)
theorem qrU {w:World} {db:Nat} {F:List Nat} {D:DiskM} {K:Bool->WP} (h:DiskAt w db F D) (V:D.fuse<=1000000000) (Q:∀ w',DiskAt w' db F (actM D).1->Fr [db] w w'->K (actM D).2 w') :
  cW 131 [.pointer (pW db)] [.one .bool] w K:=by
 refine qjI ?_
 unfold qfn
 obtain ⟨sb,G,I⟩:=h.cell
 have u:Own [db] w w [(db,.cells (dCells D sb G) DT (0,0))]:=⟨by simpa using I,by simp,.refl _ _,by simp⟩
 refine qae (Own.ld u 0 rfl D.fuse rfl ?_)
 refine qaa (fun J=>?_) (fun J=>?_)
 ·have A:D.fuse=0:=by simpa using J
  refine qae ?_
  refine Own.st u 0 rfl _ rfl rfl rfl fun E u _=>?_
  have:=Q E (by rw [actM,if_pos A]; exact h.turn I u.fr rfl rfl (u.at (i:=0) rfl)) u.fr
  rw [actM,if_pos A] at this
  exact this
 ·have A:¬ D.fuse=0:=by simpa using J
  refine qag (fun _ w'=>DiskAt w' db F (actM D).1/\Fr [db] w w') ?_ ?_
  ·refine qae (Own.ld u 0 rfl D.fuse rfl ?_)
   refine qaa (fun O=>?_) (fun O=>?_)
   ·have C:D.fuse>0:=zC O
    refine qae (Own.ld u 0 rfl D.fuse rfl ?_)
    refine qae ?_
    rw [wi' _ (by omega)]
    refine Own.st u 0 rfl _ rfl rfl rfl fun E u _=>?_
    refine ⟨?_,u.fr⟩
    rw [actM,if_neg A,if_pos C]
    exact h.turn I u.fr rfl rfl (u.at (i:=0) rfl)
   ·have C:¬ D.fuse>0:=zB O
    refine ⟨?_,.refl _ _⟩
    rw [actM,if_neg A,if_neg C]
    exact h
  ·rintro _ E ⟨R,U⟩
   have:=Q E R U
   have e:(actM D).2=false:=by rw [actM,if_neg A]; split <;> rfl
   rw [e] at this
   exact this
theorem qtd:∃ i,Tryz.prog.info? 179=some i/\(∃ z,i.zero=some z/\z.cells.size=513)/\i.size=513/\i.bytes=520:=by
 have h:(Tryz.prog.info? 179).map (fun i=>(i.zero.map (fun z=>z.cells.size),i.size,i.bytes))=some (some 513,513,520):=by kernel_rfl
 obtain ⟨i,C,u⟩:=yS.1 h
 simp only [Prod.mk.injEq] at u
 obtain ⟨z,E,A⟩:=yS.1 u.1
 exact ⟨i,C,⟨z,E,A⟩,u.2.1,u.2.2⟩
def addW (D:DiskM) (n:Int) (b:Blk):DiskM:={ D with waits:=D.waits++[(n,b)],writes:=D.writes+1 }
def writeM (D:DiskM) (n:Int) (l:List Int):DiskM×Int:=
 if D.down then (D,7) else if n<0\/n>=D.safe.length then (D,4) else
 if h:l.length=512 then ((actM (addW D n ⟨l,h⟩)).1,if (actM (addW D n ⟨l,h⟩)).2 then 7 else 0) else (D,1)
theorem qow (n:Int) (b:Blk) (w:World):(Instr.build 179 #[(0,.i n),(1,.agg (encK b).toArray)]).run Tryz.prog w=.ok (.agg (encW (n,b)).toArray) w:=by
 obtain ⟨z,hz,hzs⟩:∃ z,(Tryz.prog.info? 179).bind (·.zero)=some z/\z.cells.size=513:=by
  obtain ⟨i,hi,⟨z,hz,hzs⟩,_⟩:=qtd
  exact ⟨z,by rw [hi]; exact hz,hzs⟩
 have:=qpF (P:=Tryz.prog) (a:=.i n) (b:=.agg (encK b).toArray) (o1:=1) (s0:=1) (s1:=512) hz (by kernel_rfl) (fun w=>by kernel_rfl) rfl (by show (encK b).toArray.size=512; rw [size_toArray,qaY]) rfl hzs w
 exact this
theorem qir (l:List Int):((l.map (Value.int .u8)).all Value.oneCell')=true:=by
 rw [all_eq_true]
 intro v h
 obtain ⟨x,_,rfl⟩:=mem_map.1 h
 rfl
theorem qn2 (b:Blk):((encK b).all Value.oneCell')=true:=qir _
theorem qjv (x:Int×Blk):((encW x).all Value.oneCell')=true:=by
 rw [encW,all_cons,qn2]; rfl
theorem qqW {S:List Nat} {w:World} {s:Sl} {l:List Int} (h:RdB S w s l) (C:l≠[]):∃ b o u T A,s.a=some ⟨b,o,none⟩/\w.heap[b]?=some (.cells u T A)/\b∉S/\(u.toList.drop o).take l.length=l.map (Value.int .u8):=by
 rcases h.2.2 with E | ⟨b,o,u,T,A,G,I,J,K⟩
 ·exact absurd E C
 ·refine ⟨b,o,u,T,A,G,I,J,?_⟩
  apply ext_getElem?
  intro i
  rw [xA,zQ]
  by_cases hi:i<l.length
  ·rw [if_pos hi,yZ,zA hi]
   have:=K i l[i] (zA hi)
   rw [xT] at this
   have:=congrArg (·[0]?) this
   simpa using this
  ·rw [if_neg hi,yR (by omega)]
   rfl
theorem qlI {S:List Nat} {w:World} {db:Nat} {F:List Nat} {D:DiskM} {n:Int} {s:Sl} {l:List Int} {K:Int->WP} (h:DiskAt w db F D) (hD:D.Ok) (hs:RdB S w s l)
  (hk:∀ F' w',DiskAt w' db F' (writeM D n l).1->Fr F w w'->(∀ b∈F',b∈F\/w.heap.size<=b)->K (writeM D n l).2 w') :
  cW 99 [.pointer (pW db),.i n,s.v] [.one .i] w K:=by
 refine qg0 (d:=pW db) (b:=s) ?_
 unfold qdT
 have hlen:=hs.1
 have hdb:=h.mem
 obtain ⟨sb,T,wsl,B,hF,hn,hc,hsb,hbuf⟩:=h
 have h:DiskAt w db F D:=⟨sb,T,wsl,B,hF,hn,hc,hsb,hbuf⟩
 have ho:Own F w w [(db,.cells (dCells D sb wsl) DT (0,0))]:=⟨by simpa using hc,by simp,.refl _ _,by simp [hdb]⟩
 refine qae (Own.ld (c:=.bool) ho 0 rfl D.down rfl ?_)
 have same:∀ {e:Int},writeM D n l=(D,e)->∀ {w'},w'=w->K e w':=by
  rintro e he w' rfl
  have:=hk F w' (by rw [he]; exact h) (.refl _ _) (fun b hb=>.inl hb)
  rw [he] at this
  exact this
 refine qaa (fun hd=>same (by rw [writeM,if_pos hd]) rfl) (fun hd=>?_)
 refine qag (fun b w'=>b=decide (n<0\/n>=D.safe.length)/\w'=w) ?_ ?_
 ·refine qaa (fun hc=>?_) (fun hc=>?_)
  ·exact ⟨by rw [zZ (Or.inl (zC hc))],rfl⟩
  ·refine qae (Own.ld (c:=.slice) ho 0 rfl ⟨pW sb,D.safe.length,D.safe.length⟩ rfl ⟨?_,rfl⟩)
   have:=zB hc
   by_cases h2:n>=D.safe.length <;> simp [this,h2]
 rintro b w1 ⟨rfl,rfl⟩
 refine qaa (fun hr=>same (by rw [writeM,if_neg (by simpa using hd),if_pos (zC hr)]) rfl) (fun hr=>?_)
 have hr':=zB hr
 refine qaa (fun hq=>same ?_ rfl) (fun hq=>?_)
 ·have:¬ l.length=512:=by simp at hq; omega
  rw [writeM,if_neg (by simpa using hd),if_neg hr',dif_neg this]
 have h512:l.length=512:=by simp at hq; omega
 obtain ⟨blk,hblk⟩:∃ blk:Blk,blk.1=l:=⟨⟨l,h512⟩,rfl⟩
 have hw:writeM D n l=((actM (addW D n blk)).1,if (actM (addW D n blk)).2 then 7 else 0):=by
  rw [writeM,if_neg (by simpa using hd),if_neg hr',dif_pos h512]
  have:blk=⟨l,h512⟩:=Subtype.ext hblk
  rw [this]
 rw [hw] at hk
 have hd1:=ho.drew
 refine qae (Own.ld (c:=.slice) hd1 0 rfl wsl rfl ?_)
 obtain ⟨sbk,so,scs,sT,sfr,hsa,hsbk,hsS,hscs⟩:=qqW hs (by rw [<- length_pos_iff]; omega)
 obtain ⟨sa,slen,scap⟩:=s
 simp only at hsa hlen
 subst hsa
 refine qui (by omega) ?_
 refine qcf (n:=512) (w:=w1.drew) hsbk (encK blk) (qaY _) (by rw [<- h512,hscs,encK,hblk]) ?_
 refine qbu (ts:=[.raw]) (encW (n,blk)) (qow n blk _) ?_
 refine qbg (qbF _) ?_
 refine Own.new' hd1 fun r w2 er fr2 ho2=>?_
 refine qah (ho2.cell (off:=1) 1 rfl rfl) ?_
 obtain ⟨iW,hi,⟨z,hz,hzs⟩,hsz,hby⟩:=qtd
 have hwl:=hD.waits
 have hwr:=hD.writes
 have hfz:=hD.fuse
 have fr2':Fr [] w1 w2:=(Fr.refl [] w1).drew.trans fr2
 have hbuf2:Buf encW 513 w2 wsl D.waits B:=hbuf.frame0 fr2'
 have hsb2:w2.heap[sb]?=some (.cells (D.safe.flatMap encK).toArray T (0,0)):=by rw [fr2'.block sb (qab hsb) (by simp)]; exact hsb
 have hBF:∀ b∈B,b∈F:=fun b hb=>by rw [hF]; simp [hb]
 have hdbB:∀ b∈B,b≠db:=fun b hb e=>by subst e; simp at hn; exact hn.1.2 hb
 have hsbB:∀ b∈B,b≠sb:=fun b hb e=>by subst e; simp at hn; exact hn.2.1 hb
 have hrB:∀ b∈B,b≠r:=fun b hb e=>by have:=hbuf.lt b hb; have e1:w1.drew.heap.size=w1.heap.size:=rfl; omega
 refine Buf.appSrc (ys:=[(n,blk)]) (e:=179) hbuf2 qbF (by kernel_rfl) hi hz hsz hzs (.ofSlice _ (e':=179) (by kernel_rfl) _ 1 1 _ ?_ ?_ ?_) rfl (by rw [hby]; omega) (by omega) fun s' B' w3 g1 g2 g3 _=>?_
 ·simp [qbF]
 ·intro j u hj
  rw [Addr.add_mk,qaf (ho2.at (i:=0) rfl),xR]
  have:(encW (n,blk))[j]?=some u:=by simpa using hj
  simpa using this
 ·intro u hu
  have:u∈encW (n,blk):=by simpa using hu
  exact all_eq_true.1 (qjv (n,blk)) u this
 have ho3:Own F w1 w3 [(r,.cells (encW (n,blk)).toArray 179 (0,0)),(db,.cells (dCells D sb wsl) DT (0,0))]:=
  ho2.frame g2 (fun b hb=>.inl (hBF b hb)) (fun p hp=>by simp at hp; rcases hp with rfl | rfl; exact fun hb=>hrB _ hb rfl; exact fun hb=>hdbB _ hb rfl)
 have hsb3:w3.heap[sb]?=some (.cells (D.safe.flatMap encK).toArray T (0,0)):=by rw [g2.block sb (qab hsb2) (fun hb=>hsbB _ hb rfl)]; exact hsb2
 have hc3:=ho3.at (i:=1) rfl
 refine qae ?_
 refine qbY hc3 (dCells { D with waits:=D.waits++[(n,blk)] } sb s') rfl rfl (zO rfl) fun w4 hc4 f4=>?_
 refine qae (qaj (c:=.i) hc4 D.writes rfl ?_)
 refine qae ?_
 rw [wi' (D.writes+1) (by omega)]
 refine qbY hc4 (dCells (addW D n blk) sb s') rfl rfl (zO rfl) fun w5 hc5 f5=>?_
 have hs2:=fr2'.size
 have hs3:=g2.size
 have hne:sb≠db:=fun e=>by rw [e] at hn; simp at hn
 have f35:Fr [db] w3 w5:=f4.trans f5
 have hB'db:∀ b∈B',b≠db:=fun b hb e=>by
  rcases g3 b hb with h' | h'
  ·exact hdbB b h' e
  ·have:=qab hc; omega
 have hB'sb:∀ b∈B',b≠sb:=fun b hb e=>by
  rcases g3 b hb with h' | h'
  ·exact hsbB b h' e
  ·have:=qab hsb; omega
 have hB'n:B'.Nodup:=by
  rcases g1 with ⟨_,_,rfl⟩ | ⟨b',o',cs',T',rfl,_⟩
  ·simp
  ·simp
 have h5:DiskAt w5 db (db::sb::B') (addW D n blk):=by
  refine ⟨sb,T,s',B',rfl,?_,hc5,?_,?_⟩
  ·simp only [nodup_cons,zG,not_or]
   exact ⟨⟨fun e=>hne e.symm,fun hb=>hB'db _ hb rfl⟩,fun hb=>hB'sb _ hb rfl,hB'n⟩
  ·rw [f35.block sb (qab hsb3) (by simpa using hne)]
   exact hsb3
  ·exact g1.frame f35 (fun b hb=>by simpa using hB'db b hb)
 have hF':∀ b∈db::sb::B',b∈F\/w1.heap.size<=b:=fun b hb=>by
  simp only [zG] at hb
  rcases hb with rfl | rfl | hb
  ·exact .inl hdb
  ·exact .inl (by rw [hF]; simp)
  ·rcases g3 b hb with h' | h'
   ·exact .inl (hBF b h')
   ·exact .inr (by omega)
 have f15:Fr F w1 w5:=((fr2'.mono (fun i hi _=>by cases hi)).trans' g2 (fun b hb=>.inl (hBF b hb))).trans' f35 (fun b hb=>by simp at hb; subst hb; exact .inl hdb)
 refine qrU h5 (by show D.fuse<=_; omega) fun w6 h6 f6=>?_
 have:=hk (db::sb::B') w6 h6 (f15.trans' f6 (fun b hb=>by simp at hb; subst hb; exact .inl hdb)) hF'
 refine qaa (fun ha=>?_) (fun ha=>?_)
 ·rw [ha] at this; exact this
 ·rw [ha] at this; exact this
def laySafe (s:List Blk) (x:Int×Blk):List Blk:=s.set x.1.toNat x.2
theorem qb0 (l:List (Int×Blk)):∀ s:List Blk,(l.foldl laySafe s).length=s.length:=by
 induction l with
 | nil=>intro s; rfl
 | cons x l ih=>intro s; rw [foldl_cons,ih,laySafe,xF]
def syncM (D:DiskM):DiskM×Int:=
 if D.down then (D,7) else if (actM D).2 then ((actM D).1,7) else ({ (actM D).1 with safe:=D.waits.foldl laySafe D.safe,waits:=[] },0)
theorem qdn (D:DiskM):(actM D).1.safe=D.safe/\(actM D).1.waits=D.waits:=by
 unfold actM
 split
 ·exact ⟨rfl,rfl⟩
 ·split <;> exact ⟨rfl,rfl⟩
theorem qnw {w:World} {db:Nat} {F:List Nat} {D:DiskM} {K:Int->WP} (h:DiskAt w db F D) (hD:D.Ok)
  (hk:∀ F' w',DiskAt w' db F' (syncM D).1->Fr F w w'->(∀ b∈F',b∈F)->K (syncM D).2 w') :
  cW 100 [.pointer (pW db)] [.one .i] w K:=by
 refine qim ?_
 unfold qeh
 have ae:=h.mem
 have aI:=hD.fuse
 refine qag (fun b w'=>(D.down=true/\b=true/\w'=w)\/(D.down=false/\b=(actM D).2/\DiskAt w' db F (actM D).1/\Fr [db] w w')) ?_ ?_
 ·obtain ⟨sb,A,hc⟩:=h.cell
  refine qae (qaj hc D.down rfl ?_)
  refine qaa (fun O=>.inl ⟨O,rfl,rfl⟩) (fun O=>?_)
  exact qrU h (by omega) fun w1 h1 f1=>.inr ⟨O,rfl,h1,f1⟩
 rintro b w1 (⟨O,rfl,rfl⟩ | ⟨O,rfl,h1,f1⟩)
 ·refine cond_true rfl ?_
  have:=hk F w1 (by rw [syncM,if_pos O]; exact h) (.refl _ _) (fun b V=>V)
  rw [syncM,if_pos O] at this
  exact this
 have fF:Fr F w w1:=f1.mono (fun i C _=>by simp at C; subst C; exact ae)
 refine qaa (fun ha=>?_) (fun ha=>?_)
 ·have:=hk F w1 (by rw [syncM,if_neg (by simp [O]),if_pos ha]; exact h1) fF (fun b V=>V)
  rw [syncM,if_neg (by simp [O]),if_pos ha] at this
  exact this
 have aw:syncM D=({ (actM D).1 with safe:=D.waits.foldl laySafe D.safe,waits:=[] },0):=by rw [syncM,if_neg (by simp [O]),if_neg (by simp [ha])]
 rw [aw] at hk
 obtain ⟨R,ai⟩:=qdn D
 generalize (actM D).1=D1 at h1 R ai hk
 obtain ⟨sb,T,A,B,hF,hn,hc,ak,E⟩:=h1
 rw [R] at ak
 rw [ai] at E
 have aa:sb≠db:=fun e=>by rw [e] at hn; simp at hn
 have hB:∀ b∈B,b∉[sb]:=fun b V he=>by simp at he; subst he; simp at hn; exact hn.2.1 V
 have aK:=E.len
 have ax:=hD.waits
 have ay:=hD.safe
 refine qae (qaj hc A rfl ?_)
 refine qak (fun x w'=>∃ i:Nat,x=i/\i<=D.waits.length/\w'.heap[sb]?=some (.cells (((D.waits.take i).foldl laySafe D.safe).flatMap encK).toArray T (0,0))/\Fr [sb] w1 w') (fun x _=>((D.waits.length:Int)-x).toNat)
  ⟨0,rfl,by omega,ak,.refl _ _⟩ ?_
 rintro x w2 ⟨i,rfl,C,G,f2⟩ X hX
 have ab:w2.heap[db]?=some (.cells (dCells D1 sb A) DT (0,0)):=by rw [f2.block db (qab hc) (by simpa using fun e=>aa e.symm)]; exact hc
 refine qaa (fun I=>?_) (fun I=>?_)
 ·have J:i<D.waits.length:=by have:=zC I; omega
  have az:Rds encW 513 [] w2 A D.waits:=(E.frame f2 hB).rds qbF (by simp)
  have al:=zA J
  have aM:=hD.at_ D.waits[i] (zW J)
  refine az.getV qbF i rfl al ?_
  refine Own.newFill (Own.start [] w2) (by kernel_rfl) (qbF _) (qjv _) fun r Q er ho=>?_
  have aA:Q.heap[sb]?=some (.cells (((D.waits.take i).foldl laySafe D.safe).flatMap encK).toArray T (0,0)):=by rw [ho.fr.block sb (qab G) (by simp)]; exact G
  have ac:Q.heap[db]?=some (.cells (dCells D1 sb A) DT (0,0)):=by rw [ho.fr.block db (qab ab) (by simp)]; exact ab
  refine qae (qaj (w:=Q.drew) ac ⟨pW sb,D1.safe.length,D1.safe.length⟩ rfl ?_)
  have am:=ho.at (i:=0) rfl
  refine qaj (w:=Q.drew) am D.waits[i].1 rfl ?_
  refine qcf (n:=512) (w:=Q.drew) am (encK D.waits[i].2) (qaY _) (by rw [show (encW D.waits[i]).toArray.toList.drop 1=encK D.waits[i].2 from rfl,zS (by rw [qaY]; exact zM _)]) ?_
  have u:=qb0 (D.waits.take i) D.safe
  refine qck (by omega) (by rw [R]; omega) ?_
  refine qbg (qaY _) ?_
  have U:0+Int.toNat D.waits[i].1*512+(encK D.waits[i].2).length<=(((D.waits.take i).foldl laySafe D.safe).flatMap encK).toArray.size:=by
   rw [size_toArray,qaC qaY,qaY,u]
   omega
  refine qbY (w:=Q.drew) aA (((((D.waits.take i).foldl laySafe D.safe).set D.waits[i].1.toNat D.waits[i].2).flatMap encK).toArray) (by rw [xR]; exact qoo qaY ((D.waits.take i).foldl laySafe D.safe) D.waits[i].1.toNat D.waits[i].2 (by rw [u]; omega)) (qn2 _) U fun w4 aB f4=>?_
  rw [wi' _ (by omega)]
  refine hX _ _ ⟨i+1,by simp,by omega,?_,?_⟩ (by omega)
  ·rw [yF J,foldl_append]
   exact aB
  ·have aC:Fr [sb] w2 Q.drew:=ho.fr.drew.mono (fun i C _=>by cases C)
   exact f2.trans (aC.trans f4)
 ·have J:i=D.waits.length:=by have:=zB I; omega
  subst J
  rw [xZ] at G
  refine qae ?_
  have u:=qb0 D.waits D.safe
  refine qbY ab (dCells { D1 with safe:=D.waits.foldl laySafe D.safe,waits:=[] } sb ⟨none,0,0⟩) (by simp [splice,dCells,u,R]) rfl (zO rfl) fun Q ac f3=>?_
  have aD:Fr F w Q:=(fF.trans (f2.mono (fun i C _=>by simp at C; subst C; rw [hF]; simp))).trans (f3.mono (fun i C _=>by simp at C; subst C; exact ae))
  refine hk [db,sb] Q ⟨sb,T,⟨none,0,0⟩,[],rfl,by simpa using fun e=>aa e.symm,ac,?_,.nil _ _ _⟩ aD (fun b V=>by rw [hF]; simp at V; rcases V with rfl | rfl <;> simp)
  rw [f3.block sb (qab G) (by simpa using aa)]
  exact G
def lastW (n:Int):List (Int×Blk)->Option Blk
 | []=>none
 | x::r=>match lastW n r with | some b=>some b | none=>if x.1=n then some x.2 else none
theorem ql4 {n:Int}:∀ (l:List (Int×Blk)) (i:Nat) (h:i<l.length),lastW n (l.drop (i+1))=none->l[i].1=n->lastW n l=some l[i].2
 | x::l,0,h,u,A=>by
  simp only [xR,drop_succ_cons,xE] at u
  simp only [getElem_cons_zero] at A ⊢
  simp [lastW,u,A]
 | x::l,i+1,h,u,A=>by
  have:=ql4 l i (by simpa using h) (by simpa using u) (by simpa using A)
  simp only [lastW,this,getElem_cons_succ]
theorem qqi {n:Int}:∀ (l:List (Int×Blk)) (i:Nat) (h:i<l.length),lastW n (l.drop (i+1))=none->l[i].1≠n->lastW n (l.drop i)=none:=by
 intro l i h A u
 rw [zX h,lastW,A]
 simp [u]
def readV (D:DiskM) (n:Int):List Int×Int:=
 if D.down then ([],7) else if n<0\/n>=D.safe.length then ([],4) else
 match lastW n D.waits with | some b=>(b.1,0) | none=>((D.safe.getD n.toNat .zero).1,0)
theorem qnr {b o n:Nat} {h:Nat} {K:Sl->Prop} (u:0<n) (k:K ⟨some ⟨b,o,none⟩,n,n⟩):slcP ⟨b,o,none⟩ n none none none h K:=by
 unfold slcP
 refine ⟨by simp,?_⟩
 simp only [xW,zJ,Int.toNat_zero,Nat.sub_zero,Nat.zero_mul]
 rw [if_neg (by omega),qhb]
 exact k
theorem qm3 {S:List Nat} {w:World} {b o:Nat} {cs:Array Value} {T:TypeId} {h:Nat×Nat} {x:Blk} (E:w.heap[b]?=some (.cells cs T h)) (G:(cs.toList.drop o).take 512=encK x) (I:b∉S):RdB S w ⟨some ⟨b,o,none⟩,512,512⟩ x.1:=by
 refine ⟨x.2.symm,zM _,.inr ⟨b,o,cs,T,h,rfl,E,I,fun i v u=>?_⟩⟩
 have A:=(zP.1 u).1
 rw [x.2] at A
 rw [xT]
 have C:(encK x)[i]?=some (.b v):=by rw [encK,zQ,u]; rfl
 rw [<- G,xA,if_pos A,yZ] at C
 apply ext_getElem?
 intro j
 rw [xA,yZ]
 match j with
 | 0=>simpa using C
 | j+1=>simp
theorem qoq {w:World} {s:Sl} {K:Value->WP} (u:∀ rb w',(∀ S w0 L,Own S w0 w L->Own S w0 w' ((rb,.cells #[s.v] 173 (0,0))::L))->K (.func (.func 202) #[] #[.pointer (pW rb)]) w') :
  cW 156 [s.v] [.one .any] w K:=by
 refine qh0 ?_
 unfold qdZ
 exact Pt.qkd (u _ _ fun S w0 L h=>h.alloc _)
theorem qoE {Z:List Value} (l:List Blk) (i:Nat) (x:Blk) (h:l[i]?=some x):((l.flatMap encK++Z).drop (i*512)).take 512=encK x:=by
 have A:=(zP.1 h).1
 have u:(l.flatMap encK).length=l.length*512:=qaC qaY l
 rw [drop_append_of_le_length (by rw [u]; omega),take_append_of_le_length (by rw [yB,u]; omega)]
 exact qfO qaY l i x h
theorem qqr {w:World} {db c:Nat} {F:List Nat} {D:DiskM} {Z:List Value} {n:Int} {K:Sl×Int->WP} (h:DiskZ w db F D c Z) (hD:D.Ok)
  (hk:∀ s' B w',BufB w' s' (readV D n).1 B->Fr [] w w'->(∀ b∈B,w.heap.size<=b)->K (s',(readV D n).2) w') :
  cW 125 [.pointer (pW db),.i n] [.one .slice,.one .i] w K:=by
 refine qil ?_
 unfold qes
 refine Own.new' (Own.start [] w) fun r1 w1 e1 f1 C=>?_
 refine Own.new' C fun r3 w2 e2 f2 C=>?_
 refine Own.new' C fun r5 w3 e3 f3 C=>?_
 obtain ⟨sb,T,V,B,hF,hn,hc,ay,aj⟩:=h
 have ag:∀ {w':World},Fr [] w w'->w'.heap[db]?=some (.cells (dCellsC D sb c V) DT (0,0)):=fun f=>by rw [f.block db (qab hc) (by simp)]; exact hc
 have az:∀ {w':World},Fr [] w w'->w'.heap[sb]?=some (.cells (D.safe.flatMap encK++Z).toArray T (0,0)):=fun f=>by rw [f.block sb (qab ay) (by simp)]; exact ay
 have aA:∀ {e:Int} {w':World} {L'},readV D n=([],e)->Own [] w w' L'->L'[1]?=some (r3,.cells #[.slice none 0 0] 23 (0,0))->L'[0]?=some (r5,.cells #[.i e] 33 (0,0))->ld Cell.slice ⟨r3,0,none⟩ w' fun s=>ld .i ⟨r5,0,none⟩ w' fun x=>K (s,x) w':=by
  intro e w' L' he C h1 h0
  refine Own.ld C 1 h1 ⟨none,0,0⟩ rfl ?_
  refine Own.ld C 0 h0 e rfl ?_
  have:=hk ⟨none,0,0⟩ [] w' (by rw [he]; exact .nil _ _ _) C.fr (by simp)
  rw [he] at this
  exact this
 refine qae (qaj (ag C.fr) D.down rfl ?_)
 refine qaa (fun hd=>?_) (fun hd=>?_)
 ·refine Own.st C 1 rfl _ rfl rfl rfl fun w4 C _=>?_
  refine Own.st C 0 rfl _ rfl rfl rfl fun w5 C _=>?_
  exact aA (by rw [readV,if_pos hd]) C rfl rfl
 refine qag (fun b w'=>b=decide (n<0\/n>=D.safe.length)/\w'=w3.drew) ?_ ?_
 ·refine Own.ld C.drew 2 rfl n rfl ?_
  refine qaa (fun hc=>?_) (fun aQ=>?_)
  ·exact ⟨by rw [zZ (Or.inl (zC hc))],rfl⟩
  ·refine Own.ld C.drew 2 rfl n rfl ?_
   refine qae (qaj (ag C.drew.fr) ⟨pW sb,D.safe.length,c⟩ rfl ⟨?_,rfl⟩)
   have:=zB aQ
   by_cases h2:n>=D.safe.length <;> simp [this,h2]
 rintro b w4 ⟨rfl,rfl⟩
 refine qaa (fun hr=>?_) (fun hr=>?_)
 ·refine Own.st C.drew 1 rfl _ rfl rfl rfl fun w4 C _=>?_
  refine Own.st C 0 rfl _ rfl rfl rfl fun w5 C _=>?_
  exact aA (by rw [readV,if_neg (by simpa using hd),if_pos (zC hr)]) C rfl rfl
 have aS:=zB hr
 have aT:0<=n:=by omega
 have aU:n<D.safe.length:=by omega
 have aV:=hD.waits
 have aW:=hD.safe
 have aX:=aj.len
 have aE:readV D n=match lastW n D.waits with | some b=>(b.1,0) | none=>((D.safe.getD n.toNat .zero).1,0):=by
  rw [readV,if_neg (by simpa using hd),if_neg aS]
 refine qae (qaj (ag C.drew.fr) V rfl ?_)
 refine qoq fun rb w5 aY=>?_
 have aZ:=aY _ _ _ C.drew
 refine Own.rng (lb:=[.pointer (pW rb)]) aZ rfl (by kernel_rfl) fun Dm l R Bz J E E0 w6 el eD bh aI hy=>?_
 refine qfy ?_
 unfold qcS
 refine Own.ld aI 2 rfl V rfl ?_
 rw [wi' _ (by omega)]
 have aJ:∀ {bl:Blk} {s7:Sl} {Bf:List Nat} {aa wz:World} {ah:List (Nat×Obj)},readV D n=(bl.1,0)->Own [] w aa ah->BufB aa s7 bl.1 Bf->(∀ b∈Bf,w.heap.size<=b)->(∀ b∈Bf,b∉ah.map (·.1))->Fr (ah.map (·.1)) aa wz->K (s7,0) wz:=by
  intro bl s7 Bf aa wz ah he a1 ad I O fz
  have:=hk s7 Bf wz (by rw [he]; exact ad.frame fz O) (a1.back (L':=[]) fz) I
  rw [he] at this
  exact this
 refine qak (fun x w'=>∃ i:Nat,x=(i:Int)-1/\i<=D.waits.length/\lastW n (D.waits.drop i)=none/\Own [] w w' [(l,R),(Dm,.deferred (some [])),(rb,.cells #[V.v] 173 (0,0)),(r5,.cells #[.i 0] 33 (0,0)),(r3,.cells #[.slice none 0 0] 23 (0,0)),(r1,.cells #[.i n] 3 (0,0))]) (fun x _=>(x+1).toNat)
  ⟨D.waits.length,by rw [aX],zM _,by rw [drop_length]; rfl,aI⟩ ?_
 rintro x w7 ⟨i,rfl,hi,ai,ab⟩ X hX
 refine qaa (fun an=>?_) (fun an=>?_)
 ·have bk:=zC an
  obtain ⟨i,rfl⟩:∃ k,i=k+1:=⟨i-1,by omega⟩
  have ao:i<D.waits.length:=by omega
  refine Own.ld ab 2 rfl V rfl ?_
  have a2:Rds encW 513 [] w7 V D.waits:=(aj.frame0 ab.fr).rds qbF (by simp)
  refine a2.getV qbF i (by omega) (zA ao) ?_
  refine hy ((((i+1:Nat):Int)-1),encW D.waits[i]) w7 _ (ab.at (i:=0) rfl) ?_
  dsimp only
  refine Own.newFill ab (by kernel_rfl) (qbF _) (qjv _) fun r w8 er G=>?_
  refine ⟨G.at (i:=1) rfl,?_⟩
  have Q:=G.upd (o':=Bz) 1 rfl
  refine Own.ld Q 0 rfl D.waits[i].1 rfl ?_
  refine Own.ld Q 6 rfl n rfl ?_
  refine qaa (fun hm=>?_) (fun hm=>?_)
  ·have aq:D.waits[i].1=n:=by simpa using hm
   have ar:=ql4 D.waits i ao ai aq
   have ae:readV D n=(D.waits[i].2.1,0):=by rw [aE,ar]
   refine qnr (by decide) ?_
   have au:RdB [] (Pt.upd w8 l Bz) ⟨some ⟨r,1,none⟩,512,512⟩ D.waits[i].2.1:=
    qm3 (x:=D.waits[i].2) (Q.at (i:=0) rfl) (by rw [show (encW D.waits[i]).toArray.toList.drop 1=encK D.waits[i].2 from rfl,zS (by rw [qaY]; exact zM _)]) (by simp)
   refine qaX (s:=⟨some ⟨r,1,none⟩,512,512⟩) au (by rw [D.waits[i].2.2]; decide) fun s7 Bf aa ad av af _ _=>?_
   have U:=Q.frame0 av
   have u:=U.rebase
   have I:∀ b∈Bf,w.heap.size<=b:=fun b hb=>by have h1:(Pt.upd w8 l Bz).heap.size<=b:=af b hb; have:=Q.fr.size; omega
   have O:∀ b∈Bf,b∉[r,l,Dm,rb,r5,r3,r1]:=fun b hb hm=>by
    have h1:(Pt.upd w8 l Bz).heap.size<=b:=af b hb
    have h2:∀ p∈[r,l,Dm,rb,r5,r3,r1],p<(Pt.upd w8 l Bz).heap.size:=fun p hp=>by
     have A:=fun (k:Nat) (q:Nat×Obj) (hq:_[k]?=some q)=>qab (Q.at (i:=k) hq)
     simp only [zG,xX,or_false] at hp
     rcases hp with rfl | rfl | rfl | rfl | rfl | rfl | rfl
     ·exact A 0 _ rfl
     ·exact A 1 _ rfl
     ·exact A 2 _ rfl
     ·exact A 3 _ rfl
     ·exact A 4 _ rfl
     ·exact A 5 _ rfl
     ·exact A 6 _ rfl
    have:=h2 b hm
    omega
   refine Own.st u 5 rfl _ rfl rfl rfl fun a4 u _=>?_
   refine Own.st u 4 rfl _ rfl rfl rfl fun a5 u _=>?_
   refine ⟨u.at (i:=1) rfl,?_⟩
   have u:=u.upd (o':=J 0) 1 rfl
   refine cond_true rfl ?_
   refine .inr ⟨0,_,rfl,u.at (i:=1) rfl,?_⟩
   have u:=u.upd (o':=E 0) 1 rfl
   refine Own.undefer u 2 rfl fun a6 u=>?_
   refine Own.ld u 5 rfl s7 rfl ?_
   refine Own.ld u 4 rfl 0 rfl ?_
   exact aJ ae U ad I O u.fr
  ·have aq:D.waits[i].1≠n:=by simpa using hm
   refine ⟨Q.at (i:=1) rfl,?_⟩
   have a7:=Q.upd (o':=R) 1 rfl
   refine cond_false rfl ?_
   rw [wi' _ (by omega)]
   refine hX _ _ ⟨i,by omega,by omega,qqi D.waits i ao ai aq,a7.sub (sublist_cons_self _ _)⟩ (by omega)
 ·have A:=zB an
  obtain rfl:i=0:=by omega
  rw [xE] at ai
  refine .inl ⟨ab.at (i:=0) rfl,?_⟩
  have G:=(ab.upd (o':=E0) 0 rfl).drew
  have ae:readV D n=((D.safe.getD n.toNat .zero).1,0):=by rw [aE,ai]
  have aL:n.toNat<D.safe.length:=by omega
  have a8:D.safe[n.toNat]?=some (D.safe.getD n.toNat .zero):=by rw [yQ,zA aL]; rfl
  refine qae (qaj (ag G.fr) ⟨pW sb,D.safe.length,c⟩ rfl ?_)
  refine Own.ld G 5 rfl n rfl ?_
  refine qck aT aU ?_
  refine qnr (by decide) ?_
  have au:RdB [] (Pt.upd w7 l E0).drew ⟨some ⟨sb,0+n.toNat*512,none⟩,512,512⟩ (D.safe.getD n.toNat .zero).1:=
   qm3 (az G.fr) (by rw [xR]; exact qoE D.safe n.toNat _ a8) (by simp)
  refine qaX (s:=⟨some ⟨sb,0+n.toNat*512,none⟩,512,512⟩) au (by rw [(D.safe.getD n.toNat .zero).2]; decide) fun s7 Bf aa ad av af _ _=>?_
  have U:=G.frame0 av
  have u:=U.rebase
  have I:∀ b∈Bf,w.heap.size<=b:=fun b hb=>by have h1:(Pt.upd w7 l E0).drew.heap.size<=b:=af b hb; have:=G.fr.size; omega
  have O:∀ b∈Bf,b∉[l,Dm,rb,r5,r3,r1]:=fun b hb hm=>by
   have h1:(Pt.upd w7 l E0).drew.heap.size<=b:=af b hb
   have h2:∀ p∈[l,Dm,rb,r5,r3,r1],p<(Pt.upd w7 l E0).drew.heap.size:=fun p hp=>by
    have A:=fun (k:Nat) (q:Nat×Obj) (hq:_[k]?=some q)=>qab (G.at (i:=k) hq)
    simp only [zG,xX,or_false] at hp
    rcases hp with rfl | rfl | rfl | rfl | rfl | rfl
    ·exact A 0 _ rfl
    ·exact A 1 _ rfl
    ·exact A 2 _ rfl
    ·exact A 3 _ rfl
    ·exact A 4 _ rfl
    ·exact A 5 _ rfl
   have:=h2 b hm
   omega
  refine Own.st u 4 rfl _ rfl rfl rfl fun a4 u _=>?_
  refine Own.st u 3 rfl _ rfl rfl rfl fun a5 u _=>?_
  refine Own.undefer u 1 rfl fun a6 u=>?_
  refine Own.ld u 4 rfl s7 rfl ?_
  refine Own.ld u 3 rfl 0 rfl ?_
  exact aJ ae U ad I O u.fr
theorem qfM {w:World} {db:Nat} {F:List Nat} {D:DiskM} {n:Int} {K:Sl×Int->WP} (h:DiskAt w db F D) (A:D.Ok)
  (C:∀ u B w',BufB w' u (readV D n).1 B->Fr [] w w'->(∀ b∈B,w.heap.size<=b)->K (u,(readV D n).2) w') :
  cW 125 [.pointer (pW db),.i n] [.one .slice,.one .i] w K:=qqr h.z A C
def insAll (l:List Int):List Int:=l.foldl (fun a n=>ins n a) []
theorem qpa (n:Int):∀ l:List Int,(ins n l).length<=l.length+1
 | []=>by simp [ins]
 | a::l=>by
  have:=qpa n l
  simp only [ins]
  split
  ·simp
  ·split
   ·simp
   ·simp only [yH]; omega
theorem qoD {l:List Int} {i:Nat} (h:i<l.length):insAll (l.take (i+1))=ins l[i] (insAll (l.take i)):=by
 rw [insAll,yF h,foldl_append]
 rfl
theorem qpX (l:List Int):(insAll l).length<=l.length:=by
 unfold insAll
 have:∀ (l a:List Int),(l.foldl (fun a n=>ins n a) a).length<=a.length+l.length:=by
  intro l
  induction l with
  | nil=>intro a; simp
  | cons x l ih=>
   intro a
   have h:=ih (ins x a)
   have u:=qpa x a
   rw [foldl_cons,yH]
   omega
 simpa using this l []
theorem qln (l:List Int):∀ a:List Int,a.Pairwise (· < ·)->(l.foldl (fun a n=>ins n a) a).Pairwise (· < ·):=by
 induction l with
 | nil=>intro a h; exact h
 | cons x l ih=>intro a h; exact ih _ (qcv h)
theorem qnD (l:List Int):∀ a:List Int,(a++l).Nodup->(l.foldl (fun a n=>ins n a) a).Perm (a++l):=by
 induction l with
 | nil=>intro a h; rw [xG]; exact .refl _
 | cons x l ih=>
  intro a h
  have A:x∉a:=fun C=>by
   rw [yL] at h
   exact h.2.2 x C x (by simp) rfl
  have E:=qcX A
  have u:(ins x a++l).Perm (a++x::l):=(E.append_right l).trans (perm_middle.symm)
  exact (ih (ins x a) (u.nodup_iff.2 h)).trans u
theorem qmy (l:List Int):(insAll l).Pairwise (· < ·):=qln l [] .nil
theorem qoz {l:List Int} (h:l.Nodup):(insAll l).Perm l:=by
 have:=qnD l [] (by simpa using h)
 simpa [insAll] using this
theorem qtc {l:List Int} (h:l.Pairwise (· < ·)):l.Pairwise (·<=·):=h.imp Int.le_of_lt
theorem qf4 {l:List Int} (h:l.Pairwise (· < ·)):l.Nodup:=h.imp (fun h=>Int.ne_of_lt h)
theorem qkT {l l':List Int} (h:l'.Perm l) (u:l'.Pairwise (·<=·)) (A:l.Nodup):l'=insAll l:=
 qft (h.trans (qoz A).symm) u (qtc (qmy l))
theorem qq9 {l:List Int} (h:l.Pairwise (· < ·)):insAll l=l:=(qkT (.refl _) (qtc h) (qf4 h)).symm
theorem qe1 {x y:Int}:∀ {l:List Int},y∈ins x l↔y=x\/y∈l
 | []=>by simp [ins]
 | a::l=>by
  have:=qe1 (x:=x) (y:=y) (l:=l)
  simp only [ins]
  split
  ·simp
  ·split
   ·rename_i h; subst h; simp
   ·simp only [zG,this]
    constructor
    ·rintro (h | h | h)
     ·exact .inr (.inl h)
     ·exact .inl h
     ·exact .inr (.inr h)
    ·rintro (h | h | h)
     ·exact .inr (.inl h)
     ·exact .inl h
     ·exact .inr (.inr h)
def andThen (r:DiskM×Int) (f:DiskM->DiskM×Int):DiskM×Int:=if r.2=0 then f r.1 else r
def writesM:List (Int×List Int)->DiskM->DiskM×Int
 | [],D=>(D,0)
 | x::r,D=>andThen (writeM D x.1 x.2) (writesM r)
def spreadM (D:DiskM) (numbers pages:List Int):DiskM×Int:=
 if (bodiesV numbers pages).2≠0 then (D,(bodiesV numbers pages).2)
 else andThen (writesM ((pages.zip (bodiesV numbers pages).1).map fun x=>(x.1,sealV x.1 2 x.2)) D) syncM
def superP (s:Sup):Int×List Int:=(Int.tmod s.1 2,sealV (IntKind.wrap .u32 (Int.tmod s.1 2)) 1 (superB s.1 s.2))
def sealM (D:DiskM) (s:Sup):DiskM×Int:=andThen (writeM D (superP s).1 (superP s).2) syncM
def allV (n:Nat):List Int:=(List.range (n-2)).map fun (i:Nat)=>(i:Int)+2
def fmtSup (n:Nat):Sup:=(1,[IntKind.wrap .u32 n,2,IntKind.wrap .u32 ((allV n).length-needP (allV n).length:Int)]++zs 24)
def formatM (D:DiskM):DiskM×Int:=
 andThen (writeM D 0 (zs 512)) fun D=>andThen (writeM D 1 (zs 512)) fun D=>andThen (syncM D) fun D=>
 andThen (spreadM D ((allV D.safe.length).drop (needP (allV D.safe.length).length)) ((allV D.safe.length).take (needP (allV D.safe.length).length))) fun D=>sealM D (fmtSup D.safe.length)
def walkM (D:DiskM) (u:Int):Nat->Int->List Int->List Int->Option (List Int×List Int)
 | 0,_,_,_=>none
 | f+1,a,h,A=>
  if a=0 then some (h,A) else
  if a<2\/a>=u\/a∈h then none else
  if (readV D a).2≠0 then none else
  if (openV a (readV D a).1).2.2≠0\/(openV a (readV D a).1).1≠2 then none else
  if (parseV (openV a (readV D a).1).2.1).2.2≠0 then none else
  walkM D u f (parseV (openV a (readV D a).1).2.1).1 (h++[a]) (A++(parseV (openV a (readV D a).1).2.1).2.1)
def namedB (h:Int) (u:List Int):Int->List Int->Bool
 | _,[]=>true
 | A,n::r=>!(decide (n<=A)||decide (n>=h)||decide (n∈u))&&namedB h u n r
def loadM (D:DiskM) (s:Sup):Option (List Int×List Int):=
 match walkM D (s.2.getD 0 0) ((s.2.getD 0 0).toNat+1) (s.2.getD 1 0) [] [] with
 | none=>none
 | some x=>if namedB (s.2.getD 0 0) x.1 0 x.2=true/\(x.2.length:Int)=s.2.getD 2 0 then some x else none
def begunM (sup:Sup) (h u:List Int) (turn:Int) (over:Bool) (A:List Int):PgM:=⟨sup,h,u,turn,over,A,[],[],sup.2.drop 3⟩
def openM (D:DiskM):Option PgM×Int:=
 if (readV D 0).2≠0 then (none,(readV D 0).2) else
 if (readV D 1).2≠0 then (none,(readV D 1).2) else
 if (newestV (readV D 0).1 (readV D 1).1).2≠0 then (none,(newestV (readV D 0).1 (readV D 1).1).2) else
 if (newestV (readV D 0).1 (readV D 1).1).1.2.getD 0 0≠D.safe.length then (none,2) else
 match loadM D (newestV (readV D 0).1 (readV D 1).1).1 with
 | none=>(none,2)
 | some x=>(some (begunM (newestV (readV D 0).1 (readV D 1).1).1 x.1 x.2 1 false x.2),0)
def beginTail (pb:Nat) (x y:Option Addr) (mb:Nat) (vs:List Value) (K:Unit->WP) (w:World):Prop:=
 runQ [Ty1.raw] (fun (w':Go.World)=>(Instr.build WKT (#[(0,Value.pointer x),(1,Value.pointer y),(2,Value.map (some mb)),(3,Value.agg (List.toArray vs))])).run Tryz.prog w') w<|
 fun (u:List Value)=>
 nn (pW pb)<|
 fun (C:Addr)=>
 chk (List.length u=27)<|
 st ({ block:=C.block,off:=C.off+33 }) u w<|
 fun (E:World)=>
 nn (pW pb)<|
 fun (G:Addr)=>
 ld Cell.slice ({ block:=G.block,off:=G.off+30 }) E<|
 fun (I:Sl)=>
 loop (Int) (fun (O:Int->WP) (A:Int) (h:World)=>
  cond (decide (A<(↑I.len:Int)))
   (idx I A 1<|
   fun (Q:Addr)=>
   ld (Cell.int IntKind.u32) Q h<|
   fun (R:Int)=>
   nn (pW pb)<|
   fun (J:Addr)=>
   ld Cell.ptr ({ block:=J.block,off:=J.off+33 }) h<|
   fun (U:Option Addr)=>
   cW 116 ([Value.pointer U,Value.int IntKind.u32 R]) ([Ty1.one Cell.bool]) h<|
   fun (aa:Bool) (V:World)=>
   O (IntKind.wrap IntKind.i64 (A+1)) V)
   (K () h)) 0 E
theorem qqq {w w3:World} {X:List Nat} {pb fb defb mb:Nat} {db:Option Addr} {sup:Sup} {sl sn:Sl} {turn:Int} {over:Bool} {wk:List Value} {C u:List Int} {F1 F2:List Nat} {K:Unit->WP}
  (V:sup.2.length=27) (hw:wk.length=27) (hX:∀ b∈X,b<w.heap.size/\b≠pb) (J:Rd (X++[pb]) w sl C) (G:Rd (X++[pb]) w sn u) (hn:u.length<=100000)
  (ho:Own [pb] w w3 [(pb,.cells (pgRaw db sup sl sn turn over wk) PGT (0,0))]) (h1:PoolAt w3 fb F1 []) (h2:PoolAt w3 defb F2 []) (h3:MapS u32V w3 mb [])
  (n1:∀ b∈F1,w.heap.size<=b) (n2:∀ b∈F2,w.heap.size<=b) (n3:w.heap.size<=mb) (aC:pb<w.heap.size) (ae:mb∉F1) (af:mb∉F2) (ag:∀ b∈F1,b∉F2)
  (hk:∀ F' w',PagerAt w' X pb db F' (begunM sup C u turn over (insAll u))->Fr [pb] w w'->(∀ b∈F',b=pb\/w.heap.size<=b)->K () w') :
  beginTail pb (pW fb) (pW defb) mb ((sup.2.drop 3).map (Value.int .u32)) K w3:=by
 have E:(sup.2.drop 3).length=24:=by rw [yB,V]
 unfold beginTail
 refine qbu (ts:=[Ty1.raw]) (workV (pW fb) (pW defb) (some mb) (sup.2.drop 3)) (qpK E w3) ?_
 refine qae ?_
 refine qbg (qdi E) ?_
 have aa:(workV (pW fb) (pW defb) (some mb) (sup.2.drop 3)).all Value.oneCell'=true:=by
  rw [all_eq_true]
  intro v hv
  simp only [workV,zD,zG,mem_map,xX,or_false] at hv
  rcases hv with (rfl | rfl | rfl) | ⟨x,_,rfl⟩ <;> rfl
 refine Own.st' ho 0 rfl (pgCells db sup sl sn turn over fb defb mb (sup.2.drop 3)) (by rw [<- qoG]; exact qsy V (by rw [hw,qdi E])) aa (by rw [qf8 V,qdi E,hw]; exact zO rfl) fun w4 O f4=>?_
 have R:∀ b∈F1,b≠pb:=fun b A e=>by have:=n1 b A; omega
 have U:∀ b∈F2,b≠pb:=fun b A e=>by have:=n2 b A; omega
 have hS:∀ b∈pb::mb::(F1++F2),b∈[pb]\/w.heap.size<=b:=fun b A=>by
  simp only [zG,zD] at A
  rcases A with rfl | rfl | A | A
  ·exact .inl (by simp)
  ·exact .inr n3
  ·exact .inr (n1 b A)
  ·exact .inr (n2 b A)
 have hx:PgX w4 X pb db (begunM sup C u turn over []) fb defb mb sl sn F1 F2 []:={
  cell:=O.at (i:=0) rfl
  free:=h1.frame f4 fun b A=>by simpa using R b A
  deferred:=h2.frame f4 fun b A=>by simpa using U b A
  map:=h3.frame f4 (by simp; omega)
  fresh:=rfl
  rows:=by
   have hf:Fr (X++[pb]) w w4:=O.fr.mono fun b A _=>zI _ A
   exact ⟨J.frame hf (qkY hS),G.frame hf (qkY hS),fun e he=>by cases he⟩
  xlt:=fun b A=>yC (hX b A).1 O.fr.size
  xsep:=qr2 (fun b A=>(hX b A).1) (fun b A=>by simpa using (hX b A).2) hS
  sep:=⟨by omega,fun b A=>⟨R b A,fun e=>ae (e▸A),ag b A⟩,fun b A=>⟨U b A,fun e=>af (e▸A)⟩⟩
  suplen:=V
  rootlen:=E }
 refine qae (qaj hx.cell sn (qsS V) ?_)
 have aF:=G.1
 refine qak (fun x w'=>∃ (i:Nat) (Q:List Nat),x=i/\i<=u.length/\PgX w' X pb db (begunM sup C u turn over (insAll (u.take i))) fb defb mb sl sn Q F2 []/\Fr [pb] w w'/\∀ b∈Q,w.heap.size<=b) (fun x _=>((u.length:Int)-x).toNat)
  ⟨0,F1,rfl,by omega,hx,O.fr,n1⟩ ?_
 rintro x w5 ⟨i,Q,rfl,hi,I,f5,n5⟩ Z hZ
 refine qaa (fun hc=>?_) (fun hc=>?_)
 ·have ab:i<u.length:=by have:=zC hc; omega
  refine Rd.at I.rows.named i rfl (zA ab) ?_
  refine qae (qaj I.cell (pW fb) (qfE V) ?_)
  have am:=qpX (u.take i)
  rw [yK] at am
  refine qm6 I.free (by show (insAll (u.take i)).length<=_; omega) fun ac w6 an f6 n6=>?_
  have ao:=I.setFree f6 an n6
  rw [wi' _ (by omega)]
  refine hZ _ _ ⟨i+1,ac,by simp,by omega,?_,f5.trans' f6 (fun b A=>.inr (n5 b A)),fun b A=>?_⟩ (by omega)
  ·rw [qoD ab]; exact ao
  ·rcases n6 b A with h | h
   ·exact n5 b h
   ·exact zL f5.size h
 ·have:i=u.length:=by have:=zB hc; omega
  subst this
  rw [xZ] at I
  refine hk _ w5 ⟨fb,defb,mb,sl,sn,Q,F2,[],rfl,I⟩ f5 fun b A=>?_
  simp only [zG,zD] at A
  rcases A with rfl | rfl | A | A
  ·exact .inl rfl
  ·exact .inr n3
  ·exact .inr (n5 b A)
  ·exact .inr (n2 b A)
theorem qqH {w:World} {X:List Nat} {pb:Nat} {db:Option Addr} {sup:Sup} {sl sn:Sl} {turn:Int} {over:Bool} {wk:List Value} {lists named:List Int} {K:Unit->WP}
  (hc:w.heap[pb]?=some (.cells (pgRaw db sup sl sn turn over wk) PGT (0,0))) (hs:sup.2.length=27) (hw:wk.length=27) (ht:0<=turn/\turn<=1000000000) (hX:∀ b∈X,b<w.heap.size/\b≠pb) (hlists:Rd (X++[pb]) w sl lists) (hnamed:Rd (X++[pb]) w sn named) (hn:named.length<=100000)
  (hk:∀ F' w',PagerAt w' X pb db F' (begunM sup lists named (turn+1) over (insAll named))->Fr [pb] w w'->(∀ b∈F',b=pb\/w.heap.size<=b)->K () w') :
  cW 81 [.pointer (pW pb)] [] w K:=by
 have hpb:=qab hc
 have ho:Own [pb] w w [(pb,.cells (pgRaw db sup sl sn turn over wk) PGT (0,0))]:=⟨by simpa using hc,by simp,.refl _ _,by simp⟩
 refine qgq (p:=pW pb) ?_
 unfold qdj
 refine qae (Own.ld (c:=.i) ho 0 rfl turn (qde hs 2 (by decide)) ?_)
 rw [wi' _ (by omega)]
 refine qae (Own.st' ho 0 rfl (pgRaw db sup sl sn (turn+1) over wk) (qr4 hs) rfl (by rw [qf8 hs,hw]; exact zO rfl) fun w1 ho f1=>?_)
 have hrl:((sup.2.drop 3).map (Value.int .u32)).length=24:=by rw [zK,yB,hs]
 have hcA:∀ {w':World},w'.heap[pb]?=some (.cells (pgRaw db sup sl sn (turn+1) over wk) PGT (0,0))->cellsAt w' ⟨pb,5,none⟩ 0 ((sup.2.drop 3).map (Value.int .u32)):=fun h=>qbp h _ 5 0 (by rw [hrl]; exact qlU hs)
 have tail:=fun {w3:World} {fb defb mb:Nat} {F1 F2:List Nat}=>qqq (w:=w) (w3:=w3) (X:=X) (pb:=pb) (fb:=fb) (defb:=defb) (mb:=mb) (F1:=F1) (F2:=F2) hs hw hX hlists hnamed hn (K:=K) (turn:=turn+1) (over:=over) (wk:=wk) (db:=db)
 have hs1:=f1.size
 have ho':=ho.drew
 generalize w1.drew=wd at ho'
 have hld:∀ {K':List Value->Prop},K' ((sup.2.drop 3).map (Value.int .u32))->ldV 24 ⟨pb,5,none⟩ wd K':=fun k=>qcf (ho'.at (i:=0) rfl) _ hrl (qlU hs) k
 have hsd:w.heap.size<=wd.heap.size:=ho'.fr.size
 have fin:∀ {w3:World} {fb defb mb:Nat} {F1 F2:List Nat},Fr [] wd w3->PoolAt w3 fb F1 []->PoolAt w3 defb F2 []->MapS u32V w3 mb []->(∀ b∈F1,wd.heap.size<=b)->(∀ b∈F2,wd.heap.size<=b)->wd.heap.size<=mb->mb∉F1->mb∉F2->(∀ b∈F1,b∉F2)->
   beginTail pb (pW fb) (pW defb) mb ((sup.2.drop 3).map (Value.int .u32)) K w3:=fun f p1 p2 p3 n1 n2 n3 s1 s2 s3=>
  tail (ho'.frame0 f) p1 p2 p3 (fun b hb=>zL hsd (n1 b hb)) (fun b hb=>zL hsd (n2 b hb)) (zL hsd n3) hpb s1 s2 s3 hk
 refine ⟨?_,?_,?_⟩
 ·refine qae ?_
  simp only [Addr.add_mk]
  refine hld ?_
  refine qfx fun fb F1 w2 p1 f2 n1=>?_
  refine qah (hcA ((ho'.frame0 f2).at (i:=0) rfl)) ?_
  refine qfx fun defb F2 w3 p2 f3 n2=>?_
  refine qah (hcA ((ho'.frame0 (f2.trans f3)).at (i:=0) rfl)) ?_
  refine Own.new' (ho'.frame0 (f2.trans f3)) fun mb w4 e4 f4 ho4=>?_
  refine qah (hcA (ho4.at (i:=1) rfl)) ?_
  refine fin ((f2.trans f3).trans f4) (p1.frame (f3.trans f4) (by simp)) (p2.frame f4 (by simp)) (.empty (ho4.at (i:=0) rfl)) n1 (fun b hb=>zL f2.size (n2 b hb)) (by rw [e4]; exact (f2.trans f3).size) (fun hm=>?_) (fun hm=>?_) (fun b hb hb2=>?_)
  ·have:=(p1.frame f3 (by simp)).lt mb hm; omega
  ·have:=p2.lt mb hm; omega
  ·have:=p1.lt b hb; have:=n2 b hb2; omega
 ·refine qae ?_
  simp only [Addr.add_mk]
  refine hld ?_
  refine qfx fun fb F1 w2 p1 f2 n1=>?_
  refine qah (hcA ((ho'.frame0 f2).at (i:=0) rfl)) ?_
  refine Own.new' (ho'.frame0 f2) fun mb w3 e3 f3 ho3=>?_
  refine qah (hcA (ho3.at (i:=1) rfl)) ?_
  refine qfx fun defb F2 w4 p2 f4 n2=>?_
  have ho4:=ho3.frame0 f4
  refine qah (hcA (ho4.at (i:=1) rfl)) ?_
  have hmb:=qab (ho3.at (i:=0) rfl)
  refine fin ((f2.trans f3).trans f4) (p1.frame (f3.trans f4) (by simp)) p2 (.empty (ho4.at (i:=0) rfl)) n1 (fun b hb=>zL (f2.trans f3).size (n2 b hb)) (by rw [e3]; exact f2.size) (fun hm=>?_) (fun hm=>?_) (fun b hb hb2=>?_)
  ·have:=p1.lt mb hm; omega
  ·have:=n2 mb hm; omega
  ·have:=(p1.frame f3 (by simp)).lt b hb; have:=n2 b hb2; omega
 ·refine qae ?_
  simp only [Addr.add_mk]
  refine hld ?_
  refine Own.new' ho' fun mb w2 e2 f2 ho2=>?_
  refine qah (hcA (ho2.at (i:=1) rfl)) ?_
  have hmb:=qab (ho2.at (i:=0) rfl)
  refine qfx fun fb F1 w3 p1 f3 n1=>?_
  have ho3:=ho2.frame0 f3
  refine qah (hcA (ho3.at (i:=1) rfl)) ?_
  refine qfx fun defb F2 w4 p2 f4 n2=>?_
  have ho4:=ho3.frame0 f4
  refine qah (hcA (ho4.at (i:=1) rfl)) ?_
  refine fin ((f2.trans f3).trans f4) (p1.frame f4 (by simp)) p2 (.empty (ho4.at (i:=0) rfl)) (fun b hb=>zL f2.size (n1 b hb)) (fun b hb=>zL (f2.trans f3).size (n2 b hb)) (by rw [e2]; exact zM _) (fun hm=>?_) (fun hm=>?_) (fun b hb hb2=>?_)
  ·have:=n1 mb hm; omega
  ·have:=n2 mb hm; have:=f3.size; omega
  ·have:=p1.lt b hb; have:=n2 b hb2; omega
abbrev U32 (n:Int):Prop:=0<=n/\n<4294967296
theorem qeC {n:Int} (h:U32 n) (r:List Int):first4 (be n 4++r)=n:=by
 rw [be4 h.1]
 exact qs5 h
theorem qlE:∀ (c:List Int) (i:Nat),(c.flatMap (be · 4)).drop (4*i)=(c.drop i).flatMap (be · 4)
 | [],i=>by simp
 | a::c,0=>by simp
 | a::c,i+1=>by
  rw [yG,drop_succ_cons,<- qlE c i,drop_append,qaq,vE (by rw [qaq]; omega),xH]
  congr 1
theorem qs6 (c:List Int):(c.flatMap (be · 4)).length=4*c.length:=by
 induction c with
 | nil=>rfl
 | cons a c ih=>rw [yG,zF,qaq,ih,yH]; omega
theorem qiW {c:List Int} {i:Nat} (h:i<c.length) (u:∀ x∈c,U32 x):first4 ((c.flatMap (be · 4)).drop (4*i))=c[i]:=by
 rw [qlE,zX h,yG]
 exact qeC (u _ (zW h)) _
theorem qew (next:Int) (c:List Int):(bodyV next c).length=6+4*c.length:=by
 rw [bodyV,zF,zF,qaq,qs6]
 rfl
theorem qn0 (c:List Int):IsB (c.flatMap (be · 4)):=by
 induction c with
 | nil=>exact fun x h=>by cases h
 | cons a c ih=>rw [yG]; exact (qbt _ _).append ih
theorem qo6 (x:Int):0<=IntKind.wrap .u8 x/\IntKind.wrap .u8 x<256:=by rw [wu8]; omega
theorem qmo (next:Int) (c:List Int):IsB (bodyV next c):=by
 refine ((qbt _ _).append fun x h=>?_).append (qn0 c)
 simp only [zG,xX,or_false] at h
 rcases h with rfl | rfl <;> exact qo6 _
theorem qmT {next:Int} {c:List Int} (A:U32 next) (G:next≠1) (I:∀ x∈c,U32 x) (J:risesB 1 c=true) (V:c.length<=123):parseV (bodyV next c)=(next,c,0):=by
 have C:=qew next c
 have e:bodyV next c=be next 4++([IntKind.wrap .u8 (Int.fdiv c.length (2^8)),IntKind.wrap .u8 c.length]++c.flatMap (be · 4)):=by rw [bodyV,zV]
 have E:first4 (bodyV next c)=next:=by rw [e]; exact qeC A _
 have h:cntV (bodyV next c)=c.length:=by
  have K:(bodyV next c).getD 4 0=IntKind.wrap .u8 (Int.fdiv c.length (2^8)):=by rw [e,be4 A.1]; rfl
  have O:(bodyV next c).getD 5 0=IntKind.wrap .u8 c.length:=by rw [e,be4 A.1]; rfl
  have Q:Int.fdiv (c.length:Int) (2^8)=0:=by rw [Int.fdiv_eq_ediv_of_nonneg _ (by decide)]; omega
  rw [cntV,K,O,wu8,wu8,Q]
  omega
 have u:numsV (bodyV next c) c.length=c:=by
  apply ext_getElem
  ·simp [numsV]
  intro i G R
  have:(bodyV next c).drop (6+4*i)=(c.flatMap (be · 4)).drop (4*i):=by
   have U:(bodyV next c).drop 6=c.flatMap (be · 4):=by rw [e,be4 A.1]; rfl
   rw [<- U,xC]
  simp only [numsV,getElem_map,getElem_range,this]
  exact qiW R I
 rw [parseV,if_neg (by omega),if_neg (by rw [E,h]; omega),h,zJ,u,if_pos J,E]
theorem qpv (x:Int) (h:0<=x/\x<18446744073709551616):IntKind.wrap .u64 x=x:=by
 unfold IntKind.wrap
 have:(IntKind.u64.signed)=false:=rfl
 simp only [this,Bool.false_and,Bool.false_eq_true,if_false]
 exact Int.emod_eq_of_lt h.1 h.2
theorem qro {A B:Int} (k:Nat) (G:0<=A) (C:A%2^k=0) (I:0<=B) (h:B<2^k) (J:A+B<18446744073709551616):bits .or .u64 A B=A+B:=by
 obtain ⟨a,rfl⟩:∃ a:Nat,A=a:=⟨A.toNat,by omega⟩
 obtain ⟨b,rfl⟩:∃ b:Nat,B=b:=⟨B.toNat,by omega⟩
 have E:a%2^k=0:=by
  have:((a:Int)%((2^k:Nat):Int))=0:=by rw [Int.natCast_pow]; exact C
  omega
 have u:b<2^k:=by
  have:(b:Int)<((2^k:Nat):Int):=by rw [Int.natCast_pow]; exact h
  omega
 obtain ⟨q,rfl⟩:∃ q,a=2^k*q:=⟨a / 2^k,by have:=Nat.div_add_mod a (2^k); omega⟩
 show IntKind.wrap .u64 ((BitVec.ofInt 64 ((2^k*q:Nat):Int)||| BitVec.ofInt 64 (b:Int)).toNat:Nat)=_
 rw [BitVec.toNat_or,BitVec.ofInt_natCast,BitVec.ofInt_natCast,BitVec.toNat_ofNat,BitVec.toNat_ofNat,Nat.mod_eq_of_lt (show 2^k*q<2^64 by omega),Nat.mod_eq_of_lt (show b<2^64 by omega),<- Nat.two_pow_add_eq_or_of_lt u]
 rw [qpv _ (by omega)]
 omega
abbrev U64 (n:Int):Prop:=0<=n/\n<18446744073709551616
theorem qcC {q:Int} {t:List Int}:superB q t=be (IntKind.wrap .u32 (Int.fdiv q (2^32))) 4++(be (IntKind.wrap .u32 q) 4++t.flatMap (be · 4)):=by rw [superB,zV]
theorem qgA {q:Int} {t:List Int} (G:U64 q):parseQ (superB q t)=q:=by
 have h:Int.fdiv q (2^32)=q / 4294967296:=by rw [Int.fdiv_eq_ediv_of_nonneg _ (by decide)]; rfl
 have u:first4 (superB q t)=q / 4294967296:=by
  rw [qcC,h,qa3 _ (by omega)]
  exact qeC (by constructor <;> omega) _
 have A:(superB q t).drop 4=be (IntKind.wrap .u32 q) 4++t.flatMap (be · 4):=by
  rw [qcC,drop_append,qaq,vE (by rw [qaq]; exact zM _)]; rfl
 have C:IntKind.wrap .u32 q=q%4294967296:=by
  unfold IntKind.wrap
  have:(IntKind.u32.signed)=false:=rfl
  simp only [this,Bool.false_and,Bool.false_eq_true,if_false]
  rfl
 have E:first4 ((superB q t).drop 4)=q%4294967296:=by
  rw [A,C]
  exact qeC (by constructor <;> omega) _
 rw [parseQ,u,E,qpv (q / 4294967296) (by omega),qpv (q%4294967296) (by omega),qpv (q / 4294967296*2^32) (by omega)]
 rw [qro 32 (by omega) (by omega) (by omega) (by omega) (by omega)]
 omega
theorem qpO (q:Int) (t:List Int):IsB (superB q t):=by
 rw [qcC]
 exact (qbt _ _).append ((qbt _ _).append (qn0 t))
theorem qmB {q:Int} {t:List Int} (h:t.length=27) (u:∀ x∈t,U32 x):parseT (superB q t)=t:=by
 apply ext_getElem
 ·rw [qaN,h]
 intro i E A
 have C:(superB q t).drop 8=t.flatMap (be · 4):=by
  rw [qcC,<- zV,drop_append,zF,qaq,qaq,vE (by rw [zF,qaq,qaq]; exact zM _)]; rfl
 have:(superB q t).drop (8+4*i)=(t.flatMap (be · 4)).drop (4*i):=by rw [<- C,xC]
 simp only [parseT,getElem_map,getElem_range,this]
 exact qiW A u
theorem qn9 {q place:Int} {t:List Int} (h:U64 q) (u:t.length=27) (E:∀ x∈t,U32 x) (C:Int.tmod q 2=place):readSV place (sealV place 1 (superB q t))=((q,t),0):=by
 have A:U32 place:=by rw [<- C,Int.tmod_eq_emod_of_nonneg h.1]; constructor <;> omega
 have G:=qjf (kind:=1) (body:=superB q t) A (by rw [qbW u]; decide)
 rw [readSV,G,if_neg (by simp),if_neg (by simp [qbW u]),if_neg (by rw [qgA h,C]; simp),qgA h,qmB u E]
def view (D:DiskM) (n:Int):List Int:=match lastW n D.waits with | some b=>b.1 | none=>(D.safe.getD n.toNat .zero).1
def DiskM.size (D:DiskM):Int:=D.safe.length
theorem qf6 {D:DiskM} {n:Int} (h:D.down=false) (u:0<=n/\n<D.size):readV D n=(view D n,0):=by
 have A:n<(D.safe.length:Int):=u.2
 rw [readV,if_neg (by rw [h]; decide),if_neg (by omega),view]
 cases lastW n D.waits <;> rfl
theorem qhQ (n:Int):∀ (l:List (Int×Blk)) (x:Int×Blk),lastW n (l++[x])=if x.1=n then some x.2 else lastW n l
 | [],x=>rfl
 | y::l,x=>by
  simp only [xI,lastW]
  rw [qhQ n l x]
  by_cases h:x.1=n
  ·simp [h]
  ·simp [h]
theorem qnH (n:Nat):∀ (l:List (Int×Blk)) (s:List Blk),(∀ x∈l,0<=x.1/\x.1<s.length)->(l.foldl laySafe s).getD n .zero=match lastW n l with | some b=>b | none=>s.getD n .zero
 | [],s,_=>rfl
 | x::l,s,h=>by
  have A:=h x (by simp)
  rw [foldl_cons,qnH n l (laySafe s x) (fun y u=>by rw [laySafe,xF]; exact h y (zN _ u)),lastW]
  cases lastW (n:Int) l with
  | some b=>rfl
  | none=>
   dsimp only
   by_cases he:x.1=n
   ·rw [if_pos he,laySafe,yQ]
    have:x.1.toNat=n:=by omega
    rw [this,List.getElem?_set_self (by omega)]
    rfl
   ·rw [if_neg he,laySafe,yQ,List.getElem?_set_ne (by omega),yQ]
structure Quiet (D:DiskM):Prop where
 down:D.down=false
 fuse:D.fuse=-1
 at_:∀ x∈D.waits,0<=x.1/\x.1<D.safe.length
theorem Quiet.act {D:DiskM} (h:Quiet D):actM D=(D,false):=by rw [actM,if_neg (by rw [h.fuse]; decide),if_neg (by rw [h.fuse]; decide)]
theorem Quiet.write {D:DiskM} (h:Quiet D) {n:Int} {l:List Int} (E:0<=n/\n<D.size) (C:l.length=512) :
  ∃ A,writeM D n l=(A,0)/\Quiet A/\A.size=D.size/\∀ m,view A m=if m=n then l else view D m:=by
 have I:n<(D.safe.length:Int):=E.2
 have G:Quiet (addW D n ⟨l,C⟩):=⟨h.down,h.fuse,fun x u=>by
  rcases zD.1 u with u | u
  ·exact h.at_ x u
  ·simp at u; subst u; exact ⟨E.1,I⟩⟩
 refine ⟨addW D n ⟨l,C⟩,?_,G,rfl,fun m=>?_⟩
 ·rw [writeM,if_neg (by rw [h.down]; decide),if_neg (by omega),dif_pos C,G.act]
  rfl
 ·rw [view,addW]
  dsimp only
  rw [qhQ]
  by_cases hm:m=n
  ·rw [if_pos hm,if_pos hm.symm]
  ·rw [if_neg hm,if_neg (fun e=>hm e.symm),view]
theorem Quiet.sync {D:DiskM} (h:Quiet D):∃ u,syncM D=(u,0)/\Quiet u/\u.size=D.size/\u.waits=[]/\∀ m,0<=m->view u m=view D m:=by
 refine ⟨{ D with safe:=D.waits.foldl laySafe D.safe,waits:=[] },?_,⟨h.down,h.fuse,fun x A=>by cases A⟩,?_,rfl,fun m C=>?_⟩
 ·rw [syncM,if_neg (by rw [h.down]; decide),h.act]
  rfl
 ·show ((D.waits.foldl laySafe D.safe).length:Int)=_
  rw [qb0]; rfl
 ·obtain ⟨k,rfl⟩:∃ k:Nat,m=k:=⟨m.toNat,by omega⟩
  show ((D.waits.foldl laySafe D.safe).getD (k:Int).toNat .zero).1=_
  rw [zJ,qnH k _ _ h.at_,view,zJ]
  cases lastW (k:Int) D.waits <;> rfl
theorem Quiet.writes:∀ {l:List (Int×List Int)} {D:DiskM},Quiet D->(∀ x∈l,(0<=x.1/\x.1<D.size)/\x.2.length=512)->(l.map (·.1)).Nodup->
  ∃ A,writesM l D=(A,0)/\Quiet A/\A.size=D.size/\(∀ x∈l,view A x.1=x.2)/\∀ m,m∉l.map (·.1)->view A m=view D m
 | [],D,h,_,_=>⟨D,rfl,h,rfl,(fun x u=>by cases u),fun m _=>rfl⟩
 | y::l,D,h,I,C=>by
  obtain ⟨Q,E⟩:=I y (by simp)
  obtain ⟨D1,e1,R,J,K⟩:=h.write Q E
  rw [xN,nodup_cons] at C
  obtain ⟨U,V,q2,s2,v2,O⟩:=Quiet.writes (l:=l) R (fun x u=>by rw [J]; exact I x (zN _ u)) C.2
  refine ⟨U,?_,q2,s2.trans J,fun x u=>?_,fun m G=>?_⟩
  ·rw [writesM,e1]; exact V
  ·rcases zG.1 u with rfl | u
   ·rw [O _ C.1,K,if_pos rfl]
   ·exact v2 x u
  ·rw [xN,zG,not_or] at G
   rw [O m G.2,K,if_neg G.1]
def chunk (numbers:List Int) (i:Nat):List Int:=(numbers.drop (123*i)).take 123
def Listed (D:DiskM) (numbers pages:List Int):Prop:=∀ (i:Nat) p,pages[i]?=some p->view D p=sealV p 2 (bodyV (pages.getD (i+1) 0) (chunk numbers i))
theorem qkl (numbers pages:List Int) (k i:Nat):(bodiesL numbers pages k)[i]?=if i<k then some (bodyV (pages.getD (i+1) 0) (chunk numbers i)) else none:=by
 rw [bodiesL,zQ]
 by_cases h:i<k
 ·rw [if_pos h,List.getElem?_range h]; rfl
 ·rw [if_neg h,yR (by simpa using h)]; rfl
theorem qiR (numbers pages:List Int) (k:Nat):(bodiesL numbers pages k).length=k:=by simp [bodiesL]
theorem qg6 (numbers:List Int) (i:Nat):(chunk numbers i).length<=123:=by rw [chunk,yK]; omega
structure ListOk (n:Int) (numbers pages:List Int):Prop where
 rises:numbers.Pairwise (· < ·)
 nums:∀ x∈numbers,2<=x/\x<n
 pgs:∀ x∈pages,2<=x/\x<n
 nodup:pages.Nodup
 apart:∀ x∈pages,x∉numbers
 room:numbers.length<=123*pages.length
theorem qfW:∀ (l:List Int) (a:Int),risesB a l=true↔(∀ x∈l,a<x)/\l.Pairwise (· < ·)
 | [],a=>by simp [risesB]
 | x::l,a=>by
  rw [risesB,yA,yM,qfW l x,yI]
  constructor
  ·rintro ⟨h,u,A⟩
   refine ⟨fun y C=>?_,u,A⟩
   rcases zG.1 C with rfl | C
   ·exact h
   ·exact Int.lt_trans h (u y C)
  ·rintro ⟨h,u,A⟩
   exact ⟨h x (by simp),u,A⟩
theorem ListOk.bodies {n:Int} {numbers pages:List Int} (h:ListOk n numbers pages):bodiesV numbers pages=(bodiesL numbers pages pages.length,0):=by
 have u:risesB 1 numbers=true:=(qfW _ _).2 ⟨fun x A=>by have:=h.nums x A; omega,h.rises⟩
 rw [bodiesV,if_neg (by rw [u]; have:=h.room; simp; omega),if_neg]
 rintro ⟨p,C,E⟩
 have:=h.pgs p C
 omega
theorem qi9 {α β:Type} {x:α×β}:∀ {l:List α} {r:List β},x∈l.zip r->∃ i:Nat,l[i]?=some x.1/\r[i]?=some x.2
 | [],_,h=>by simp at h
 | _::_,[],h=>by simp at h
 | a::l,b::r,h=>by
  rw [zip_cons_cons,zG] at h
  rcases h with rfl | h
  ·exact ⟨0,rfl,rfl⟩
  ·obtain ⟨i,u,A⟩:=qi9 h
   exact ⟨i+1,by simpa using u,by simpa using A⟩
theorem qpk {α β:Type}:∀ {l:List α} {r:List β},l.length=r.length->(l.zip r).map (·.1)=l
 | [],[],_=>rfl
 | a::l,b::r,h=>by rw [zip_cons_cons,xN,qpk (by simpa using h)]
theorem Quiet.spread {D:DiskM} {numbers pages:List Int} (h:Quiet D) (G:ListOk D.size numbers pages) :
  ∃ A,spreadM D numbers pages=(A,0)/\Quiet A/\A.size=D.size/\A.waits=[]/\Listed A numbers pages/\∀ m,0<=m->m∉pages->view A m=view D m:=by
 have K:((pages.zip (bodiesL numbers pages pages.length)).map fun x=>(x.1,sealV x.1 2 x.2)).map (·.1)=pages:=by
  rw [map_map]
  exact qpk (by rw [qiR])
 obtain ⟨D1,e1,R,U,V,O⟩:=h.writes (l:=(pages.zip (bodiesL numbers pages pages.length)).map fun x=>(x.1,sealV x.1 2 x.2)) (fun x hx=>by
  obtain ⟨y,hy,rfl⟩:=mem_map.1 hx
  obtain ⟨i,h1,u⟩:=qi9 hy
  rw [qkl] at u
  have C:=G.pgs _ (yE h1)
  refine ⟨⟨by show 0<=y.1; omega,C.2⟩,qdb ?_⟩
  by_cases I:i<pages.length
  ·rw [if_pos I] at u
   have u:=yN u
   rw [<- u,qew]
   have:=qg6 numbers i
   omega
  ·rw [if_neg I] at u; cases u) (by rw [K]; exact G.nodup)
 rw [K] at O
 obtain ⟨D2,e2,q2,s2,w2,Q⟩:=R.sync
 refine ⟨D2,?_,q2,s2.trans U,w2,fun i p C=>?_,fun m hm J=>by rw [Q m hm,O m J]⟩
 ·rw [spreadM,G.bodies,if_neg (by simp)]
  show andThen _ _=_
  rw [e1]
  exact e2
 ·have I:=(zP.1 C).1
  have E:(p,sealV p 2 (bodyV (pages.getD (i+1) 0) (chunk numbers i)))∈(pages.zip (bodiesL numbers pages pages.length)).map fun x=>(x.1,sealV x.1 2 x.2):=by
   refine mem_map.2 ⟨(p,bodyV (pages.getD (i+1) 0) (chunk numbers i)),?_,rfl⟩
   refine yE (i:=i) ?_
   rw [List.getElem?_zip_eq_some]
   exact ⟨C,by rw [qkl,if_pos I]⟩
  have aj:=G.pgs _ (yE C)
  rw [Q p (by omega)]
  exact V _ E
theorem qiZ (numbers:List Int):∀ k,(List.range k).flatMap (chunk numbers)=numbers.take (123*k)
 | 0=>by simp
 | k+1=>by
  rw [range_succ,yP,qiZ numbers k,flatMap_singleton,chunk,Nat.mul_succ,<- xD (123*k) (numbers.take (123*k+123))]
  congr 1
  ·rw [take_take,xQ (by omega)]
  ·rw [drop_take,vD]
theorem qpf {D:DiskM} {numbers pages:List Int} {n:Int} (U:D.down=false) (V:D.size=n) (hn:n<=4096) (G:ListOk n numbers pages) (hl:Listed D numbers pages) :
  ∀ (k i f:Nat),i+k=pages.length->k<f->walkM D n f (pages.getD i 0) (pages.take i) ((List.range i).flatMap (chunk numbers))=some (pages,numbers)
 | 0,i,f+1,hi,hf=>by
  have:pages.getD i 0=0:=by rw [yQ,yR (by omega)]; rfl
  have hr:=G.room
  have Q:i=pages.length:=by omega
  subst Q
  rw [this,walkM,if_pos rfl,qiZ,xZ,zS hr]
 | k+1,i,f+1,hi,hf=>by
  have u:i<pages.length:=by omega
  have hp:pages.getD i 0=pages[i]:=by rw [yQ,zA u]; rfl
  have hr:=G.pgs _ (zW u)
  have J:pages[i]∉pages.take i:=fun hm=>by
   obtain ⟨j,hj,he⟩:=getElem_of_mem hm
   rw [getElem_take] at he
   rw [yK] at hj
   have:=pairwise_iff_getElem.1 G.nodup j i (by omega) u (by omega)
   exact this he
  have hv:=hl i _ (zA u)
  have A:=qf6 U (n:=pages[i]) (by rw [V]; omega)
  rw [hv] at A
  have R:=qg6 numbers i
  have I:=qjf (number:=pages[i]) (kind:=2) (body:=bodyV (pages.getD (i+1) 0) (chunk numbers i)) (by omega) (by rw [qew]; omega)
  have K:∀ x∈chunk numbers i,x∈numbers:=fun x O=>yT (yU O)
  have C:U32 (pages.getD (i+1) 0)/\pages.getD (i+1) 0≠1:=by
   rw [yQ]
   cases h:pages[i+1]? with
   | none=>exact ⟨⟨by decide,by decide⟩,by decide⟩
   | some p=>
    have:=G.pgs p (yE h)
    constructor
    ·constructor <;> (simp; omega)
    ·simp; omega
  have E:=qmT C.1 C.2 (c:=chunk numbers i) (fun x O=>by have:=G.nums x (K x O); constructor <;> omega)
   ((qfW _ _).2 ⟨fun x O=>by have:=G.nums x (K x O); omega,G.rises.sublist ((take_sublist _ _).trans (drop_sublist _ _))⟩) R
  rw [hp,walkM,if_neg (by omega),if_neg (by intro h; rcases h with h | h | h; omega; omega; exact J h),A,I,if_neg (by simp),if_neg (by simp),E,if_neg (by simp)]
  have:=qpf U V hn G hl k (i+1) f (by omega) (by omega)
  rw [yF u,range_succ,yP,flatMap_singleton] at this
  exact this
theorem qf5 (n:Int) (h:List Int):∀ (l:List Int) (a:Int),namedB n h a l=true↔(∀ x∈l,a<x/\x<n/\x∉h)/\l.Pairwise (· < ·)
 | [],a=>by simp [namedB]
 | x::l,a=>by
  rw [namedB,yA,qf5 n h l x,yI]
  simp only [zT,Bool.or_eq_false_iff,decide_eq_false_iff_not,Int.not_le,Int.not_lt,ge_iff_le]
  constructor
  ·rintro ⟨⟨⟨A,C⟩,E⟩,G,I⟩
   refine ⟨fun y u=>?_,fun y u=>(G y u).1,I⟩
   rcases zG.1 u with rfl | u
   ·exact ⟨A,C,E⟩
   ·have:=G y u; exact ⟨by omega,this.2⟩
  ·rintro ⟨A,C,E⟩
   have:=A x (by simp)
   exact ⟨⟨⟨this.1,this.2.1⟩,this.2.2⟩,fun y u=>⟨C y u,(A y (zN _ u)).2⟩,E⟩
theorem qhE:∀ (n:Nat) (l:List Nat),l.Nodup->(∀ x∈l,x<n)->l.length<=n
 | 0,l,_,h=>by cases l with
  | nil=>simp
  | cons a l=>exact absurd (h a (by simp)) (by omega)
 | n+1,l,A,h=>by
  by_cases hm:n∈l
  ·have E:=qhE n (l.erase n) (A.erase n) (fun x u=>by
    have C:=(A.mem_erase_iff).1 u
    have:=h x C.2
    have:=C.1
    omega)
   have:=length_erase_of_mem hm
   have:=length_pos_of_mem hm
   omega
  ·have:=qhE n l A (fun x u=>by
    have:=h x u
    have:x≠n:=fun e=>hm (e▸u)
    omega)
   omega
theorem qdK {l:List Int} {n:Int} (C:l.Nodup) (h:∀ x∈l,2<=x/\x<n):(l.length:Int)<=n-2\/l=[]:=by
 by_cases h0:l=[]
 ·exact .inr h0
 ·left
  obtain ⟨a,E⟩:=exists_mem_of_ne_nil l h0
  have I:=h a E
  have:=qhE (n-2).toNat (l.map fun x=>(x-2).toNat) (by
   refine pairwise_map.2 (C.imp_of_mem fun {x y} u A G=>?_)
   have:=h x u
   have:=h y A
   omega) (fun x u=>by
   obtain ⟨y,A,rfl⟩:=mem_map.1 u
   have:=h y A
   omega)
  rw [zK] at this
  omega
structure Opens (D:DiskM) (s:Sup) (pages numbers:List Int):Prop where
 down:D.down=false
 size:8<=D.size/\D.size<=4096
 newest:newestV (view D 0) (view D 1)=(s,0)
 blocks:s.2.getD 0 0=D.size
 list:s.2.getD 1 0=pages.headD 0
 free:s.2.getD 2 0=numbers.length
 ok:ListOk D.size numbers pages
 listed:Listed D numbers pages
theorem Opens.load {D:DiskM} {s:Sup} {pages numbers:List Int} (h:Opens D s pages numbers):loadM D s=some (pages,numbers):=by
 have C:walkM D D.size (D.size.toNat+1) (pages.headD 0) [] []=some (pages,numbers):=by
  have:=qpf h.down rfl h.size.2 h.ok h.listed pages.length 0 (D.size.toNat+1) (by omega) (by
   have:=qdK h.ok.nodup h.ok.pgs
   have G:=h.size
   rcases this with A | A
   ·omega
   ·rw [A]; simp)
  have e:pages.headD 0=pages.getD 0 0:=by cases pages <;> rfl
  rw [e]
  exact this
 rw [loadM,h.blocks,h.list,C]
 dsimp only
 rw [if_pos]
 exact ⟨(qf5 _ _ _ _).2 ⟨fun x u=>⟨by have:=h.ok.nums x u; omega,(h.ok.nums x u).2,fun E=>h.ok.apart x E u⟩,h.ok.rises⟩,h.free.symm⟩
theorem Opens.open {D:DiskM} {s:Sup} {pages numbers:List Int} (h:Opens D s pages numbers):openM D=(some (begunM s pages numbers 1 false numbers),0):=by
 have u:=qf6 h.down (n:=0) ⟨by decide,by have:=h.size; omega⟩
 have A:=qf6 h.down (n:=1) ⟨by decide,by have:=h.size; omega⟩
 have C:s.2.getD 0 0=(D.safe.length:Int):=h.blocks
 rw [openM,u,A,h.newest,if_neg (by simp),if_neg (by simp),if_neg (by simp),if_neg (by rw [C]; simp),h.load]
theorem qdN {α:Type} {enc:α->List Value} {k:Nat} {P:Program} {S:List Nat} {w:World} {s:Sl} {l:List α} {tx e':TypeId} (h:Rds enc k S w s l) (A:∀ x,(enc x).length=k) (C:∀ x,∀ u∈enc x,u.oneCell'=true) (G:P.underlying tx=some (.slice e')) :
  Src P k tx s.v s.len (l.flatMap enc) w:=by
 obtain ⟨a,len,cap⟩:=s
 have E:=h.1
 simp only at E
 cases a with
 | none=>
  have:l=[]:=by
   rcases h.2.2 with h | ⟨b,o,O,T,Q,I,_⟩
   ·exact h
   ·cases I
  subst this
  simp at E
  subst E
  exact .ofNil w G cap
 | some a=>
  refine .ofSlice w G a len cap _ (by rw [qaC A,E]) (h.cells A rfl) fun u J=>?_
  obtain ⟨x,_,K⟩:=yJ.1 J
  exact C x u K
theorem qua {S:List Nat} {w:World} {s src:Sl} {l ys:List Int} {B:List Nat} {K:Sl->WP} (h:BufU w s l B) (I:Rd S w src ys) (hl:l.length+ys.length<=1000000)
  (O:∀ C B' w',BufU w' C (l++ys) B'->Fr B w w'->(∀ b∈B',b∈B\/w.heap.size<=b)->K C w') :
  Pt.run [Ty1.one Cell.slice] ((Builtin.append_ #[92,92] 92 #[s.v,src.v]).run Tryz.prog w) K:=by
 obtain ⟨i,Q,R,E,G⟩:=qdY
 have A:=I.1
 refine Buf.appSrc (e:=37) h qaZ (by kernel_rfl) Q R E rfl (qdN (e':=37) I qaZ (fun x u J=>by simp at J; subst J; rfl) (by kernel_rfl)) A (by rw [G]; omega) (by omega) fun C B' w' U V n' _=>O C B' w' U V n'
theorem qbA {D:DiskM} (h:D.Ok) (n:Int):IsB (readV D n).1/\(readV D n).1.length<=512:=by
 have G:IsB (zs 512):=IsB.zs 512
 unfold readV
 split
 ·exact ⟨(fun x A=>by cases A),by simp⟩
 split
 ·exact ⟨(fun x A=>by cases A),by simp⟩
 split
 ·rename_i b I
  refine ⟨?_,Nat.le_of_eq b.2⟩
  have:∀ l:List (Int×Blk),(∀ x∈l,IsB x.2.1)->lastW n l=some b->IsB b.1:=by
   intro l
   induction l with
   | nil=>intro _ h; cases h
   | cons x l ih=>
    intro E u
    rw [lastW] at u
    cases C:lastW n l with
    | some c=>rw [C] at u; exact ih (fun y J=>E y (zN _ J)) (by rw [C]; exact u)
    | none=>
     rw [C] at u
     dsimp only at u
     split at u
     ·cases u; exact E x (by simp)
     ·cases u
  exact this _ h.bytesW I
 ·refine ⟨?_,Nat.le_of_eq (D.safe.getD n.toNat .zero).2⟩
  rw [yQ]
  cases K:D.safe[n.toNat]? with
  | none=>exact G
  | some b=>exact h.bytesS b (yE K)
theorem qme {l:List Int} (h:IsB l) (n:Int):IsB (openV n l).2.1/\(openV n l).2.1.length<=l.length:=by
 have u:IsB ([]:List Int):=fun x A=>by cases A
 unfold openV
 split
 ·exact ⟨u,by simp⟩
 split
 ·exact ⟨u,by simp⟩
 split
 ·exact ⟨u,by simp⟩
 split
 ·exact ⟨u,by simp⟩
 split
 ·exact ⟨u,by simp⟩
 ·refine ⟨(h.take _).drop _,?_⟩
  rw [yB,yK]
  omega
abbrev MIT:TypeId:=200
theorem quq:Tryz.prog.underlying MIT=some (.map 37 3):=by kernel_rfl
theorem quP:∀ w,(zeroValue 3).run Tryz.prog w=.ok (.i 0) w:=fun w=>by kernel_rfl
def onesM (l:List Int):List (Int×Value):=l.map fun n=>(n,.i 1)
theorem qgk (n:Int):∀ l:List Int,(n∈l->∃ i,look n (onesM l)=some (i,.i 1))/\(n∉l->look n (onesM l)=none)
 | []=>⟨(fun h=>by cases h),fun _=>rfl⟩
 | a::l=>by
  obtain ⟨E,G⟩:=qgk n l
  simp only [onesM,xN,look]
  by_cases h:n=a
  ·rw [if_pos h]
   exact ⟨fun _=>⟨0,rfl⟩,fun I=>absurd (by rw [h]; simp) I⟩
  ·rw [if_neg h]
   refine ⟨fun u=>?_,fun u=>?_⟩
   ·rcases zG.1 u with e | u
    ·exact absurd e h
    ·obtain ⟨i,C⟩:=E u
     unfold onesM at C
     exact ⟨i+1,by rw [C]; rfl⟩
   ·have:=G (fun A=>u (zN _ A))
    unfold onesM at this
    rw [this]; rfl
theorem qnf {w:World} {r:Nat} {A:List Int} {n:Int} {K:Int->Prop} (h:MapS u32V w r (onesM A)) (k:∀ x:Int,decide (x>0)=decide (n∈A)->K x) :
  runQ [Ty1.one .i] (fun w'=>(Instr.lookup MIT (.map (some r)) (.u n) false).run Tryz.prog w') w K:=by
 have:=qgi (P:=Tryz.prog) quq quP qch h.at n
 rw [qbV] at this
 obtain ⟨C,E⟩:=qgk n A
 by_cases hn:n∈A
 ·obtain ⟨i,G⟩:=C hn
  rw [G] at this
  exact qbu (ts:=[Ty1.one .i]) (1:Int) this (k 1 (by simp [hn]))
 ·rw [E hn] at this
  exact qbu (ts:=[Ty1.one .i]) (0:Int) this (k 0 (by simp [hn]))
theorem qrh {db:Option Addr} {sup:Sup} {sl u sn:Sl} {turn:Int} {over:Bool} {wk:List Value} (C:sup.2.length=27):splice (pgRaw db sup sl sn turn over wk) 29 [u.v]=pgRaw db sup u sn turn over wk:=by
 have h:=qa1 (db:=db) C
 have:=qbD (A:=(Value.pointer db::supV sup.1 sup.2)) (X:=[sl.v]) (Y:=[u.v]) (Z:=sn.v::.i turn::.bool over::wk) rfl
 rw [h] at this
 simpa [pgRaw] using this
theorem qqu {db:Option Addr} {sup:Sup} {sl sn u:Sl} {turn:Int} {over:Bool} {wk:List Value} (C:sup.2.length=27):splice (pgRaw db sup sl sn turn over wk) 30 [u.v]=pgRaw db sup sl u turn over wk:=by
 have h:((Value.pointer db::supV sup.1 sup.2)++([sl.v]:List Value)).length=30:=by rw [zF,qa1 C]; rfl
 have:=qbD (A:=(Value.pointer db::supV sup.1 sup.2)++([sl.v]:List Value)) (X:=[sn.v]) (Y:=[u.v]) (Z:=.i turn::.bool over::wk) rfl
 rw [h] at this
 simpa [pgRaw] using this
theorem qhx {l:List Int}:U32 (first4 l):=by unfold first4 get4V; exact qbZ _ _ _
theorem qp1 (l:List Int):U32 (parseV l).1:=by
 unfold parseV
 split
 ·constructor <;> decide
 split
 ·constructor <;> decide
 split
 ·exact qhx
 ·constructor <;> decide
theorem qpZ (l:List Int):(parseV l).2.1.length<=123:=by
 unfold parseV
 split
 ·simp
 split
 ·simp
 rename_i h
 split
 ·simp only [numsV,zK,length_range]; omega
 ·simp
structure Walk (w:World) (FD:List Nat) (pb r:Nat) (db:Option Addr) (sup:Sup) (turn:Int) (over:Bool) (wk:List Value) (a:Int) (lists named:List Int) (w':World) (sl sn:Sl) (B1 B2:List Nat):Prop where
 own:Own [pb] w w' [(pb,.cells (pgRaw db sup sl sn turn over wk) PGT (0,0))]
 b1:BufU w' sl lists B1
 b2:BufU w' sn named B2
 map:MapS u32V w' r (onesM lists)
 n1:∀ b∈B1,w.heap.size<=b/\b≠r/\b∉B2
 n2:∀ b∈B2,w.heap.size<=b/\b≠r
 nr:w.heap.size<=r
 at_:U32 a
 nodup:lists.Nodup
 range:∀ x∈lists,2<=x/\x<sup.2.getD 0 0
 len:named.length<=123*lists.length
theorem qs9 {w:World} {pb dbk:Nat} {FD:List Nat} {D:DiskM} {sup:Sup} {turn:Int} {over:Bool} {wk:List Value} {K:Bool->WP}
  (hc:w.heap[pb]?=some (.cells (pgRaw (pW dbk) sup ⟨none,0,0⟩ ⟨none,0,0⟩ turn over wk) PGT (0,0))) (O:sup.2.length=27) (hw:wk.length=27) (hd:DiskAt w dbk FD D) (hD:D.Ok) (hv:Hv w) (a8:pb∉FD) (a9:pb≠HG)
  (bO:sup.2.getD 0 0<=4096) (a':U32 (sup.2.getD 1 0)) (bP:U32 (sup.2.getD 2 0))
  (R:loadM D sup=none->∀ w',Fr [pb] w w'->K false w')
  (hk:∀ sl sn u A w',loadM D sup=some (u,A)->Own [pb] w w' [(pb,.cells (pgRaw (pW dbk) sup sl sn turn over wk) PGT (0,0))]->(∀ G:List Nat,(∀ b∈G,b<w.heap.size)->Rd G w' sl u/\Rd G w' sn A)->K true w') :
  cW 98 [.pointer (pW pb)] [.one .bool] w K:=by
 have bE:=qab hc
 have ho:Own [pb] w w [(pb,.cells (pgRaw (pW dbk) sup ⟨none,0,0⟩ ⟨none,0,0⟩ turn over wk) PGT (0,0))]:=⟨by simpa using hc,by simp,.refl _ _,by simp⟩
 refine qgN ?_
 unfold qdD
 refine Own.new' ho fun r w1 e1 f1 aa=>?_
 have am:MapS u32V w1 r (onesM []):=.empty (aa.at (i:=0) rfl)
 have aa:=aa.sub (L':=[(pb,_)]) (List.Sublist.cons _ (List.Sublist.refl _))
 refine qae (Own.ld aa 0 rfl (sup.2.getD 1 0) (qib O 1 (by decide)) ?_)
 have aD:∀ {w':World},Fr [pb] w w'->DiskAt w' dbk FD D:=fun f=>hd.frame f fun b E=>by simp only [zE]; rintro rfl; exact a8 E
 have half:∀ {w':World},Fr [pb] w w'->Hv w':=fun f=>hv.frame f (by simpa using fun e=>a9 e.symm)
 generalize ba:(sup.2.getD 0 0).toNat+1=F0
 have I:loadM D sup=match walkM D (sup.2.getD 0 0) F0 (sup.2.getD 1 0) [] [] with | none=>none | some x=>if namedB (sup.2.getD 0 0) x.1 0 x.2=true/\(x.2.length:Int)=sup.2.getD 2 0 then some x else none:=by rw [<- ba]; rfl
 refine qak (fun a w'=>∃ u A sl sn B1 B2 f,Walk w FD pb r (pW dbk) sup turn over wk a u A w' sl sn B1 B2/\f+u.length=F0/\walkM D (sup.2.getD 0 0) f a u A=walkM D (sup.2.getD 0 0) F0 (sup.2.getD 1 0) [] [])
  (fun a w'=>match w'.heap[r]? with | some (.map es _)=>F0-es.size | _=>0) ⟨[],[],⟨none,0,0⟩,⟨none,0,0⟩,[],[],F0,⟨aa,.nil _ _ _,.nil _ _ _,am,by simp,by simp,by rw [e1]; exact zM _,a',.nil,by simp,by simp⟩,rfl,rfl⟩ ?_
 rintro a w2 ⟨u,A,sl,sn,B1,B2,f,H,hf,C⟩ X hX
 have bF:u.length<F0:=by
  rcases qdK H.nodup H.range with h | h
  ·omega
  ·rw [h]; simp; omega
 obtain ⟨f,rfl⟩:∃ g,f=g+1:=⟨f-1,by omega⟩
 have aE:=H.own.fr
 refine qaa (fun an=>?_) (fun an=>?_)
 ·have ao:a≠0:=by simpa using an
  rw [walkM,if_neg ao] at C
  refine qag (fun b w'=>b=decide (a<2\/a>=sup.2.getD 0 0\/a∈u)/\w'=w2) ?_ ?_
  ·refine qaa (fun h=>⟨by rw [zZ (Or.inl (zC h))],rfl⟩) (fun h=>?_)
   have h1:=zB h
   refine qae (Own.ld H.own 0 rfl (sup.2.getD 0 0) (qib O 0 (by decide)) ?_)
   refine qaa (fun h=>⟨by rw [zZ (Or.inr (Or.inl (zC h)))],rfl⟩) (fun h=>?_)
   have U:=zB h
   refine qnf H.map fun x hx=>⟨?_,rfl⟩
   rw [hx]
   refine decide_eq_decide.2 ⟨fun h=>.inr (.inr h),fun h=>?_⟩
   rcases h with h | h | h
   ·exact absurd h h1
   ·exact absurd h U
   ·exact h
  rintro b w3 ⟨rfl,rfl⟩
  refine qaa (fun h=>?_) (fun h=>?_)
  ·have h:=zC h
   rw [if_pos h] at C
   exact R (by rw [I,<- C]) w3 aE
  have ag:=zB h
  rw [if_neg ag] at C
  have bf:2<=a:=by omega
  have bg:a<sup.2.getD 0 0:=by omega
  have aF:a∉u:=fun h=>ag (.inr (.inr h))
  obtain ⟨o,hr,hm⟩:=qgc (v:=.i 1) quq H.map a
  refine qid _ hr ?_
  have ap:setL a (.i 1) (onesM u)=onesM (u++[a]):=by
   rw [setL,(qgk a u).2 aF]
   simp [onesM]
  rw [ap] at hm
  have aG:=H.map.lt
  have fm:Fr [r] w3 (upd w3 r o):=qd9 aG o
  have aH:r≠pb:=by have:=H.nr; omega
  have ac:=H.own.frame fm (fun b E=>by simp only [zE] at E; subst E; exact .inr H.nr) (fun p hp=>by simp at hp; subst hp; simpa using fun e=>aH e.symm)
  have aq:=H.b1.frame fm (fun b E=>by simpa using (H.n1 b E).2.1)
  have aI:=H.b2.frame fm (fun b E=>by simpa using (H.n2 b E).2)
  generalize upd w3 r o=w4 at hm fm ac aq aI
  refine qae (Own.ld ac 0 rfl (pW dbk) quy ?_)
  rw [wi' a (by omega)]
  refine qfM (aD ac.fr) hD fun s5 B5 w5 b5 f5 n5=>?_
  have ar:=ac.frame0 f5
  refine qaa (fun h=>?_) (fun h=>?_)
  ·have h:(readV D a).2≠0:=by simpa using h
   rw [if_pos h] at C
   exact R (by rw [I,<- C]) w5 ar.fr
  have h:¬ (readV D a).2≠0:=by simpa using h
  rw [if_neg h] at C
  refine qle (b5.rds qat (S:=[]) (by simp)) (half ar.fr) (qbA hD a).1 (by have:=(qbA hD a).2; omega) fun s6 B6 w6 b6 f6 n6=>?_
  have aK:=ar.frame0 f6
  refine qag (fun b w'=>b=decide ((openV a (readV D a).1).2.2≠0\/(openV a (readV D a).1).1≠2)/\w'=w6) ?_ ?_
  ·refine qaa (fun h=>?_) (fun h=>?_)
   ·have h:(openV a (readV D a).1).2.2≠0:=by simpa using h
    exact ⟨by rw [zZ (Or.inl h)],rfl⟩
   ·have h:(openV a (readV D a).1).2.2=0:=by simpa using h
    refine ⟨?_,rfl⟩
    by_cases U:(openV a (readV D a).1).1=2 <;> simp [h,U]
  rintro b bj ⟨rfl,rfl⟩
  refine qaa (fun h=>?_) (fun h=>?_)
  ·have h:=zC h
   rw [if_pos h] at C
   exact R (by rw [I,<- C]) bj aK.fr
  have h:=zB h
  rw [if_neg h] at C
  have aL:=qme (qbA hD a).1 a
  refine qrr (b6.rds qat (S:=[]) (by simp)) aL.1 (by have:=aL.2; have:=(qbA hD a).2; omega) fun s7 B7 w7 b7 f7 n7=>?_
  have aM:=aK.frame0 f7
  refine qaa (fun h=>?_) (fun h=>?_)
  ·have h:(parseV (openV a (readV D a).1).2.1).2.2≠0:=by simpa using h
   rw [if_pos h] at C
   exact R (by rw [I,<- C]) w7 aM.fr
  have h:¬ (parseV (openV a (readV D a).1).2.1).2.2≠0:=by simpa using h
  rw [if_neg h] at C
  have bk:=qpZ (openV a (readV D a).1).2.1
  have aN:=qp1 (openV a (readV D a).1).2.1
  generalize parseV (openV a (readV D a).1).2.1=pv at C b7 bk aN
  have bl:=(f5.trans f6).trans f7
  have bm:=H.len
  have bn:u.length<=4096:=by omega
  have J:=aM.drew
  have ad:Fr [] w4 w7.drew:=bl.drew
  have au:=aq.frame0 ad
  have av:=aI.frame0 ad
  have aO:=hm.frame ad (by simp)
  have aP:=b7.frame0 ((Fr.refl [] w7).drew)
  have l7:∀ b∈B7,w4.heap.size<=b:=fun b E=>zL (f5.trans f6).size (n7 b E)
  have b8:r<w4.heap.size:=hm.lt
  generalize w7.drew=wd at J ad au av aO aP
  refine qae (Own.ld J 0 rfl sl (qde O 0 (by decide)) ?_)
  refine qae (Own.ld J 0 rfl sn (qde O 1 (by decide)) ?_)
  refine Own.new' J fun rn w8 e8 f8 ae=>?_
  refine qar (ae.cell 1 rfl (qde O 1 (by decide))) (ae.cell 1 rfl (qde O 0 (by decide))) ?_
  have aS:Rd [] w8 ⟨pW rn,1,1⟩ [a]:=by
   refine ⟨rfl,zM _,.inr ⟨rn,0,_,_,_,rfl,ae.at (i:=0) rfl,by simp,fun i x hx=>?_⟩⟩
   match i with
   | 0=>simp at hx; subst hx; rfl
   | i+1=>simp at hx
  refine qua (s:=sl) (src:=⟨pW rn,1,1⟩) (au.frame0 f8) aS (by simp; omega) fun s9 B9 w9 b9 f9 n9=>?_
  have b':∀ b∈B1,b<wd.heap.size:=fun b E=>au.lt b E
  have bs:∀ b∈B2,b<wd.heap.size:=fun b E=>av.lt b E
  have bt:wd.heap.size<=w8.heap.size:=f8.size
  have ca:w4.heap.size<=wd.heap.size:=ad.size
  have cc:w.heap.size<=w4.heap.size:=ac.fr.size
  have aU:=(ae.sub (L':=[(pb,_)]) (List.Sublist.cons _ (List.Sublist.refl _))).frame f9 (fun b E=>.inr (H.n1 b E).1) (fun p hp E=>by simp at hp; subst hp; have:=(H.n1 _ E).1; dsimp only at this; omega)
  refine qah (aU.cell 0 rfl (qde O 1 (by decide))) ?_
  have bu:=(av.frame0 f8).frame f9 (fun b E aw=>(H.n1 b aw).2.2 E)
  have bv:Rd [] w9 s7 pv.2.1:=((aP.frame0 f8).frame f9 (fun b E aw=>by have:=l7 b E; have:=aq.lt b aw; omega)).rds qaZ (by simp)
  refine qua bu bv (by omega) fun aV ax cd bw ay aW=>?_
  have bK:wd.heap.size<=w9.heap.size:=zL bt f9.size
  have aX:=aU.frame ay (fun b E=>.inr (H.n2 b E).1) (fun p hp E=>by simp at hp; subst hp; have:=(H.n2 _ E).1; dsimp only at this; omega)
  have V:∀ b∈B9,w.heap.size<=b/\b≠r/\b∉B2/\b<w9.heap.size:=fun b E=>by
   refine ⟨?_,?_,?_,b9.lt b E⟩
   ·rcases n9 b E with h | h
    ·exact (H.n1 b h).1
    ·omega
   ·rcases n9 b E with h | h
    ·exact (H.n1 b h).2.1
    ·omega
   ·rcases n9 b E with h | h
    ·exact (H.n1 b h).2.2
    ·intro U; have:=bs b U; omega
  have ai:∀ b∈ax,w.heap.size<=b/\b≠r:=fun b E=>by
   rcases aW b E with h | h
   ·exact H.n2 b h
   ·constructor <;> omega
  have aY:=b9.frame ay (fun b E U=>(V b E).2.2.1 U)
  have bx:∀ b∈B9,b∉ax:=fun b E bz=>by
   rcases aW b bz with h | h
   ·exact (V b E).2.2.1 h
   ·have:=(V b E).2.2.2; omega
  refine qae (Own.st' aX 0 rfl (pgRaw (pW dbk) sup s9 sn turn over wk) (qrh O) rfl (by rw [qf8 O,hw]; exact zO rfl) fun ce aZ bA=>?_)
  refine qae (Own.st' aZ 0 rfl (pgRaw (pW dbk) sup s9 aV turn over wk) (qqu O) rfl (by rw [qf8 O,hw]; exact zO rfl) fun cf a0 bB=>?_)
  have Q:=bA.trans bB
  have az:∀ b,w.heap.size<=b->b∉[pb]:=fun b E=>by simp; omega
  have aj:=(((aO.frame f8 (by simp)).frame f9 (fun h=>(H.n1 r h).2.1 rfl)).frame ay (fun h=>(H.n2 r h).2 rfl)).frame Q (az r H.nr)
  refine hX _ _ ⟨u++[a],A++pv.2.1,s9,aV,B9,ax,f,⟨a0,aY.frame Q (fun b E=>az b (V b E).1),bw.frame Q (fun b E=>az b (ai b E).1),aj,fun b E=>⟨(V b E).1,(V b E).2.1,bx b E⟩,ai,H.nr,aN,?_,?_,?_⟩,?_,C⟩ ?_
  ·rw [yL]
   exact ⟨H.nodup,by simp,fun x hx y hy=>by simp at hy; subst hy; exact fun e=>aF (e▸hx)⟩
  ·intro x hx
   rcases zD.1 hx with h | h
   ·exact H.range x h
   ·simp at h; subst h; exact ⟨bf,bg⟩
  ·rw [zF,zF]
   have:[a].length=1:=rfl
   omega
  ·rw [zF]
   have:[a].length=1:=rfl
   omega
  ·have key:∀ {w':World} {l:List Int},MapS u32V w' r (onesM l)->(match w'.heap[r]? with | some (.map es _)=>F0-es.size | _=>0)=F0-l.length:=by
    rintro w' l ⟨es,c,h1,U,_⟩
    rw [h1]
    have:=congrArg List.length U
    simp [onesM] at this
    simp [this]
   rw [key aj,key H.map,zF]
   have:[a].length=1:=rfl
   omega
 ·have ao:a=0:=by simpa using an
  subst ao
  rw [walkM,if_pos rfl] at C
  rw [<- C] at I
  dsimp only at I
  refine qae (Own.ld H.own 0 rfl sn (qde O 1 (by decide)) ?_)
  have rn:Rd [] w2 sn A:=H.b2.rds qaZ (by simp)
  have cg:=rn.1
  have bm:=H.len
  have bn:u.length<=4096:=by omega
  refine qak (fun x w'=>w'=w2/\∃ i:Nat,x.2=i/\i<=A.length/\namedB (sup.2.getD 0 0) u x.1 (A.drop i)=namedB (sup.2.getD 0 0) u 0 A) (fun x _=>((A.length:Int)-x.2).toNat) ⟨rfl,0,rfl,by omega,rfl⟩ ?_
  rintro ⟨a1,ii⟩ w' ⟨rfl,i,a2,hi,hn⟩ Z hZ
  simp only at a2 hn
  subst a2
  refine qaa (fun hc=>?_) (fun hc=>?_)
  ·have a3:i<A.length:=by have:=zC hc; dsimp only at this; omega
   refine Rd.at rn i rfl (zA a3) ?_
   rw [zX a3,namedB] at hn
   refine qag (fun b w3=>b=(decide (A[i]<=a1)||decide (A[i]>=sup.2.getD 0 0)||decide (A[i]∈u))/\w3=w') ?_ ?_
   ·refine qaa (fun h=>⟨by rw [h]; rfl,rfl⟩) (fun h=>?_)
    refine qae (Own.ld H.own 0 rfl (sup.2.getD 0 0) (qib O 0 (by decide)) ?_)
    refine qaa (fun U=>⟨by rw [h,U]; rfl,rfl⟩) (fun U=>?_)
    refine qnf H.map fun x hx=>⟨?_,rfl⟩
    rw [hx,h,U]; rfl
   rintro b w3 ⟨rfl,rfl⟩
   refine qaa (fun h=>?_) (fun h=>?_)
   ·rw [h] at hn
    refine R ?_ w3 aE
    rw [I,if_neg]
    rw [<- hn]
    simp
   ·rw [h] at hn
    rw [wi' _ (by dsimp only; omega)]
    exact hZ _ _ ⟨rfl,i+1,by simp,by omega,by simpa using hn⟩ (by dsimp only; omega)
  ·have:i=A.length:=by have:=zB hc; dsimp only at this; omega
   subst this
   rw [drop_length] at hn
   have bC:namedB (sup.2.getD 0 0) u 0 A=true:=hn.symm
   have J:=H.own.drew
   refine qae (Own.ld J 0 rfl sn (qde O 1 (by decide)) ?_)
   refine qae (Own.ld J 0 rfl (sup.2.getD 2 0) (qib O 2 (by decide)) ?_)
   rw [wi' _ (by omega)]
   by_cases hfree:(A.length:Int)=sup.2.getD 2 0
   ·rw [if_pos ⟨bC,hfree⟩] at I
    have e:((sn.len:Int)==sup.2.getD 2 0)=true:=by rw [yO]; omega
    rw [e]
    refine hk sl sn u A _ I J fun G hG=>?_
    have al:∀ b,w.heap.size<=b->b∉G:=fun b E h=>by have:=hG b h; omega
    exact ⟨(H.b1.frame0 ((Fr.refl [] w').drew)).rds qaZ fun b E=>al b (H.n1 b E).1,(H.b2.frame0 ((Fr.refl [] w').drew)).rds qaZ fun b E=>al b (H.n2 b E).1⟩
   ·have e:((sn.len:Int)==sup.2.getD 2 0)=false:=by rw [zR]; omega
    rw [e]
    exact R (by rw [I,if_neg (fun h=>hfree h.2)]) _ J.fr
theorem qi7 {S:List Nat} {w:World} {s:Sl} {l:List Int} (h:RdB S w s l):(Extern.Bytes.bytesOf (.slice s.a s.len s.cap)).run Tryz.prog w=.ok ⟨(Lib.bytesOf l).toArray⟩ w:=by
 have hlen:=h.1
 cases ha:s.a with
 | none=>
  have hl0:l=[]:=by
   rcases h.2.2 with h3 | ⟨b,o,cs,T,fr,ha',_⟩
   ·exact h3
   ·rw [ha] at ha'; cases ha'
  subst hl0
  rfl
 | some a=>
  have hc:=h.cells qat ha
  have:=Lib.run_loadBytesX (P:=Tryz.prog) w l a .empty (fun j x hj=>hc j (.int .u8 x) (by rw [qaA,zQ,hj]; rfl))
  rw [hlen]
  show (Extern.Bytes.loadBytes a l.length .empty).run Tryz.prog w=_
  rw [this]
  have e:(#[]:Array UInt8)++(Lib.bytesOf l).toArray=(Lib.bytesOf l).toArray:=by simp
  exact congrArg (fun d=>Result.ok (ByteArray.mk d) w) e
theorem qeD:∀ {a b:List Int},IsB a->IsB b->Lib.compareBytes (Lib.bytesOf a) (Lib.bytesOf b)=cmpL a b
 | [],[],_,_=>rfl
 | [],y::b,_,_=>rfl
 | x::a,[],_,_=>rfl
 | x::a,y::b,G,I=>by
  have A:=G x (by simp)
  have C:=I y (by simp)
  have ih:=qeD (a:=a) (b:=b) (fun z E=>G z (zN _ E)) (fun z E=>I z (zN _ E))
  have e:∀ {u v:Int},(0<=u/\u<256)->(0<=v/\v<256)->(u.toNat.toUInt8<v.toNat.toUInt8↔u<v):=fun {u v} J K=>by
   rw [UInt8.lt_iff_toNat_lt]
   simp
   omega
  show (if x.toNat.toUInt8<y.toNat.toUInt8 then (-1:Int) else if y.toNat.toUInt8<x.toNat.toUInt8 then 1 else Lib.compareBytes (Lib.bytesOf a) (Lib.bytesOf b))=cmpL (x::a) (y::b)
  rw [cmpL,ih]
  by_cases h1:x<y
  ·rw [if_pos ((e A C).2 h1),if_pos h1]
  ·rw [if_neg (fun h=>h1 ((e A C).1 h)),if_neg h1]
   by_cases h2:y<x
   ·rw [if_pos ((e C A).2 h2),if_pos h2]
   ·rw [if_neg (fun h=>h2 ((e C A).1 h)),if_neg h2]
theorem qot {S S':List Nat} {w:World} {s u:Sl} {l l':List Int} (h:RdB S w s l) (C:RdB S' w u l') (E:IsB l) (A:IsB l') :
  (Extern.BytealgCompare.compare #[s.v,u.v]).run Tryz.prog w=.ok (.i (cmpL l l')) w:=by
 show Sem.run Tryz.prog (do pure (goInt (Extern.BytealgCompare.cmp (<- Extern.Bytes.bytesOf s.v) (<- Extern.Bytes.bytesOf u.v)))) w=_
 have e:=qeD E A
 simp only [Sem.run_bind,qi7 h,Result.andThen_ok,qi7 C,Lib.cmp_eq]
 rw [e]
 rfl
theorem qhB {S S':List Nat} {w:World} {s A:Sl} {l l':List Int} {K:Int->WP} (h:RdB S w s l) (C:RdB S' w A l') (E:IsB l) (u:IsB l') (G:K (cmpL l l') w) :
  cW 111 [s.v,A.v] [.one .i] w K:=by
 refine qpL ?_
 unfold qnk
 refine qjL ?_
 unfold qfI
 exact qkG (e:=Extern.BytealgCompare.compare) Tryz.func182 (by kernel_rfl) (by kernel_rfl) (by kernel_rfl) (by kernel_rfl) (cmpL l l') w (qot h C E u) G
def encSl (s:Sl):List Value:=[s.v]
theorem qcl (s:Sl):(encSl s).length=1:=rfl
theorem qrt (s:Sl):∀ u∈encSl s,u.oneCell'=true:=fun u h=>by rw [zE.1 h]; rfl
abbrev Kps:=List (Sl×Key)
abbrev slsP (ps:Kps):List Sl:=ps.map (·.1)
abbrev keyP (ps:Kps):List Key:=ps.map (·.2)
def RdK (S:List Nat) (w:World) (s:Sl) (ps:Kps):Prop:=Rds encSl 1 S w s (slsP ps)/\∀ p∈ps,RdB S w p.1 p.2
theorem RdK.frame {S S':List Nat} {w w':World} {s:Sl} {ps:Kps} (h:RdK S w s ps) (f:Fr S w w') (u:∀ b∈S',b∈S\/w.heap.size<=b):RdK S' w' s ps:=⟨h.1.frame f u,fun p A=>(h.2 p A).frame f u⟩
theorem RdK.frame0 {S:List Nat} {w w':World} {s:Sl} {ps:Kps} (h:RdK S w s ps) (f:Fr [] w w'):RdK S w' s ps:=⟨h.1.frame0 f,fun p u=>(h.2 p u).frame0 f⟩
theorem RdK.len {S:List Nat} {w:World} {s:Sl} {ps:Kps} (h:RdK S w s ps):s.len=ps.length:=by rw [h.1.1,zK]
theorem RdK.nil (S:List Nat) (w:World):RdK S w ⟨none,0,0⟩ []:=⟨.nil _ _ _ _,fun p h=>nomatch h⟩
theorem RdK.get {S:List Nat} {w:World} {s:Sl} {ps:Kps} (h:RdK S w s ps) (n:Nat) {i:Int} {K:Sl->Prop} (hi:i=n) (u:n<ps.length) (A:K ps[n].1):idx s i 1 fun a=>ld .slice a w K:=
 Rds.get h.1 n hi (x:=ps[n].1) (by rw [zQ,zA u]; rfl) (y:=ps[n].1) rfl A
end Go.Proofs.YtmmkegapckbomaaGreatDoor
end
section
namespace Go.Proofs.YtmmkegapckbomaaGreatDoor
open Go.ChangeShapes Go.WideShapes Go.ChangeAt Go.RowKit Go.Pt
section
variable {H:Type} {enc:TypeId×Value->H} {W:World} {base:Nat} {spare:Nat->Bool} {held:Bool}
theorem qpN:∀ n u y,DataW.trod enc Tryz.prog W base spare held n 23 u=some y->∃ x:Sl,u=encSl x/\∃ l,RdB [] W x l/\IsB l:=by
 intro n u y h
 have C:∃ s:Sl,u=[s.v]:=by
  rcases Go.Deep.open_slice (e:=5) (by kernel_rfl) h with ⟨A,_⟩ | ⟨a,len,cap,m,n',D,G,A,_⟩
  ·exact ⟨⟨none,0,0⟩,A⟩
  ·exact ⟨⟨some a,len,cap⟩,A⟩
 obtain ⟨s,rfl⟩:=C
 obtain ⟨l,g,e⟩:=qhX (P:=Tryz.prog) (t:=23) (e:=5) (s:=s) (k:=1) (encB:=fun n=>[Value.int .u8 n]) (by kernel_rfl) (by kernel_rfl) (by decide) (qmL (k:=.u8) (by kernel_rfl)) h
 exact ⟨s,rfl,l,g,fun z E=>qpq (e z E)⟩
theorem qrq {S:List Nat} {w:World} {s:Sl}:∀ {l:List Sl},(∀ x∈l,∃ r,RdB S w x r/\IsB r)->∃ rows:Kps,slsP rows=l/\∀ p∈rows,RdB S w p.1 p.2/\IsB p.2
 | [],h=>⟨[],rfl,fun p hp=>nomatch hp⟩
 | x::l,h=>by
  obtain ⟨r,h1,h2⟩:=h x (List.mem_cons_self ..)
  obtain ⟨rows,e,h3⟩:=qrq (s:=s) (l:=l) fun y hy=>h y (zN _ hy)
  refine ⟨(x,r)::rows,by rw [<- e]; rfl,fun p hp=>?_⟩
  rcases zG.1 hp with rfl | hp
  ·exact ⟨h1,h2⟩
  ·exact h3 p hp
theorem qt2 {n:Nat} {s:Sl} {y:DataW H×List MemPlace} (h:DataW.trod enc Tryz.prog W base spare held n 22 [s.v]=some y):∃ u:Kps,RdK [] W s u/\∀ p∈u,IsB p.2:=by
 obtain ⟨l,g,e⟩:=qhX (P:=Tryz.prog) (t:=22) (e:=23) (s:=s) (k:=1) (encB:=encSl) (by kernel_rfl) (by kernel_rfl) (by decide) qpN h
 obtain ⟨u,E,C⟩:=qrq (s:=s) e
 exact ⟨u,⟨by rw [E]; exact g,fun p A=>(C p A).1⟩,fun p A=>(C p A).2⟩
end
end Go.Proofs.YtmmkegapckbomaaGreatDoor
end
section
namespace Go.Proofs.YtmmkegapckbomaaGreatDoor
open Go Go.Pt List
attribute [local irreducible] ld ldA ldV fld fldA newZ st new idx idxS idxA slc slcS slcP mkS chk nn call callV inv run runQ runU join loop held ext rng undefer s2a nxt ent IntKind.wrap
theorem andThen_ok {D:DiskM} {f:DiskM->DiskM×Int}:andThen (D,0) f=f D:=if_pos rfl
structure SupOk (s:Sup):Prop where
 seq:0<=s.1/\s.1<4611686018427387904
 len:s.2.length=27
 u32:∀ x∈s.2,U32 x
theorem SupOk.place {s:Sup} (h:SupOk s):Int.tmod s.1 2=s.1%2:=Int.tmod_eq_emod_of_nonneg h.seq.1
theorem SupOk.superP {s:Sup} (h:SupOk s):superP s=(s.1%2,sealV (s.1%2) 1 (superB s.1 s.2)):=by
 rw [Go.Proofs.YtmmkegapckbomaaGreatDoor.superP,h.place,qa3 _ (by omega)]
theorem SupOk.read {s:Sup} (h:SupOk s):readSV (s.1%2) (sealV (s.1%2) 1 (superB s.1 s.2))=(s,0):=by
 have:=h.seq
 exact qn9 (by constructor <;> omega) h.len h.u32 h.place
theorem SupOk.sealLen {s:Sup} (h:SupOk s) (p:Int):(sealV p 1 (superB s.1 s.2)).length=512:=qdb (by rw [qbW h.len]; decide)
theorem Quiet.sealOk {D:DiskM} {s:Sup} (h:Quiet D) (C:SupOk s) (hz:8<=D.size) :
  ∃ u,sealM D s=(u,0)/\Quiet u/\u.size=D.size/\u.waits=[]/\view u (s.1%2)=sealV (s.1%2) 1 (superB s.1 s.2)/\∀ m,0<=m->m≠s.1%2->view u m=view D m:=by
 obtain ⟨D1,e1,I,J,E⟩:=h.write (n:=s.1%2) (l:=sealV (s.1%2) 1 (superB s.1 s.2)) (by omega) (C.sealLen _)
 obtain ⟨K,O,Q,R,U,G⟩:=I.sync
 refine ⟨K,?_,Q,R.trans J,U,by rw [G _ (by omega),E,if_pos rfl],fun m V A=>by rw [G m V,E,if_neg A]⟩
 rw [sealM,C.superP]
 show andThen (writeM D (s.1%2) _) syncM=_
 rw [e1]
 exact O
theorem qoi {p:Int}:(readSV p (zs 512)).2≠0:=by
 have u:(openV p (zs 512)).1=0:=by
  unfold openV
  split <;> (try rfl)
  split <;> (try rfl)
  split <;> (try rfl)
  split <;> (try rfl)
  split <;> rfl
 unfold readSV
 generalize openV p (zs 512)=o at u ⊢
 by_cases h:o.2.2≠0
 ·rw [if_pos h]; exact h
 ·have A:o.1≠1\/o.2.1.length≠116:=.inl (by rw [u]; decide)
  rw [if_neg h,if_pos A]
  exact (by decide:(2:Int)≠0)
theorem qo1 {n i:Nat} (h:i<n-2):(allV n)[i]?=some ((i:Int)+2):=by rw [allV,zQ,List.getElem?_range h]; rfl
theorem qf2 (n:Nat):(allV n).length=n-2:=by simp [allV]
theorem qfR {n:Nat} {x:Int}:x∈allV n↔2<=x/\x<n:=by
 rw [allV,mem_map]
 constructor
 ·rintro ⟨i,h,rfl⟩
  rw [mem_range] at h
  omega
 ·rintro ⟨u,A⟩
  exact ⟨(x-2).toNat,by rw [mem_range]; omega,by omega⟩
theorem qgj (n:Nat):(allV n).Pairwise (· < ·):=by
 rw [allV,pairwise_map]
 exact pairwise_lt_range.imp (fun h=>by omega)
theorem qkb {n:Nat}:n<=124*needP n:=by
 unfold needP
 split
 ·omega
 ·have:=Nat.div_add_mod (n-1) 124
  have:=Nat.mod_lt (n-1) (show 0<124 by decide)
  omega
theorem qjD {n:Nat}:needP n<=n:=by
 unfold needP
 split
 ·omega
 ·have:=Nat.div_le_self (n-1) 124
  omega
theorem qkm {n:Nat}:ListOk n ((allV n).drop (needP (allV n).length)) ((allV n).take (needP (allV n).length)) where
 rises:=(qgj n).sublist (drop_sublist _ _)
 nums:=fun x u=>qfR.1 (yT u)
 pgs:=fun x u=>qfR.1 (yU u)
 nodup:=(qf4 (qgj n)).sublist (take_sublist _ _)
 apart:=fun x u A=>by
  have h:=qf4 (qgj n)
  rw [<- xD (needP (allV n).length) (allV n),yL] at h
  exact h.2.2 x u x A rfl
 room:=by
  have E:=qkb (n:=(allV n).length)
  have C:=qjD (n:=(allV n).length)
  rw [yB,yK,xQ C]
  omega
theorem qhi {n:Nat} (u:8<=n) (A:n<=4096):SupOk (fmtSup n) where
 seq:=⟨(by decide:(0:Int)<=1),(by decide:(1:Int)<4611686018427387904)⟩
 len:=rfl
 u32:=fun x h=>by
  simp only [fmtSup,zD,zG,xX,or_false] at h
  rcases h with (rfl | rfl | rfl) | h
  ·exact qaW _
  ·exact ⟨by decide,by decide⟩
  ·exact qaW _
  ·have:=eq_of_mem_replicate h
   subst this
   exact ⟨by decide,by decide⟩
theorem qnu {D:DiskM} {n:Nat} (h:Quiet D) (hn:D.size=n) (h8:8<=n) (h4:n<=4096) :
  ∃ A,formatM D=(A,0)/\Quiet A/\A.size=n/\A.waits=[]/\Opens A (fmtSup n) ((allV n).take (needP (allV n).length)) ((allV n).drop (needP (allV n).length))/\view A 0=zs 512:=by
 have aj:D.safe.length=n:=by have:(D.safe.length:Int)=n:=hn; omega
 obtain ⟨D1,e1,q1,s1,v1⟩:=h.write (n:=0) (l:=zs 512) (by omega) (qaP _)
 obtain ⟨D2,e2,q2,s2,v2⟩:=q1.write (n:=1) (l:=zs 512) (by omega) (qaP _)
 obtain ⟨J,e3,q3,s3,w3,v3⟩:=q2.sync
 have C:J.size=n:=by omega
 have K:J.safe.length=n:=by have:(J.safe.length:Int)=n:=C; omega
 have u:=qkm (n:=n)
 rw [<- C] at u
 obtain ⟨O,e4,q4,s4,w4,l4,v4⟩:=q3.spread u
 have Q:O.size=n:=by omega
 have R:O.safe.length=n:=by have:(O.safe.length:Int)=n:=Q; omega
 obtain ⟨U,e5,q5,s5,w5,p5,V⟩:=q4.sealOk (qhi h8 h4) (by omega)
 have E:(fmtSup n).1%2=1:=rfl
 rw [E] at p5 V
 have G:=u.pgs
 have z0:view U 0=zs 512:=by
  rw [V 0 (by decide) (by decide),v4 0 (by decide) (fun hm=>by have:=G 0 hm; omega),v3 0 (by decide),v2,if_neg (by decide),v1,if_pos rfl]
 refine ⟨U,?_,q5,by omega,w5,?_,z0⟩
 ·rw [formatM,e1,andThen_ok,e2,andThen_ok,e3,andThen_ok,K,e4,andThen_ok,R,e5]
 ·have aB:1<=needP (allV n).length:=by
   have:=qkb (n:=(allV n).length)
   rw [qf2] at this ⊢
   omega
  refine { down:=q5.down,size:=by omega,newest:=?_,blocks:=?_,list:=?_,free:=?_,ok:=by rw [show U.size=J.size by omega]; exact u,listed:=fun i p hp=>?_ }
  ·have hr:=(qhi h8 h4).read
   rw [E] at hr
   rw [z0,p5,newestV,hr,if_neg (by simp),if_pos (.inl qoi)]
  ·show IntKind.wrap .u32 (n:Int)=_
   rw [qa3 _ (by omega)]; omega
  ·have:(allV n).take (needP (allV n).length)=2::((allV n).take (needP (allV n).length)).drop 1:=by
    have I:(allV n)[0]?=some 2:=by rw [qo1 (by omega)]; rfl
    obtain ⟨k,hk⟩:∃ k,needP (allV n).length=k+1:=⟨needP (allV n).length-1,by omega⟩
    rw [hk]
    cases hA:allV n with
    | nil=>rw [hA] at I; cases I
    | cons a r=>rw [hA] at I; simp at I; subst I; rfl
   rw [this]
   rfl
  ·show IntKind.wrap .u32 _=_
   have:=qjD (n:=(allV n).length)
   rw [yB,qa3 _ (by rw [qf2] at *; omega)]
   omega
  ·have:=G p (yE hp)
   rw [V p (by omega) (by omega)]
   exact l4 i p hp
theorem qpA (n:Nat):Quiet (newM n):=⟨rfl,rfl,fun x h=>by cases h⟩
theorem qqw (n:Nat):(newM n).size=n:=by show ((List.replicate n Blk.zero).length:Int)=n; simp
def newestM (D:DiskM):Sup×Int:=
 if (readV D 0).2≠0 then (supZero,(readV D 0).2) else if (readV D 1).2≠0 then (supZero,(readV D 1).2) else newestV (readV D 0).1 (readV D 1).1
theorem qoF (D:DiskM):(newestM D).1.2.length=27:=by
 unfold newestM
 split
 ·rfl
 split
 ·rfl
 ·exact qi2 _ _
theorem qpE {w:World} {dbk:Nat} {FD:List Nat} {D:DiskM} {K:List Value×Int->WP} (h:DiskAt w dbk FD D) (G:D.Ok) (Q:Hv w)
  (J:∀ w',Fr [] w w'->K (supV (newestM D).1.1 (newestM D).1.2,(newestM D).2) w') :
  cW 96 [.pointer (pW dbk)] [.raw,.one .i] w K:=by
 refine qkz ?_
 unfold qgx
 refine Own.newZ (Own.start [] w) qfX fun r w1 e1 A=>?_
 refine qfM (h.frame0 A.fr) G fun s2 B2 w2 R U n2=>?_
 have A:=A.frame0 U
 refine qaa (fun u=>?_) (fun u=>?_)
 ·have u:(readV D 0).2≠0:=by simpa using u
  refine qdO ?_
  refine qb2 A 0 rfl rfl rfl fun I C=>?_
  have:=J I C
  rw [newestM,if_pos u] at this
  exact this
 have E:¬ (readV D 0).2≠0:=by simpa using u
 refine qfM (h.frame0 A.fr) G fun s3 B3 I V C n3=>?_
 have A:=A.frame0 C
 refine qaa (fun u=>?_) (fun u=>?_)
 ·have u:(readV D 1).2≠0:=by simpa using u
  refine qdO ?_
  refine qb2 A 0 rfl rfl rfl fun I C=>?_
  have:=J I C
  rw [newestM,if_neg E,if_pos u] at this
  exact this
 have O:¬ (readV D 1).2≠0:=by simpa using u
 have i0:=qbA G 0
 have i1:=qbA G 1
 refine qqh ((R.frame0 C).rds qat (S:=[]) (by simp)) (V.rds qat (S:=[]) (by simp)) (Q.frame0 A.fr) i0.1 i1.1 (by omega) (by omega) fun w4 f4=>?_
 refine qb2 (A.frame0 f4) 0 rfl rfl (qi2 _ _) fun w5 f5=>?_
 have:=J w5 f5
 rw [newestM,if_neg E,if_neg O] at this
 exact this
theorem qmM (D:DiskM):openM D=if (newestM D).2≠0 then (none,(newestM D).2) else if (newestM D).1.2.getD 0 0≠D.safe.length then (none,2) else
  match loadM D (newestM D).1 with | none=>(none,2) | some x=>(some (begunM (newestM D).1 x.1 x.2 1 false x.2),0):=by
 unfold openM newestM
 by_cases h0:(readV D 0).2≠0
 ·rw [if_pos h0,if_pos h0]; exact (if_pos h0).symm
 ·rw [if_neg h0,if_neg h0]
  by_cases h1:(readV D 1).2≠0
  ·rw [if_pos h1,if_pos h1]; exact (if_pos h1).symm
  ·rw [if_neg h1,if_neg h1] <;> rfl
theorem pgZ:(Tryz.prog.info? PGT).bind (·.zero)=some (.agg (pgRaw none supZero ⟨none,0,0⟩ ⟨none,0,0⟩ 0 false (workV none none none (zs 24)))):=by kernel_rfl
theorem qsa {d:Option Addr} {q:Int} {t:List Int} (h:t.length=27) (w:World) :
  (Instr.build PGT #[(0,.pointer d),(1,.agg (supV q t).toArray)]).run Tryz.prog w=.ok (.agg (pgRaw d (q,t) ⟨none,0,0⟩ ⟨none,0,0⟩ 0 false (workV none none none (zs 24)))) w:=by
 refine qhN (parts:=[(0,.pointer d),(1,.agg (supV q t).toArray)]) (offs:=#[(0,1),(1,28),(29,1),(30,1),(31,1),(32,1),(33,27)]) pgZ (by kernel_rfl) (fun w=>by kernel_rfl) ?_ w
 have u:(Value.agg (supV q t).toArray).cells.size=28:=qhz h
 rw [qa9 (o:=0) (s:=1) rfl rfl (zO rfl),qa9 (o:=1) (s:=28) rfl u (zO rfl)]
 show some _=_
 congr 1
 have C:splice (Value.agg (pgRaw none supZero ⟨none,0,0⟩ ⟨none,0,0⟩ 0 false (workV none none none (zs 24)))).cells 0 (Value.pointer d).cells.toList=pgRaw d supZero ⟨none,0,0⟩ ⟨none,0,0⟩ 0 false (workV none none none (zs 24)):=rfl
 rw [C]
 have:=qbD (A:=[Value.pointer d]) (X:=supV 0 (zs 27)) (Y:=supV q t) (Z:=[.slice none 0 0,.slice none 0 0,.i 0,.bool false]++workV none none none (zs 24)) (by rw [qaJ h]; rfl)
 refine Eq.trans ?_ (this.trans ?_)
 ·show splice (pgRaw d supZero ⟨none,0,0⟩ ⟨none,0,0⟩ 0 false (workV none none none (zs 24))) 1 (supV q t)=_
  congr 1
 ·simp [pgRaw]
theorem qjT (place:Int) (l:List Int):∀ x∈(readSV place l).1.2,U32 x:=by
 have h:∀ x∈supZero.2,U32 x:=fun x u=>by
  have:=eq_of_mem_replicate (show x∈List.replicate 27 (0:Int) from u)
  subst this
  exact ⟨by decide,by decide⟩
 unfold readSV
 split
 ·exact h
 split
 ·exact h
 split
 ·exact h
 ·intro x u
  obtain ⟨i,_,rfl⟩:=mem_map.1 u
  exact qhx
theorem qov (D:DiskM):∀ x∈(newestM D).1.2,U32 x:=by
 have h:∀ x∈supZero.2,U32 x:=fun x u=>by
  have:=eq_of_mem_replicate (show x∈List.replicate 27 (0:Int) from u)
  subst this
  exact ⟨by decide,by decide⟩
 unfold newestM
 split
 ·exact h
 split
 ·exact h
 unfold newestV
 split
 ·exact h
 split
 ·exact qjT _ _
 ·exact qjT _ _
theorem qsm {l:List Int} (h:∀ x∈l,U32 x) (n:Nat):U32 (l.getD n 0):=by
 rw [yQ]
 cases u:l[n]? with
 | none=>exact ⟨by decide,by decide⟩
 | some x=>exact h x (yE u)
theorem qqM {w:World} {dbk:Nat} {FD:List Nat} {D:DiskM} {K:Option Addr×Int->WP} (X:List Nat) (aq:∀ b∈X,b<w.heap.size) (h:DiskAt w dbk FD D) (hD:D.Ok) (hv:Hv w)
  (aj:(openM D).1=none->∀ w',Fr [] w w'->K (none,(openM D).2) w')
  (hk:∀ pb F M w',openM D=(some M,0)->PagerAt w' X pb (pW dbk) F M->Fr [] w w'->(∀ b∈F,w.heap.size<=b)->K (pW pb,0) w') :
  cW 56 [.pointer (pW dbk)] [.one .ptr,.one .i] w K:=by
 refine qmD ?_
 unfold qja
 refine qpE h hD hv fun w1 f1=>?_
 have O:=qoF D
 have hu:=qsm (qov D)
 have A:=qmM D
 generalize hs:newestM D=sm at O hu A
 obtain ⟨sup,e⟩:=sm
 simp only at O hu A
 refine Own.newZ ((Own.start [] w).frame0 f1) qfX fun r w2 e2 ho=>?_
 refine qhR ho 0 rfl rfl O fun w3 ho=>?_
 refine qaa (fun Q=>?_) (fun Q=>?_)
 ·have Q:e≠0:=by simpa using Q
  rw [if_pos Q] at A
  have:=aj (by rw [A]) w3 ho.fr
  rw [A] at this
  exact this
 have av:¬ e≠0:=by simpa using Q
 rw [if_neg av] at A
 refine qij (ho.at (i:=0) rfl) O ?_
 refine qbu (ts:=[Ty1.raw]) (pgRaw (pW dbk) (sup.1,sup.2) ⟨none,0,0⟩ ⟨none,0,0⟩ 0 false (workV none none none (zs 24))).toList (qsa O w3) ?_
 refine Own.new' ho fun pb R e4 f4 ah=>?_
 have J:=ah.fr
 have ak:=h.frame0 J
 have al:∀ b∈FD,b<R.heap.size/\b≠pb:=fun b E=>by
  have h1:=h.lt b E
  have:=J.size
  have:=ho.fr.size
  constructor <;> omega
 have ai:∀ b∈X,b<R.heap.size/\b≠pb:=fun b E=>by
  have h1:=aq b E
  have:=J.size
  have:=ho.fr.size
  constructor <;> omega
 have ax:=hD.safe
 have U:R.heap[pb]?=some (.cells (pgRaw (pW dbk) sup ⟨none,0,0⟩ ⟨none,0,0⟩ 0 false (workV none none none (zs 24))) PGT (0,0)):=ah.at (i:=0) rfl
 have af:R.heap[r]?=some (.cells (supV sup.1 sup.2).toArray 121 (0,0)):=ah.at (i:=1) rfl
 have ab:w.heap.size<=pb:=by have:=ho.fr.size; omega
 have ay:pb≠HG:=by have:=hv.lt; omega
 refine qag (fun b w'=>(b=true/\(openM D).1=none/\(openM D).2=2/\Fr [] w w')\/(b=false/\∃ sl sn G C,openM D=(some (begunM sup G C 1 false C),0)/\Own [pb] R w' [(pb,.cells (pgRaw (pW dbk) sup sl sn 0 false (workV none none none (zs 24))) PGT (0,0))]/\Rd (X++[pb]) w' sl G/\Rd (X++[pb]) w' sn C/\C.Pairwise (· < ·)/\C.length<=100000)) ?_ ?_
 ·refine qaj (w:=R.drew) (c:=.u) af (sup.2.getD 0 0) (qfe 0 (by omega)) ?_
  refine qhS (ak.frame0 (Fr.refl [] R).drew) ?_
  refine qah (by show _=_; rw [qaf (w:=R.drew) af]; exact qfe 0 (by omega)) ?_
  rw [qa3 (D.safe.length:Int) (by omega)]
  refine qaa (fun Q=>?_) (fun Q=>?_)
  ·have Q:sup.2.getD 0 0≠(D.safe.length:Int):=by
    intro h; rw [h] at Q; simp at Q
   rw [if_pos Q] at A
   exact .inl ⟨rfl,by rw [A],by rw [A],J.drew⟩
  have Q:sup.2.getD 0 0=(D.safe.length:Int):=by
   by_cases h:sup.2.getD 0 0=(D.safe.length:Int)
   ·exact h
   ·rw [show ((sup.2.getD 0 0==(D.safe.length:Int))=false) by rw [zR]; exact h] at Q; cases Q
  rw [if_neg (by rw [Q]; simp)] at A
  have ac:Fr [] R R.drew:=(Fr.refl [] R).drew
  refine qs9 (pb:=pb) (D:=D) (sup:=sup) (FD:=FD) (w:=R.drew) U O (qdi (by rfl)) (ak.frame0 ac) hD ((hv.frame0 J).frame0 ac) (fun E=>(al pb E).2 rfl) ay (by omega) (hu 1) (hu 2) (fun hl w5 f5=>?_) (fun sl sn G C w5 hl I am=>?_)
  ·rw [hl] at A
   refine .inl ⟨rfl,by rw [A],by rw [A],(J.trans ac).trans' f5 fun b E=>by simp at E; subst E; exact .inr ab⟩
  ·rw [hl] at A
   have V:namedB (sup.2.getD 0 0) G 0 C=true:=by
    unfold loadM at hl
    split at hl
    ·cases hl
    ·rename_i x hx
     split at hl
     ·rename_i hh
      cases hl
      exact hh.1
     ·cases hl
   have V:=(qf5 _ _ _ _).1 V
   have aa:C.length<=100000:=by
    have:=qdK (n:=sup.2.getD 0 0+1) (l:=C.map (·+1)) (by
     rw [List.Nodup,pairwise_map]
     exact V.2.imp (fun h=>by omega)) (fun x hx=>by
     obtain ⟨y,hy,rfl⟩:=mem_map.1 hx
     have:=V.1 y hy
     omega)
    rcases this with h | h
    ·rw [zK] at h; omega
    ·have:=congrArg List.length h; simp at this; simp [this]
   have ag:∀ b∈X++[pb],b<R.drew.heap.size:=fun b E=>by
    rcases zD.1 E with E | E
    ·exact (ai b E).1
    ·rw [zE.1 E]; exact qab U
   refine .inr ⟨rfl,sl,sn,G,C,A,⟨I.blk,I.nodup,(ac.mono (fun b E=>by cases E)).trans I.fr,I.own⟩,(am _ ag).1,(am _ ag).2,V.2,aa⟩
 rintro b w5 (⟨rfl,h1,h2,f5⟩ | ⟨rfl,sl,sn,G,C,aA,I,r1,r2,hp,aa⟩)
 ·refine cond_true rfl ?_
  have:=aj h1 w5 f5
  rw [h2] at this
  exact this
 ·refine cond_false rfl ?_
  have hX:∀ b∈X,b<w5.heap.size/\b≠pb:=fun b E=>⟨yC (ai b E).1 I.fr.size,(ai b E).2⟩
  refine qqH (X:=X) (I.at (i:=0) rfl) O (qdi (by rfl)) (by decide) hX r1 r2 aa fun F w6 an f6 n6=>?_
  rw [qq9 hp] at an
  refine hk pb F _ w6 aA an ((J.trans' I.fr fun b E=>by simp at E; subst E; exact .inr ab).trans' f6 fun b E=>by simp at E; subst E; exact .inr ab) fun b E=>?_
  rcases n6 b E with h | h
  ·rw [h]; exact ab
  ·exact zL (zL J.size I.fr.size) h
structure Lim (D:DiskM) (k:Nat):Prop where
 ok:D.Ok
 waits:D.waits.length<=k
 writes:D.writes<=k
theorem qoY {D:DiskM} (h:D.Ok):(actM D).1.Ok/\(actM D).1.writes=D.writes:=by
 have u:=h.fuse
 unfold actM
 split
 ·exact ⟨⟨h.at_,u,h.safe,h.waits,h.writes,h.bytesS,h.bytesW⟩,rfl⟩
 ·split
  ·exact ⟨⟨h.at_,⟨by show -1<=D.fuse-1; omega,by show D.fuse-1<=_; omega⟩,h.safe,h.waits,h.writes,h.bytesS,h.bytesW⟩,rfl⟩
  ·exact ⟨h,rfl⟩
theorem Lim.mono {D:DiskM} {k u:Nat} (h:Lim D k) (A:k<=u):Lim D u:=⟨h.ok,zL h.waits A,by have:=h.writes; omega⟩
theorem Lim.write {D:DiskM} {k:Nat} {n:Int} {l:List Int} (h:Lim D k) (J:k<1000000) (C:IsB l):Lim (writeM D n l).1 (k+1):=by
 unfold writeM
 split
 ·exact h.mono (by omega)
 split
 ·exact h.mono (by omega)
 split
 ·rename_i K O A
  have E:(addW D n ⟨l,A⟩).Ok:={
   at_:=fun x u=>by
    rcases zD.1 u with u | u
    ·exact h.ok.at_ x u
    ·simp at u; subst u; show 0<=n/\n<(D.safe.length:Int); omega
   fuse:=h.ok.fuse
   safe:=h.ok.safe
   waits:=by show (D.waits++[_]).length<=_; have:=h.waits; simp; omega
   writes:=⟨by show 0<=D.writes+1; have:=h.ok.writes; omega,by show D.writes+1<=_; have:=h.writes; omega⟩
   bytesS:=h.ok.bytesS
   bytesW:=fun x u=>by
    rcases zD.1 u with u | u
    ·exact h.ok.bytesW x u
    ·simp at u; subst u; exact C }
  obtain ⟨G,I⟩:=qoY E
  refine ⟨G,?_,?_⟩
  ·show (actM (addW D n ⟨l,A⟩)).1.waits.length<=k+1
   rw [(qdn _).2]
   show (D.waits++[_]).length<=_
   have:=h.waits
   simp; omega
  ·show (actM (addW D n ⟨l,A⟩)).1.writes<=((k+1:Nat):Int)
   rw [I]
   show D.writes+1<=_
   have:=h.writes
   omega
 ·exact h.mono (by omega)
theorem qo5:∀ (l:List (Int×Blk)) (s:List Blk),(∀ x∈l,IsB x.2.1)->(∀ b∈s,IsB b.1)->∀ b∈l.foldl laySafe s,IsB b.1
 | [],s,_,h=>h
 | x::l,s,A,h=>qo5 l (laySafe s x) (fun y C=>A y (zN _ C)) fun b u=>by
  rcases mem_or_eq_of_mem_set u with u | rfl
  ·exact h b u
  ·exact A x (by simp)
theorem Lim.sync {D:DiskM} {k:Nat} (h:Lim D k):Lim (syncM D).1 k:=by
 obtain ⟨u,C⟩:=qoY h.ok
 unfold syncM
 split
 ·exact h
 split
 ·exact ⟨u,by show (actM D).1.waits.length<=k; rw [(qdn D).2]; exact h.waits,by show (actM D).1.writes<=_; rw [C]; exact h.writes⟩
 ·refine ⟨⟨(fun x A=>by cases A),u.fuse,?_,by simp,u.writes,?_,(fun x A=>by cases A)⟩,by simp,by show (actM D).1.writes<=_; rw [C]; exact h.writes⟩
  ·show (D.waits.foldl laySafe D.safe).length<=4096
   rw [qb0]; exact h.ok.safe
  ·exact qo5 _ _ h.ok.bytesW h.ok.bytesS
theorem Lim.then {r:DiskM×Int} {f:DiskM->DiskM×Int} {k u:Nat} (h:Lim r.1 k) (A:k<=u) (C:∀ D,Lim D k->Lim (f D).1 u):Lim (andThen r f).1 u:=by
 unfold andThen
 split
 ·exact C _ h
 ·exact h.mono A
theorem Lim.writes':∀ {l:List (Int×List Int)} {D:DiskM} {k:Nat},Lim D k->k+l.length<=1000000->(∀ x∈l,IsB x.2)->Lim (writesM l D).1 (k+l.length)
 | [],D,k,h,_,_=>h
 | x::l,D,k,h,A,u=>by
  rw [yH] at A ⊢
  refine Lim.then (k:=k+1) (h.write (by omega) (u x (by simp))) (by omega) fun G C=>?_
  have:=Lim.writes' (l:=l) C (by omega) (fun y E=>u y (zN _ E))
  rw [Nat.add_right_comm] at this
  exact this
theorem qfS {D:DiskM} {n:Int} {l:List Int}:(writeM D n l).1.safe.length=D.safe.length:=by
 unfold writeM
 split
 ·rfl
 split
 ·rfl
 split
 ·show (actM _).1.safe.length=_; rw [(qdn _).1]; rfl
 ·rfl
theorem qlt {D:DiskM}:(syncM D).1.safe.length=D.safe.length:=by
 unfold syncM
 split
 ·rfl
 split
 ·show (actM _).1.safe.length=_; rw [(qdn _).1]
 ·show (D.waits.foldl laySafe D.safe).length=_; rw [qb0]
theorem ql3 {r:DiskM×Int} {f:DiskM->DiskM×Int} {n:Nat} (h:r.1.safe.length=n) (u:∀ D:DiskM,D.safe.length=n->(f D).1.safe.length=n):(andThen r f).1.safe.length=n:=by
 unfold andThen
 split
 ·exact u _ h
 ·exact h
theorem qiL:∀ {l:List (Int×List Int)} {D:DiskM},(writesM l D).1.safe.length=D.safe.length
 | [],D=>rfl
 | x::l,D=>ql3 qfS fun u h=>by rw [qiL,h]
theorem qou {D:DiskM} {a b:List Int}:(spreadM D a b).1.safe.length=D.safe.length:=by
 unfold spreadM
 split
 ·rfl
 ·exact ql3 qiL fun u h=>by rw [qlt,h]
theorem qos {numbers pages:List Int}:∀ x∈(pages.zip (bodiesV numbers pages).1).map fun x=>(x.1,sealV x.1 2 x.2),IsB x.2:=by
 intro x u
 obtain ⟨y,h,rfl⟩:=mem_map.1 u
 refine qhr (by decide) ?_
 have h:=(of_mem_zip h).2
 unfold bodiesV at h
 split at h
 ·cases h
 split at h
 ·cases h
 ·obtain ⟨i,_,A⟩:=mem_map.1 h
  rw [<- A]
  exact qmo _ _
theorem qjW {α β:Type} (a:List α) (b:List β):(a.zip b).length<=a.length:=by rw [length_zip]; exact Nat.min_le_left _ _
theorem Lim.spread {D:DiskM} {k:Nat} {numbers pages:List Int} (h:Lim D k) (C:k+pages.length<=1000000):Lim (spreadM D numbers pages).1 (k+pages.length):=by
 unfold spreadM
 split
 ·exact h.mono (by omega)
 ·have u:=qjW pages (bodiesV numbers pages).1
  refine Lim.then (k:=k+pages.length) ?_ (zM _) fun E A=>A.sync
  refine (Lim.writes' h (by rw [zK]; omega) qos).mono ?_
  rw [zK]
  omega
theorem qqc (s:Sup):IsB (superP s).2:=qhr (by decide) (qpO _ _)
theorem qmC {numbers pages:List Int} {i:Nat} {h:List (List Int)} (u:i<pages.length) (A:i<h.length):(pages.zip h).drop i=(pages[i],h[i])::(pages.zip h).drop (i+1):=by
 rw [zX (by rw [length_zip]; omega)]
 simp
theorem qqe {w:World} {dbk k:Nat} {FD:List Nat} {D:DiskM} {sn sp:Sl} {numbers pages:List Int} {K:Int->WP} (h:DiskAt w dbk FD D) (hD:Lim D k) (aS:k+pages.length<=1000000) (hv:Hv w) (hg:HG∉FD)
  (hn:Rd FD w sn numbers) (hp:Rd FD w sp pages) (ax:numbers.length<=100000) (ay:pages.length<=100000) (az:∀ x∈pages,U32 x)
  (hk:∀ F' w',DiskAt w' dbk F' (spreadM D numbers pages).1->Fr FD w w'->(∀ b∈F',b∈FD\/w.heap.size<=b)->K (spreadM D numbers pages).2 w') :
  cW 102 [.pointer (pW dbk),sn.v,sp.v] [.one .i] w K:=by
 refine qjZ ?_
 unfold qgL
 refine qpC (G:=FD) hn hp ax ay h.lt fun s1 B1 w1 b1 f1 n1=>?_
 refine qaa (fun A=>?_) (fun A=>?_)
 ·have A:(bodiesV numbers pages).2≠0:=by simpa using A
  have:=hk FD w1 (by rw [spreadM,if_pos A]; exact h.frame0 f1) (f1.mono fun b u=>by cases u) (fun b u=>.inl u)
  rw [spreadM,if_pos A] at this
  exact this
 have E:¬ (bodiesV numbers pages).2≠0:=by simpa using A
 rw [spreadM,if_neg E] at hk
 have Q:(bodiesV numbers pages).1.length=pages.length/\∀ b∈(bodiesV numbers pages).1,b.length<=500/\IsB b:=by
  unfold bodiesV at E ⊢
  split
  ·rename_i h1; rw [if_pos h1] at E; exact absurd (by decide) E
  rename_i h1; rw [if_neg h1] at E
  split
  ·rename_i h1; rw [if_pos h1] at E; exact absurd (by decide) E
  ·refine ⟨qiR _ _ _,fun b u=>?_⟩
   obtain ⟨i,_,rfl⟩:=mem_map.1 u
   rw [qew]
   have:=qg6 numbers i
   unfold chunk at this
   exact ⟨by omega,qmo _ _⟩
 generalize (bodiesV numbers pages).1=C at hk Q b1
 obtain ⟨O,q1,q2,q3⟩:=b1
 have aY:=q1.len
 have aO:=Q.1
 have aZ:=hp.1
 refine qak (fun x w'=>∃ (i j:Nat) (F':List Nat) (I:DiskM),x=i/\i<=pages.length/\DiskAt w' dbk F' I/\Lim I (k+i)/\Fr FD w w'/\Fr FD w1 w'/\(∀ b∈F',b∈FD\/w1.heap.size<=b)/\
   andThen (writesM ((pages.zip C).map fun x=>(x.1,sealV x.1 2 x.2)) D) syncM=andThen (writesM (((pages.zip C).drop i).map fun x=>(x.1,sealV x.1 2 x.2)) I) syncM) (fun x _=>((pages.length:Int)-x).toNat)
  ⟨0,0,FD,D,rfl,by omega,h.frame0 f1,hD,f1.mono (fun b u=>by cases u),.refl _ _,fun b u=>.inl u,rfl⟩ ?_
 rintro x w2 ⟨i,j,F',I,rfl,hi,ai,ad,f2,R,n2,he⟩ X hX
 have aA:=hv.frame f2 hg
 have a1:=f1.size
 refine qaa (fun A=>?_) (fun A=>?_)
 ·have U:i<pages.length:=by have:=zC A; dsimp only at this; omega
  have V:i<C.length:=by omega
  have ak:i<O.length:=by omega
  have aB:Rds encS 1 FD w1 s1 O:=q1.rds qnm (fun b u hm=>by have:=h.lt b hm; have:=n1 b u; omega)
  have al:Rds encS 1 FD w2 s1 O:=aB.frame R (fun b u=>.inl u)
  have am:Rd FD w2 sp pages:=hp.frame f2 (fun b u=>.inl u)
  refine Rds.get (y:=O[i]) al i rfl (zA ak) rfl ?_
  refine Rd.at am i rfl (zA U) ?_
  have an:RdB FD w1 O[i] C[i]:=(q3 i _ _ (zA ak) (zA V)).weak fun b u=>.inl (zH _ u)
  have ae:RdB FD w2 O[i] C[i]:=an.frame R (fun b u=>.inl u)
  have aC:=(Q.2 _ (zW V)).1
  have a3:=az _ (zW U)
  refine qph ae aA (by omega) (fun h=>by omega) fun _ b3 T3 w3 c3 f3 n3=>?_
  refine Rd.at (am.frame0 f3) i rfl (zA U) ?_
  rw [wi' pages[i] (by omega)]
  have aa:=qdb (number:=pages[i]) (kind:=2) aC
  refine qlI (S:=[]) (ai.frame0 f3) ad.ok (qce (o:=0) (n:=512) c3 (by rw [aa]; exact zM _) (zM _) (by simp)) fun F4 w4 d4 f4 n4=>?_
  rw [xE,zS (by rw [aa]; exact zM _)] at d4 ⊢
  have J:∀ b∈F',b∈FD\/w.heap.size<=b:=fun b u=>by
   rcases n2 b u with h | h
   ·exact .inl h
   ·exact .inr (by omega)
  have a6:w2.heap.size<=w3.heap.size:=f3.size
  have a7:=R.size
  have ao:Fr FD w w4:=(f2.trans' f3 (by simp)).trans' f4 J
  have aH:Fr FD w1 w4:=(R.trans' f3 (by simp)).trans' f4 n2
  have ap:∀ b∈F4,b∈FD\/w1.heap.size<=b:=fun b u=>by
   rcases n4 b u with h | h
   ·exact n2 b h
   ·exact .inr (by omega)
  rw [qmC U V (numbers:=numbers),xN,writesM] at he
  refine qaa (fun A=>?_) (fun A=>?_)
  ·have A:(writeM I pages[i] (sealV pages[i] 2 C[i])).2≠0:=by simpa using A
   have aI:andThen (writesM ((pages.zip C).map fun x=>(x.1,sealV x.1 2 x.2)) D) syncM=writeM I pages[i] (sealV pages[i] 2 C[i]):=by
    rw [he]
    show andThen (andThen (writeM I pages[i] (sealV pages[i] 2 C[i])) _) syncM=_
    rw [show ∀ f,andThen (writeM I pages[i] (sealV pages[i] 2 C[i])) f=writeM I pages[i] (sealV pages[i] 2 C[i]) from fun f=>if_neg A]
    exact if_neg A
   rw [aI] at hk
   exact hk F4 w4 d4 ao (fun b u=>by
    rcases ap b u with h | h
    ·exact .inl h
    ·exact .inr (by omega))
  ·have A:(writeM I pages[i] (sealV pages[i] 2 C[i])).2=0:=by simpa using A
   rw [wi' _ (by omega)]
   refine hX _ _ ⟨i+1,0,F4,(writeM I pages[i] (sealV pages[i] 2 C[i])).1,by simp,by omega,d4,?_,ao,aH,ap,?_⟩ (by omega)
   ·have:=ad.write (n:=pages[i]) (l:=sealV pages[i] 2 C[i]) (by omega) (qhr (by decide) (Q.2 _ (zW V)).2)
    rw [Nat.add_assoc] at this
    exact this
   ·rw [he]
    show andThen (andThen (writeM I pages[i] (sealV pages[i] 2 C[i])) _) syncM=_
    rw [show ∀ f,andThen (writeM I pages[i] (sealV pages[i] 2 C[i])) f=f (writeM I pages[i] (sealV pages[i] 2 C[i])).1 from fun f=>if_pos A]
 ·have:i=pages.length:=by have:=zB A; dsimp only at this; omega
  subst this
  have aJ:(pages.zip C).drop pages.length=[]:=vE (qjW _ _)
  rw [aJ] at he
  have aK:andThen (writesM ((pages.zip C).map fun x=>(x.1,sealV x.1 2 x.2)) D) syncM=syncM I:=he
  rw [aK] at hk
  refine qnw ai ad.ok fun F3 w3 d3 f3 n3=>?_
  have J:∀ b∈F',b∈FD\/w.heap.size<=b:=fun b u=>by
   rcases n2 b u with h | h
   ·exact .inl h
   ·exact .inr (by omega)
  exact hk F3 w3 d3 (f2.trans' f3 J) fun b u=>J b (n3 b u)
section
structure DS (dbk:Nat) (w:World) (FD:List Nat) (w':World) (F':List Nat) (D':DiskM) (k:Nat):Prop where
 at_:DiskAt w' dbk F' D'
 lim:Lim D' k
 fr:Fr FD w w'
 nw:∀ b∈F',b∈FD\/w.heap.size<=b
variable {dbk:Nat}
theorem DS.refl {w:World} {FD:List Nat} {D:DiskM} {k:Nat} (h:DiskAt w dbk FD D) (u:Lim D k):DS dbk w FD w FD D k:=⟨h,u,.refl _ _,fun b A=>.inl A⟩
theorem DS.trans {w A C:World} {FD F1 F2:List Nat} {G E:DiskM} {I k2:Nat} (h:DS dbk w FD A F1 G I) (g:DS dbk A F1 C F2 E k2):DS dbk w FD C F2 E k2:=
 ⟨g.at_,g.lim,h.fr.trans' g.fr h.nw,fun b J=>by
  rcases g.nw b J with u | u
  ·exact h.nw b u
  ·exact .inr (zL h.fr.size u)⟩
theorem DS.frame0 {w u A:World} {FD F1:List Nat} {C:DiskM} {E:Nat} (h:DS dbk w FD u F1 C E) (f:Fr [] u A):DS dbk w FD A F1 C E:=
 ⟨h.at_.frame0 f,h.lim,h.fr.trans' f (by simp),h.nw⟩
theorem DS.hv {w u:World} {FD F1:List Nat} {G:DiskM} {I:Nat} (h:DS dbk w FD u F1 G I) (A:Hv w) (C:HG∉FD):Hv u/\HG∉F1:=
 ⟨A.frame h.fr C,fun J=>by
  rcases h.nw _ J with E | E
  ·exact C E
  ·have:=A.lt; omega⟩
theorem DS.lims {w u:World} {FD F1:List Nat} {A:DiskM} {C k2:Nat} (h:DS dbk w FD u F1 A C) (E:C<=k2):DS dbk w FD u F1 A k2:=⟨h.at_,h.lim.mono E,h.fr,h.nw⟩
theorem qgZ {w u:World} {FD F1:List Nat} {D:DiskM} {k:Nat} {n:Int} {s:Sl} {l:List Int} {S:List Nat} {K:Int->WP} (h:DS dbk w FD u F1 D k) (I:k<1000000) (J:RdB S u s l) (O:IsB l)
  (Q:∀ A C,DS dbk w FD A C (writeM D n l).1 (k+1)->Fr F1 u A->(∀ b∈C,b∈F1\/u.heap.size<=b)->K (writeM D n l).2 A) :
  cW 99 [.pointer (pW dbk),.i n,s.v] [.one .i] u K:=by
 refine qlI h.at_ h.lim.ok J fun C A R E G=>?_
 exact Q A C (h.trans ⟨R,h.lim.write I O,E,G⟩) E G
theorem qnJ {w A:World} {FD F1:List Nat} {D:DiskM} {k:Nat} {K:Int->WP} (h:DS dbk w FD A F1 D k)
  (J:∀ u C,DS dbk w FD u C (syncM D).1 k->Fr F1 A u->(∀ b∈C,b∈F1\/A.heap.size<=b)->K (syncM D).2 u) :
  cW 100 [.pointer (pW dbk)] [.one .i] A K:=by
 refine qnw h.at_ h.lim.ok fun C u O G I=>?_
 exact J u C (h.trans ⟨O,h.lim.sync,G,fun b E=>.inl (I b E)⟩) G (fun b E=>.inl (I b E))
theorem qsR {w C:World} {FD F1:List Nat} {D:DiskM} {k:Nat} {s:Sup} {K:Int->WP} (h:DS dbk w FD C F1 D k) (hk:k<1000000) (hv:Hv C) (R:s.2.length=27) (hq:0<=s.1)
  (I:∀ J F2,DS dbk w FD J F2 (sealM D s).1 (k+1)->Fr F1 C J->(∀ b∈F2,b∈F1\/C.heap.size<=b)->K (sealM D s).2 J) :
  cW 103 [.pointer (pW dbk),.agg (supV s.1 s.2).toArray] [.one .i] C K:=by
 refine qmt ?_
 unfold qiH
 refine Own.new' (Own.start [] C) fun r J e2 f2 O=>?_
 have c0:(supV s.1 s.2).toArray[0]?=some (.int .u64 s.1):=rfl
 refine Own.ld O.drew 0 rfl s.1 c0 ?_
 refine qij (O.drew.at (i:=0) rfl) R ?_
 refine qrO (hv.frame0 O.drew.fr) R fun b T w3 c3 f3 n3=>?_
 have u:=O.drew.frame0 f3
 refine qah (u.cell 0 rfl c0) ?_
 have ht:=Int.tmod_eq_emod_of_nonneg (b:=2) hq
 rw [wi' (Int.tmod s.1 2) (by omega)]
 have A:(sealV (IntKind.wrap .u32 (Int.tmod s.1 2)) 1 (superB s.1 s.2)).length=512:=qdb (by rw [qbW R]; decide)
 have U:RdB [] w3 ⟨pW b,512,512⟩ (superP s).2:=by
  have:=qce (S:=[]) (o:=0) (n:=512) (cap:=512) c3 (by rw [A]; exact zM _) (zM _) (by simp)
  rw [xE,zS (Nat.le_of_eq A)] at this
  exact this
 show cW 99 [.pointer (pW dbk),.i (superP s).1,_] _ _ _
 refine qgZ (h.frame0 u.fr) hk U (qqc s) fun w4 F4 Q f4 n4=>?_
 have an:=u.fr.size
 refine qaa (fun E=>?_) (fun E=>?_)
 ·have E:(writeM D (superP s).1 (superP s).2).2≠0:=by simpa using E
  have e:sealM D s=writeM D (superP s).1 (superP s).2:=if_neg E
  rw [e] at I
  exact I w4 F4 Q ((u.fr.mono fun b G=>by cases G).trans f4) fun b G=>by
   rcases n4 b G with h | h
   ·exact .inl h
   ·exact .inr (by omega)
 ·have E:(writeM D (superP s).1 (superP s).2).2=0:=by simpa using E
  have e:sealM D s=syncM (writeM D (superP s).1 (superP s).2).1:=if_pos E
  rw [e] at I
  refine qnJ Q fun w5 F5 V f5 n5=>?_
  have g4:DS dbk C F1 w4 F4 (writeM D (superP s).1 (superP s).2).1 (k+1):=⟨Q.at_,Q.lim,(u.fr.mono (T:=F1) fun b G=>by cases G).trans f4,fun b G=>by
   rcases n4 b G with h | h
   ·exact .inl h
   ·exact .inr (by omega)⟩
  have g5:=g4.trans ⟨V.at_,V.lim,f5,n5⟩
  exact I w5 F5 V g5.fr g5.nw
theorem qpG {w u:World} {FD F1:List Nat} {D:DiskM} {k:Nat} {sn O:Sl} {numbers pages:List Int} {K:Int->WP} (h:DS dbk w FD u F1 D k) (A:k+pages.length<=1000000) (U:Hv u) (V:HG∉F1)
  (hn:Rd F1 u sn numbers) (hp:Rd F1 u O pages) (G:numbers.length<=100000) (I:pages.length<=100000) (J:∀ x∈pages,U32 x)
  (kk:∀ C E,DS dbk w FD C E (spreadM D numbers pages).1 (k+pages.length)->Fr F1 u C->(∀ b∈E,b∈F1\/u.heap.size<=b)->K (spreadM D numbers pages).2 C) :
  cW 102 [.pointer (pW dbk),sn.v,O.v] [.one .i] u K:=by
 refine qqe h.at_ h.lim A U V hn hp G I J fun E C d2 Q R=>?_
 exact kk C E (h.trans ⟨d2,h.lim.spread A,Q,R⟩) Q R
theorem qc4 {a:DiskM×Int} {f:DiskM->DiskM×Int} (h:a.2≠0):andThen a f=a:=if_neg h
theorem qdI {a:DiskM×Int} {f:DiskM->DiskM×Int} (h:a.2=0):andThen a f=f a.1:=if_pos h
theorem qpt {a b c:Int} (w:World):(Instr.build 121 #[(0,.int .u64 1),(1,.u a),(2,.u b),(3,.u c)]).run Tryz.prog w=.ok (.agg (supV 1 ([a,b,c]++zs 24)).toArray) w:=by
 obtain ⟨z,C,h⟩:=yS.1 qfX
 have A:z.cells=(supV 0 (zs 27)).toArray:=by rw [<- h]
 refine qhN (parts:=[(0,.int .u64 1),(1,.u a),(2,.u b),(3,.u c)]) (offs:=#[(0,1),(1,1),(2,1),(3,1),(4,24)]) C (by kernel_rfl) (fun w=>by kernel_rfl) ?_ w
 rw [A,qa9 (o:=0) (s:=1) rfl rfl (zO rfl),qa9 (o:=1) (s:=1) rfl rfl (zO rfl),qa9 (o:=2) (s:=1) rfl rfl (zO rfl),qa9 (o:=3) (s:=1) rfl rfl (zO rfl)]
 rfl
theorem qpn {w:World} {FD:List Nat} {D:DiskM} {k:Nat} {K:Int->WP} (h:DiskAt w dbk FD D) (hl:Lim D k) (hk:k<=900000) (h8:2<=D.safe.length) (hv:Hv w) (hg:HG∉FD)
  (A:∀ w' F',DS dbk w FD w' F' (formatM D).1 (k+5000)->K (formatM D).2 w') :
  cW 58 [.pointer (pW dbk)] [.one .i] w K:=by
 refine qjU ?_
 unfold qgu
 have ai:=hl.ok.safe
 have h0:=DS.refl h hl
 have E:(zs 512).length=512:=qaP _
 have O:∀ {S0:List Nat} {w0 w':World} {L:List (Nat×Obj)} {b:Nat} {T:TypeId},Own S0 w0 w' ((b,.cells (List.replicate (512:Int).toNat (Value.int .u8 0)).toArray T (0,0))::L)->RdB [] w' ⟨pW b,(512:Int).toNat,(512:Int).toNat⟩ (zs 512):=fun ho=>by
  have C:=ho.at (i:=0) rfl
  rw [qnS] at C
  have:=qce (S:=[]) (o:=0) (n:=512) (cap:=512) C (by rw [show (512:Int).toNat=512 from rfl,E]; exact zM _) (zM _) (by simp)
  rw [xE,zS (by rw [show (512:Int).toNat=512 from rfl,E]; exact zM _)] at this
  exact this
 refine qhd fun X hX=>?_
 refine cond_true rfl ?_
 refine Own.mk1 (Own.start [] w) (by decide) (by decide) (by decide) (by decide) fun b1 w1 e1 Q=>?_
 refine qgZ (h0.frame0 Q.fr) (by omega) (O Q) (IsB.zs 512) fun w2 F2 d2 f2 n2=>?_
 refine qaa (fun u=>?_) (fun u=>?_)
 ·have u:(writeM D 0 (zs 512)).2≠0:=by simpa using u
  have e:formatM D=writeM D 0 (zs 512):=qc4 u
  rw [e] at A
  exact A w2 F2 (d2.lims (by omega))
 have ak:(writeM D 0 (zs 512)).2=0:=by simpa using u
 rw [formatM,qdI ak] at A
 have am:=qfS (D:=D) (n:=0) (l:=zs 512)
 generalize (writeM D 0 (zs 512)).1=D2 at d2 A am
 rw [wi' (0+1) (by decide)]
 refine hX _ _ (qlV 1 rfl fun X hX=>?_)
 refine cond_true rfl ?_
 refine Own.mk1 (Own.start [] w2) (by decide) (by decide) (by decide) (by decide) fun b3 w3 e3 R=>?_
 refine qgZ (d2.frame0 R.fr) (by omega) (O R) (IsB.zs 512) fun w4 F4 d4 f4 n4=>?_
 refine qaa (fun u=>?_) (fun u=>?_)
 ·have u:(writeM D2 1 (zs 512)).2≠0:=by simpa using u
  rw [qc4 u] at A
  exact A w4 F4 (d4.lims (by omega))
 have ao:(writeM D2 1 (zs 512)).2=0:=by simpa using u
 rw [qdI ao] at A
 have ap:=qfS (D:=D2) (n:=1) (l:=zs 512)
 generalize (writeM D2 1 (zs 512)).1=D4 at d4 A ap
 rw [wi' (1+1) (by decide)]
 refine hX _ _ (qlV 2 rfl fun X hX=>?_)
 refine cond_false rfl ?_
 refine qnJ d4 fun w5 F5 U f5 n5=>?_
 refine qaa (fun u=>?_) (fun u=>?_)
 ·have u:(syncM D4).2≠0:=by simpa using u
  rw [qc4 u] at A
  exact A w5 F5 (U.lims (by omega))
 have au:(syncM D4).2=0:=by simpa using u
 rw [qdI au] at A
 have av:=qlt (D:=D4)
 generalize (syncM D4).1=V at U A av
 have aw:V.safe.length=D.safe.length:=by omega
 have al:=qf2 D.safe.length
 obtain ⟨ax,ay⟩:=U.hv hv hg
 refine qak (fun x w'=>∃ (i:Nat) (B:List Nat),x.2=((i+2:Nat):Int)/\i<=D.safe.length-2/\BufU w' x.1 ((allV D.safe.length).take i) B/\Fr [] w5 w'/\∀ b∈B,w5.heap.size<=b) (fun x _=>((D.safe.length:Int)-x.2).toNat)
  ⟨0,[],rfl,by omega,.nil _ _ _,.refl _ _,by simp⟩ ?_
 rintro ⟨s,x⟩ w6 ⟨i,B,hx,hi,C,f6,n6⟩ Y hY
 simp only at hx C
 subst hx
 have d6:=U.frame0 f6
 refine qhS d6.at_ ?_
 dsimp only
 refine qaa (fun u=>?_) (fun u=>?_)
 ·have aA:i<D.safe.length-2:=by have:=zC u; omega
  rw [qa3 ((i+2:Nat):Int) (by omega)]
  refine qtf C (by rw [yK]; omega) fun s7 B7 w7 b7 f7 n7=>?_
  rw [wi' _ (by omega)]
  refine hY _ _ ⟨i+1,B7,by simp; omega,by omega,?_,f6.trans' f7 (fun b C=>.inr (n6 b C)),fun b C=>?_⟩ (by dsimp only; omega)
  ·have e:(allV D.safe.length).take (i+1)=(allV D.safe.length).take i++[((i+2:Nat):Int)]:=by
    rw [yF (by omega)]
    congr 2
    have h1:=qo1 aA
    have h2:=zA (l:=allV D.safe.length) (i:=i) (by omega)
    rw [h2] at h1
    rw [yN h1]
    simp
   rw [e]; exact b7
  ·rcases n7 b C with h | h
   ·exact n6 b h
   ·exact zL f6.size h
 ·have aB:i=D.safe.length-2:=by have:=zB u; omega
  subst aB
  rw [zS (by omega)] at C
  have aC:=C.len
  rw [aC]
  refine qsh (by omega) ?_
  have aa:=qjD (n:=(allV D.safe.length).length)
  have ab:∀ b∈B,b∉F5:=fun b C hm=>by have:=n6 b C; have:=U.at_.lt b hm; omega
  have G:Rd F5 w6.drew s (allV D.safe.length):=(C.frame0 (Fr.refl [] w6).drew).rds qaZ ab
  refine Rds.part (k:=1) G (needP (allV D.safe.length).length) (allV D.safe.length).length rfl (by show (s.len:Int)=_; omega) aa (zM _) fun sn a2 rn _=>?_
  refine Rds.part (k:=1) G 0 (needP (allV D.safe.length).length) rfl rfl (by omega) aa fun sp a3 rp _=>?_
  rw [xZ] at rn
  rw [xE] at rp
  have aD:=d6.frame0 (Fr.refl [] w6).drew
  have aE:=(ax.frame0 f6).frame0 (Fr.refl [] w6).drew
  rw [aw] at A
  refine qpG aD (by rw [yK]; omega) aE ay rn rp (by rw [yB]; omega) (by rw [yK]; omega) (fun x hx=>by
   have:=qfR.1 (yU hx)
   constructor <;> omega) fun w7 F7 I f7 n7=>?_
  have I:=I.lims (k2:=k+2+4096) (by rw [yK]; omega)
  refine qaa (fun u=>?_) (fun u=>?_)
  ·have u:(spreadM V ((allV D.safe.length).drop (needP (allV D.safe.length).length)) ((allV D.safe.length).take (needP (allV D.safe.length).length))).2≠0:=by simpa using u
   rw [qc4 u] at A
   exact A w7 F7 (I.lims (by omega))
  have aF:(spreadM V ((allV D.safe.length).drop (needP (allV D.safe.length).length)) ((allV D.safe.length).take (needP (allV D.safe.length).length))).2=0:=by simpa using u
  rw [qdI aF] at A
  have aG:=qou (D:=V) (a:=(allV D.safe.length).drop (needP (allV D.safe.length).length)) (b:=(allV D.safe.length).take (needP (allV D.safe.length).length))
  generalize (spreadM V ((allV D.safe.length).drop (needP (allV D.safe.length).length)) ((allV D.safe.length).take (needP (allV D.safe.length).length))).1=D7 at I A aG
  have aH:D7.safe.length=D.safe.length:=by omega
  refine qhS I.at_ ?_
  rw [aH] at A ⊢
  have J:IntKind.wrap .i64 (((allV D.safe.length).length:Int)-(needP (allV D.safe.length).length:Int))=((allV D.safe.length).length:Int)-(needP (allV D.safe.length).length:Int):=wi' _ (by omega)
  rw [J]
  refine qbu (ts:=[Ty1.raw]) (supV (fmtSup D.safe.length).1 (fmtSup D.safe.length).2) (qpt w7) ?_
  refine qsR (s:=fmtSup D.safe.length) I (by omega) (I.hv hv hg).1 rfl (by show (0:Int)<=1; decide) fun w8 F8 d8 f8 n8=>?_
  exact A w8 F8 (d8.lims (by omega))
end
section
structure PgM.Wf (M:PgM):Prop where
 n4:M.sup.2.getD 0 0<=4096
 u32:∀ x∈M.sup.2,U32 x
 roots:∀ x∈M.roots,U32 x
 namedS:M.named.Pairwise (· < ·)
 named:∀ x∈M.named,2<=x/\x<M.sup.2.getD 0 0
 freeS:M.free.Pairwise (· < ·)
 defS:M.deferred.Pairwise (· < ·)
 nodup:(M.free++(M.deferred++(M.lists++M.fresh.map (·.1)))).Nodup
 range:∀ x∈M.free++(M.deferred++(M.lists++M.fresh.map (·.1))),2<=x/\x<M.sup.2.getD 0 0
 body:∀ e∈M.fresh,(0<=e.2.1/\e.2.1<256)/\e.2.2.length<=500/\IsB e.2.2
theorem quJ {l:List Int} {n:Int} (u:l.Nodup) (h:∀ x∈l,2<=x/\x<n) (A:n<=4096):l.length<=4096:=by
 rcases qdK u h with h | h
 ·omega
 ·rw [h]; simp
theorem PgM.Wf.all (M:PgM) (h:M.Wf):M.free.length+M.deferred.length+M.lists.length+M.fresh.length<=4096:=by
 have:=quJ h.nodup h.range h.n4
 simp only [zF,zK] at this
 omega
section
variable {w:World} {X:List Nat} {pb:Nat} {db:Option Addr} {F:List Nat} {M:PgM}
theorem Rds.part3 {α:Type} {enc:α->List Value} {k:Nat} {S:List Nat} {w:World} {s:Sl} {l:List α} (h:Rds enc k S w s l) {hi:Int} (b:Nat) {K:Sl->Prop} (A:hi=b) (hb:b<=l.length)
  (I:∀ G,Rds enc k S w G (l.take b)->K G):slc s none (some hi) (some hi) k K:=by
 subst A
 obtain ⟨h1,h2,C⟩:=h
 unfold slc
 refine ⟨by simp; omega,I _ ?_⟩
 simp only [xW,xV,Int.toNat_zero,zJ,Nat.zero_mul,Nat.sub_zero]
 have e:(if b=0 then s.a else s.a.map (·.add 0))=s.a:=by
  split
  ·rfl
  ·cases s.a with
   | none=>rfl
   | some a=>simp [qhb]
 rw [e]
 refine ⟨by rw [yK]; dsimp only; omega,zM _,?_⟩
 rcases C with C | ⟨J,o,O,T,Q,R,E,U,V⟩
 ·left; rw [C]; simp
 ·refine .inr ⟨J,o,O,T,Q,R,E,U,fun i x u=>?_⟩
  rw [xA] at u
  split at u
  ·exact V i x u
  ·cases u
theorem PagerAt.xlt {w:World} {X:List Nat} {pb:Nat} {db:Option Addr} {F:List Nat} {M:PgM} (h:PagerAt w X pb db F M):∀ b∈X,b<w.heap.size:=by
 obtain ⟨fb,defb,mb,sl,sn,A,C,E,rfl,u⟩:=h
 exact u.xlt
end
end
structure Flushed (D D':DiskM) (M:PgM) (pages named:List Int) (next:Sup):Prop where
 down:D'.down=false
 waits:D'.waits=[]
 listed:Listed D' named pages
 super:view D' (next.1%2)=sealV (next.1%2) 1 (superB next.1 next.2)
 fresh:∀ e∈M.fresh,view D' e.1=sealV e.1 e.2.1 e.2.2
 rest:∀ m,0<=m->m∉M.fresh.map (·.1)->m∉pages->m≠next.1%2->view D' m=view D m
theorem PgM.Wf.keysNodup {M:PgM} (h:M.Wf):(M.fresh.map (·.1)).Nodup:=h.nodup.sublist (((sublist_append_right _ _).trans (sublist_append_right _ _)).trans (sublist_append_right _ _))
def PgM.all (M:PgM):List Int:=M.free++(M.deferred++(M.lists++M.fresh.map (·.1)))
theorem qsU {s:Sup} {pages numbers:List Int} {t:Int} {C:Bool} (h:ListOk (s.2.getD 0 0) numbers pages) (E:s.2.getD 0 0<=4096) (A:∀ x∈s.2,U32 x):(begunM s pages numbers t C numbers).Wf where
 n4:=E
 u32:=A
 roots:=fun x u=>A x (yT u)
 namedS:=h.rises
 named:=h.nums
 freeS:=h.rises
 defS:=.nil
 nodup:=by
  show (numbers++([]++(pages++[]))).Nodup
  rw [xH,xG,yL]
  exact ⟨qf4 h.rises,h.nodup,fun x u y G e=>h.apart y G (e▸u)⟩
 range:=fun x u=>by
  have u:x∈numbers++([]++(pages++[])):=u
  rw [xH,xG,zD] at u
  rcases u with u | u
  ·exact h.nums x u
  ·exact h.pgs x u
 body:=fun e I=>by cases I
theorem qnh {β:Type} {n:Int} {v:β} {l:List (Int×β)} (h:n∉l.map (·.1)):setL n v l=l++[(n,v)]:=by
 rw [setL,qby.2 h]
theorem qlM {β:Type} {n:Int} {v:β} {l:List (Int×β)} (h:n∈l.map (·.1)):(setL n v l).map (·.1)=l.map (·.1):=by
 unfold setL
 cases A:look n l with
 | none=>exact absurd h (qby.1 A)
 | some q=>
  dsimp only
  rw [map_set]
  apply ext_getElem?
  intro j
  rw [List.getElem?_set]
  by_cases hj:q.1=j
  ·subst hj
   have C:=(qbd A).1
   obtain ⟨u,E⟩:=zP.1 C
   simp [u,E]
  ·rw [if_neg hj]
theorem qlW {β:Type} {n:Int} {l:List (Int×β)} (h:n∈l.map (·.1)):(l.map (·.1)).Perm (n::(delL n l).map (·.1)):=by
 unfold delL
 cases C:look n l with
 | none=>exact absurd h (qby.1 C)
 | some q=>
  dsimp only
  have E:=(qbd C).1
  obtain ⟨u,G⟩:=zP.1 E
  rw [qbh]
  have I:(l.map (·.1))[q.1]'(by simpa using u)=n:=by simp [G]
  have A:q.1<(l.map (·.1)).length:=by simpa using u
  have J:l.map (·.1)=(l.map (·.1)).take q.1++n::(l.map (·.1)).drop (q.1+1):=by
   rw [<- I,<- zX A,xD]
  rw [eraseIdx_eq_take_drop_succ]
  conv=>lhs; rw [J]
  exact perm_middle
theorem qsx {M:PgM} {n:Int}:usedV M n=true↔(2<=n/\n<M.sup.2.getD 0 0)/\n∉M.all:=by
 unfold usedV PgM.all
 simp only [yA,zT,Bool.or_eq_false_iff,decide_eq_false_iff_not,Option.isNone_iff_eq_none,qby,zD,not_or]
 constructor
 ·rintro ⟨⟨⟨⟨⟨E,G⟩,h⟩,u⟩,A⟩,C⟩
  exact ⟨⟨by omega,by omega⟩,u,A,h,C⟩
 ·rintro ⟨⟨E,G⟩,h,u,A,C⟩
  exact ⟨⟨⟨⟨⟨by omega,by omega⟩,A⟩,h⟩,u⟩,C⟩
theorem qrc {M:PgM} {n:Int} {r:List Int} {v:Int×List Int} (u:M.free=n::r) (C:M.Wf):(r++(M.deferred++(M.lists++(setL n v M.fresh).map (·.1)))).Perm M.all:=by
 have h:n∉M.fresh.map (·.1):=fun E=>by
  have A:=C.nodup
  rw [u,xI,nodup_cons] at A
  exact A.1 (zI _ (zI _ (zI _ E)))
 rw [qnh h,xM,PgM.all,u]
 show (r++(M.deferred++(M.lists++(M.fresh.map (·.1)++[n])))).Perm (n::(r++(M.deferred++(M.lists++M.fresh.map (·.1)))))
 rw [<- zV M.lists,<- zV M.deferred,<- zV r]
 exact perm_append_singleton n _
theorem qgd {M M':PgM} (h:M.Wf) (u:M'.sup=M.sup) (A:M'.named=M.named) (E:∀ x∈M'.roots,U32 x) (C:M'.all.Perm M.all) (G:M'.free.Pairwise (· < ·)) (I:M'.deferred.Pairwise (· < ·)) (J:∀ e∈M'.fresh,(0<=e.2.1/\e.2.1<256)/\e.2.2.length<=500/\IsB e.2.2):M'.Wf where
 n4:=by rw [u]; exact h.n4
 u32:=by rw [u]; exact h.u32
 roots:=E
 namedS:=by rw [A]; exact h.namedS
 named:=by rw [A,u]; exact h.named
 freeS:=G
 defS:=I
 nodup:=C.nodup_iff.2 h.nodup
 range:=fun x K=>by rw [u]; exact h.range x (C.mem_iff.1 K)
 body:=J
theorem qoK {M:PgM} {kind:Int} {body:List Int} (u:M.Wf) (E:0<=kind/\kind<256) (G:IsB body):(makeV M kind body).2.Wf/\(makeV M kind body).2.all.Perm M.all:=by
 unfold makeV
 split
 ·exact ⟨u,.refl _⟩
 split
 ·exact ⟨u,.refl _⟩
 rename_i J
 split
 ·exact ⟨u,.refl _⟩
 ·rename_i n r A
  have C:=qrc (v:=(kind,body)) A u
  refine ⟨qgd u rfl rfl u.roots C ?_ u.defS fun e I=>?_,C⟩
  ·have:=u.freeS
   rw [A,yI] at this
   exact this.2
  ·rcases qf0 I with h | h
   ·exact u.body e h
   ·rw [h]; exact ⟨E,by show body.length<=500; omega,G⟩
theorem qqv {M:PgM} {n kind:Int} {body:List Int} (u:M.Wf) (C:0<=kind/\kind<256) (E:IsB body):(putV M n kind body).2.Wf/\(putV M n kind body).2.all.Perm M.all:=by
 unfold putV
 split
 ·exact ⟨u,.refl _⟩
 split
 ·exact ⟨u,.refl _⟩
 rename_i q G
 split
 ·exact ⟨u,.refl _⟩
 ·rename_i K
  have I:n∈M.fresh.map (·.1):=mem_map.2 ⟨_,(qbd G).2,rfl⟩
  have A:({ M with fresh:=setL n (kind,body) M.fresh }:PgM).all=M.all:=by
   show M.free++(M.deferred++(M.lists++(setL n (kind,body) M.fresh).map (·.1)))=_
   rw [qlM I]; rfl
  refine ⟨qgd u rfl rfl u.roots (by rw [A]) u.freeS u.defS fun e J=>?_,by rw [A]⟩
  rcases qf0 J with h | h
  ·exact u.body e h
  ·rw [h]; exact ⟨C,by show body.length<=500; omega,E⟩
theorem qoO {M:PgM} {n:Int} (u:M.Wf):(dropV M n).2.Wf:=by
 unfold dropV
 split
 ·exact u
 split
 ·rename_i q I
  have J:n∈M.fresh.map (·.1):=mem_map.2 ⟨_,(qbd I).2,rfl⟩
  have K:=u.nodup
  have E:n∉M.free:=fun h=>by
   rw [yL] at K
   exact K.2.2 n h n (zI _ (zI _ J)) rfl
  have C:({ M with fresh:=delL n M.fresh,free:=ins n M.free }:PgM).all.Perm M.all:=by
   show (ins n M.free++(M.deferred++(M.lists++(delL n M.fresh).map (·.1)))).Perm (M.free++(M.deferred++(M.lists++M.fresh.map (·.1))))
   refine ((qcX E).append_right _).trans ?_
   have O:=qlW J
   have Q:(M.deferred++(M.lists++M.fresh.map (·.1))).Perm (n::(M.deferred++(M.lists++(delL n M.fresh).map (·.1)))):=by
    refine ((O.append_left M.lists).append_left M.deferred).trans ?_
    rw [<- zV,<- zV]
    exact perm_middle
   exact (perm_middle.symm.trans (Q.symm.append_left M.free))
  exact qgd u rfl rfl u.roots C (qcv u.freeS) u.defS fun e R=>u.body e (qny R)
 ·rename_i I
  split
  ·rename_i A
   have A:=qsx.1 A
   have G:n∉M.deferred:=fun h=>A.2 (zI _ (zH _ h))
   have C:({ M with deferred:=ins n M.deferred }:PgM).all.Perm (n::M.all):=by
    show (M.free++(ins n M.deferred++(M.lists++M.fresh.map (·.1)))).Perm (n::(M.free++(M.deferred++(M.lists++M.fresh.map (·.1)))))
    exact (((qcX G).append_right _).append_left M.free).trans perm_middle
   refine { n4:=u.n4,u32:=u.u32,roots:=u.roots,namedS:=u.namedS,named:=u.named,freeS:=u.freeS,defS:=qcv u.defS,nodup:=C.nodup_iff.2 (nodup_cons.2 ⟨A.2,u.nodup⟩),range:=fun x U=>?_,body:=u.body }
   rcases zG.1 (C.mem_iff.1 U) with rfl | h
   ·exact A.1
   ·exact u.range x h
  ·exact u
section
section
variable {db:Option Addr} {sup:Sup} {sl sn:Sl} {turn:Int} {over:Bool} {fb defb mb:Nat} {roots:List Int} {wk:List Value}
theorem qsT (u:sup.2.length=27) (A:roots.length=24):((pgCells db sup sl sn turn over fb defb mb roots).toList.drop 36).take 24=roots.map (Value.int .u32):=by
 have h:((Value.pointer db::supV sup.1 sup.2)++pgRest sl sn turn over fb defb mb).length=36:=by rw [zF,qa1 u]; rfl
 show (((Value.pointer db::supV sup.1 sup.2)++pgRest sl sn turn over fb defb mb++roots.map (Value.int .u32)).drop 36).take 24=_
 rw [<- h,drop_append_of_le_length (zM _),drop_length,xH,zS (by rw [zK,A]; exact zM _)]
end
def dbOf (dbk:Nat) (M:PgM):Option Addr:=if M.over then none else pW dbk
structure Both (w:World) (dbk pb:Nat) (FD F:List Nat) (D:DiskM) (M:PgM) (k:Nat):Prop where
 disk:DiskAt w dbk FD D
 lim:Lim D k
 pager:PagerAt w FD pb (dbOf dbk M) F M
end
def setRootM (M:PgM) (t h u A:Int):Int×PgM:=
 if M.over then (7,M) else if t<0\/t>7 then (4,M) else (0,{ M with roots:=M.roots.take (3*t.toNat)++[h,u,A]++M.roots.drop (3*t.toNat+3) })
def pagerReadM (D:DiskM) (M:PgM) (n:Int):Int×List Int×Int:=
 if M.over then (0,[],7) else match look n M.fresh with
 | some q=>(q.2.1,q.2.2,0)
 | none=>if usedV M n=false then (0,[],10) else if (readV D n).2≠0 then (0,[],(readV D n).2) else openV n (readV D n).1
theorem qe6 {D:DiskM} {M:PgM} (u:D.Ok) (A:∀ e∈M.fresh,IsB e.2.2) (n:Int):IsB (pagerReadM D M n).2.1:=by
 have h:IsB ([]:List Int):=fun x C=>nomatch C
 unfold pagerReadM
 split
 ·exact h
 split
 ·rename_i q E
  exact A _ (qbd E).2
 ·split
  ·exact h
  split
  ·exact h
  ·exact (qme (qbA u n).1 n).1
def PgM.Named (M:PgM):Prop:=(M.free++M.fresh.map (·.1)).Perm M.named
theorem qoj (s:Sup) (pages numbers:List Int) (t:Int) (h:Bool):(begunM s pages numbers t h numbers).Named:=by
 show (numbers++[]).Perm numbers
 rw [xG]
theorem qqa {M:PgM} {kd:Int} {l:List Int} (E:M.Wf) (h:M.Named):(makeV M kd l).2.Named:=by
 unfold makeV
 split
 ·exact h
 split
 ·exact h
 split
 ·exact h
 ·rename_i n r A
  have u:n∉M.fresh.map (·.1):=fun G=>by
   have C:=E.nodup
   rw [A,xI,nodup_cons] at C
   exact C.1 (zI _ (zI _ (zI _ G)))
  show (r++(setL n (kd,l) M.fresh).map (·.1)).Perm M.named
  rw [qnh u,xM,<- zV]
  refine (perm_append_singleton n _).trans ?_
  have:=h
  rw [PgM.Named,A] at this
  exact this
theorem qqZ {M:PgM} {n kd:Int} {l:List Int} (h:M.Named):(putV M n kd l).2.Named:=by
 unfold putV
 split
 ·exact h
 split
 ·exact h
 rename_i q u
 split
 ·exact h
 ·have A:n∈M.fresh.map (·.1):=mem_map.2 ⟨_,(qbd u).2,rfl⟩
  show (M.free++(setL n (kd,l) M.fresh).map (·.1)).Perm M.named
  rw [qlM A]
  exact h
theorem qpI {M:PgM} {n:Int} (E:M.Wf) (h:M.Named):(dropV M n).2.Named:=by
 unfold dropV
 split
 ·exact h
 split
 ·rename_i q G
  have A:n∈M.fresh.map (·.1):=mem_map.2 ⟨_,(qbd G).2,rfl⟩
  have C:=E.nodup
  have u:n∉M.free:=fun h=>by
   rw [yL] at C
   exact C.2.2 n h n (zI _ (zI _ A)) rfl
  show (ins n M.free++(delL n M.fresh).map (·.1)).Perm M.named
  refine (((qcX u).append_right _).trans ?_).trans h
  exact perm_middle.symm.trans ((qlW A).symm.append_left M.free)
 ·split
  ·exact h
  ·exact h
end Go.Proofs.YtmmkegapckbomaaGreatDoor
end
section
namespace Go.Proofs.YtmmkegapckbomaaGreatDoor
open Go Go.Pt List
open Classical
def lookv {β:Type} (n:Int) (l:List (Int×β)):Option β:=(look n l).map (·.2)
theorem qbi {β:Type} (n:Int) (p:Int×β) (r:List (Int×β)):lookv n (p::r)=if n=p.1 then some p.2 else lookv n r:=by
 unfold lookv
 rw [look]
 split
 ·rfl
 ·cases look n r <;> rfl
theorem qrA {β:Type} (n:Int) (v:β) (p:Int×β) (r:List (Int×β)):setL n v (p::r)=if n=p.1 then (n,v)::r else p::setL n v r:=by
 by_cases h:n=p.1
 ·rw [if_pos h]
  unfold setL
  rw [look,if_pos h]
  rfl
 ·rw [if_neg h]
  unfold setL
  rw [look,if_neg h]
  cases look n r <;> rfl
theorem qrm {β:Type} (n:Int) (p:Int×β) (r:List (Int×β)):delL n (p::r)=if n=p.1 then r else p::delL n r:=by
 by_cases h:n=p.1
 ·rw [if_pos h]
  unfold delL
  rw [look,if_pos h]
  rfl
 ·rw [if_neg h]
  unfold delL
  rw [look,if_neg h]
  cases look n r <;> rfl
theorem qhP {β:Type} (n q:Int) (v:β):∀ l:List (Int×β),lookv q (setL n v l)=if q=n then some v else lookv q l
 | []=>by
  show lookv q [(n,v)]=_
  rw [qbi]
 | p::r=>by
  rw [qrA]
  by_cases h:n=p.1
  ·rw [if_pos h,qbi,qbi,<- h]
   by_cases h2:q=n
   ·rw [if_pos h2,if_pos h2]
   ·rw [if_neg h2,if_neg h2,if_neg h2]
  ·rw [if_neg h,qbi,qhP n q v r,qbi]
   by_cases h2:q=p.1
   ·rw [if_pos h2,if_neg (fun e=>h (by rw [<- e,h2])),if_pos h2]
   ·rw [if_neg h2,if_neg h2]
theorem qfT {β:Type} {n:Int} {l:List (Int×β)}:lookv n l=none↔n∉l.map (·.1):=by
 unfold lookv
 rw [Option.map_eq_none_iff,qby]
theorem qlL {β:Type} (n q:Int):∀ l:List (Int×β),(l.map (·.1)).Nodup->lookv q (delL n l)=if q=n then none else lookv q l
 | [],_=>by
  show lookv q []=_
  split <;> rfl
 | p::r,A=>by
  have u:=nodup_cons.1 (show (p.1::r.map (·.1)).Nodup from A)
  rw [qrm]
  by_cases h:n=p.1
  ·rw [if_pos h,qbi]
   by_cases h2:q=n
   ·rw [if_pos h2,h2,h]; exact qfT.2 u.1
   ·rw [if_neg h2,if_neg (fun e=>h2 (by rw [e,h]))]
  ·rw [if_neg h,qbi,qlL n q r u.2,qbi]
   by_cases h2:q=p.1
   ·rw [if_pos h2,if_neg (fun e=>h (by rw [<- e,h2])),if_pos h2]
   ·rw [if_neg h2,if_neg h2]
theorem qrz (n:Int):∀ l:List Int,l.length<=(ins n l).length
 | []=>yW _
 | a::l=>by
  have:=qrz n l
  simp only [ins]
  split
  ·simp
  split
  ·exact zM _
  ·simp only [yH]; omega
theorem qaG {M:PgM} {n:Int}:usedV M n=true↔2<=n/\n<M.sup.2.getD 0 0/\n∉M.lists/\n∉M.free/\n∉M.deferred/\lookv n M.fresh=none:=by
 unfold usedV lookv
 rw [Option.map_eq_none_iff]
 simp only [yA,zT,Bool.or_eq_false_iff,decide_eq_false_iff_not,Option.isNone_iff_eq_none]
 constructor
 ·rintro ⟨⟨⟨⟨⟨E,G⟩,h⟩,u⟩,A⟩,C⟩
  exact ⟨by omega,by omega,h,u,A,C⟩
 ·rintro ⟨E,G,h,u,A,C⟩
  exact ⟨⟨⟨⟨⟨by omega,by omega⟩,h⟩,u⟩,A⟩,C⟩
def InUse (M:PgM) (x:Int):Prop:=x∈M.fresh.map (·.1)\/usedV M x=true
theorem fresh_look {M:PgM} {x:Int}:x∈M.fresh.map (·.1)↔∃ q,lookv x M.fresh=some q:=by
 constructor
 ·intro h
  cases e:lookv x M.fresh with
  | none=>exact absurd h (qfT.1 e)
  | some q=>exact ⟨q,rfl⟩
 ·rintro ⟨q,e⟩
  exact Classical.byContradiction fun h=>by rw [qfT.2 h] at e; cases e
theorem qmI {D:DiskM} {M:PgM} (h:M.over=false) (n:Int):pagerReadM D M n=match lookv n M.fresh with
  | some q=>(q.1,q.2,0)
  | none=>if usedV M n=false then (0,[],10) else if (readV D n).2≠0 then (0,[],(readV D n).2) else openV n (readV D n).1:=by
 unfold pagerReadM lookv
 rw [if_neg (by rw [h]; decide)]
 cases look n M.fresh <;> rfl
theorem qnI {D:DiskM} {M:PgM} (u:M.over=false) {n:Int} (h:(pagerReadM D M n).2.2=0):InUse M n:=by
 rw [qmI u] at h
 cases e:lookv n M.fresh with
 | some q=>exact .inl (fresh_look.2 ⟨q,e⟩)
 | none=>
  rw [e] at h
  dsimp only at h
  split at h
  ·cases h
  ·rename_i A; exact .inr (by simpa using A)
theorem qrC {D:DiskM} (M:PgM) (u:M.over=false) {n:Int} {q:Int×List Int} (h:lookv n M.fresh=some q):pagerReadM D M n=(q.1,q.2,0):=by rw [qmI u,h]
theorem qie {D:DiskM} {M:PgM} (M':PgM) (u:M.over=false) (h:M'.over=false) {n:Int} (A:lookv n M'.fresh=lookv n M.fresh) (C:usedV M' n=usedV M n):pagerReadM D M' n=pagerReadM D M n:=by
 rw [qmI u,qmI h,A,C]
theorem qgn {M:PgM} (M':PgM) {n:Int} (h:lookv n M'.fresh=lookv n M.fresh) (u:usedV M' n=usedV M n):InUse M' n↔InUse M n:=by
 unfold InUse
 rw [fresh_look,fresh_look,h,u]
theorem qfz {M:PgM} (u:M.Wf) {x:Int} (h:InUse M x):2<=x/\x<M.sup.2.getD 0 0:=by
 rcases h with h | h
 ·exact u.range x (by simp only [zD]; exact .inr (.inr (.inr h)))
 ·exact ⟨(qaG.1 h).1,(qaG.1 h).2.1⟩
structure Turned (D:DiskM) (M M':PgM) (q p:Int) (r:Option (Int×List Int)):Prop where
 wf:M'.Wf
 over:M'.over=false
 roots:M'.roots=M.roots
 sup:M'.sup=M.sup
 lists:M'.lists=M.lists
 named:M'.named=M.named
 Named:M.Named->M'.Named
 turn:M'.turn=M.turn
 rest:∀ x,x≠q->x≠p->pagerReadM D M' x=pagerReadM D M x
 use:∀ x,x≠q->x≠p->(InUse M' x↔InUse M x)
 old:∀ x,usedV M' x=true->usedV M x=true
 wrote:∀ y,r=some y->pagerReadM D M' q=(y.1,y.2,0)/\InUse M' q
 left:p≠q->¬ InUse M' p
section
variable {D:DiskM} {M:PgM}
theorem qoC {kd:Int} {b:List Int} {n:Int} {C:List Int} (J:M.Wf) (G:M.over=false) (hk:0<=kd/\kd<256) (hB:IsB b) (hl:b.length<=500) (I:M.free=n::C) :
  ∃ M',makeV M kd b=((n,0),M')/\Turned D M M' n n (some (kd,b))/\¬ InUse M n/\M'.free=C/\M'.deferred=M.deferred:=by
 have e:makeV M kd b=((n,0),{ M with free:=C,fresh:=setL n (kd,b) M.fresh }):=by rw [makeV,if_neg (by rw [G]; decide),if_neg (by omega),I]
 have hw:=(qoK (kind:=kd) (body:=b) J hk hB).1
 rw [e] at hw
 have K:(n::(C++(M.deferred++(M.lists++M.fresh.map (·.1))))).Nodup:=by have:=J.nodup; rw [I] at this; exact this
 have O:=nodup_cons.1 K
 have Q:n∉M.fresh.map (·.1):=fun h=>O.1 (by simp only [zD]; exact .inr (.inr (.inr h)))
 have R:¬ InUse M n:=fun h=>by
  rcases h with h | h
  ·exact Q h
  ·exact (qaG.1 h).2.2.2.1 (by rw [I]; simp)
 have u:∀ x,lookv x (setL n (kd,b) M.fresh)=if x=n then some (kd,b) else lookv x M.fresh:=fun x=>qhP n x _ _
 have E:∀ x,x≠n->usedV { M with free:=C,fresh:=setL n (kd,b) M.fresh } x=usedV M x:=fun x A=>by
  rw [Bool.eq_iff_iff,qaG,qaG]
  dsimp only
  rw [u,if_neg A,I,zG]
  constructor
  ·rintro ⟨U,V,h3,h4,h5⟩; exact ⟨U,V,h3,fun h=>h.elim A h4,h5⟩
  ·rintro ⟨U,V,h3,h4,h5⟩; exact ⟨U,V,h3,fun h=>h4 (.inr h),h5⟩
 refine ⟨_,e,⟨hw,G,rfl,rfl,rfl,rfl,fun h=>?_,rfl,fun x A _=>qie { M with free:=C,fresh:=setL n (kd,b) M.fresh } G G (by dsimp only; rw [u,if_neg A]) (E x A),fun x A _=>qgn { M with free:=C,fresh:=setL n (kd,b) M.fresh } (by dsimp only; rw [u,if_neg A]) (E x A),fun x A=>?_,fun y hy=>?_,fun h=>absurd rfl h⟩,R,rfl,rfl⟩
 ·have:=qqa (kd:=kd) (l:=b) J h
  rw [e] at this
  exact this
 ·by_cases hxn:x=n
  ·have:=(qaG.1 A).2.2.2.2.2
   dsimp only at this
   rw [u,if_pos hxn] at this
   cases this
  ·rw [E x hxn] at A; exact A
 ·cases hy
  refine ⟨?_,.inl (fresh_look.2 ⟨(kd,b),by dsimp only; rw [u,if_pos rfl]⟩)⟩
  exact qrC { M with free:=C,fresh:=setL n (kd,b) M.fresh } G (by dsimp only; rw [u,if_pos rfl])
theorem qp7 {kd:Int} {b:List Int} {n:Int} (J:M.Wf) (E:M.over=false) (K:0<=kd/\kd<256) (O:IsB b) (V:b.length<=500) (Q:n∈M.fresh.map (·.1)) :
  ∃ M',putV M n kd b=(0,M')/\Turned D M M' n n (some (kd,b))/\M'.free=M.free/\M'.deferred=M.deferred:=by
 obtain ⟨v,G⟩:=fresh_look.1 Q
 have e:putV M n kd b=(0,{ M with fresh:=setL n (kd,b) M.fresh }):=by
  unfold lookv at G
  obtain ⟨q,R,_⟩:=yS.1 G
  rw [putV,if_neg (by rw [E]; decide),R]
  dsimp only
  rw [if_neg (by omega)]
 have I:=(qqv (n:=n) (kind:=kd) (body:=b) J K O).1
 rw [e] at I
 have u:∀ x,lookv x (setL n (kd,b) M.fresh)=if x=n then some (kd,b) else lookv x M.fresh:=fun x=>qhP n x _ _
 have C:∀ x,usedV { M with fresh:=setL n (kd,b) M.fresh } x=usedV M x:=fun x=>by
  rw [Bool.eq_iff_iff,qaG,qaG]
  dsimp only
  rw [u]
  by_cases A:x=n
  ·rw [if_pos A,A,G]; simp
  ·rw [if_neg A]
 refine ⟨_,e,⟨I,E,rfl,rfl,rfl,rfl,fun h=>?_,rfl,fun x A _=>qie { M with fresh:=setL n (kd,b) M.fresh } E E (by dsimp only; rw [u,if_neg A]) (C x),fun x A _=>qgn { M with fresh:=setL n (kd,b) M.fresh } (by dsimp only; rw [u,if_neg A]) (C x),fun x A=>by rw [C x] at A; exact A,fun y U=>?_,fun h=>absurd rfl h⟩,rfl,rfl⟩
 ·have:=qqZ (n:=n) (kd:=kd) (l:=b) h
  rw [e] at this
  exact this
 ·cases U
  refine ⟨?_,.inl (fresh_look.2 ⟨(kd,b),by dsimp only; rw [u,if_pos rfl]⟩)⟩
  exact qrC { M with fresh:=setL n (kd,b) M.fresh } E (by dsimp only; rw [u,if_pos rfl])
theorem qrb {kd:Int} {b:List Int} {n:Int} (h:M.over=false) (u:n∉M.fresh.map (·.1)):putV M n kd b=(10,M):=by
 rw [putV,if_neg (by rw [h]; decide),qby.2 u]
theorem qi6 {n q:Int} (hW:M.Wf) (O:M.over=false) (hu:InUse M n) (I:n≠q) :
  ∃ M',dropV M n=(0,M')/\Turned D M M' q n none/\(pagerReadM D M' q=pagerReadM D M q)/\(InUse M' q↔InUse M q)/\M.free.length<=M'.free.length:=by
 have hw:=qoO (n:=n) hW
 by_cases hf:n∈M.fresh.map (·.1)
 ·obtain ⟨v,hv⟩:=fresh_look.1 hf
  have ae:(M.fresh.map (·.1)).Nodup:=hW.keysNodup
  have e:dropV M n=(0,{ M with fresh:=delL n M.fresh,free:=ins n M.free }):=by
   unfold lookv at hv
   obtain ⟨y,J,_⟩:=yS.1 hv
   rw [dropV,if_neg (by rw [O]; decide),J]
  rw [e] at hw
  have K:∀ x,lookv x (delL n M.fresh)=if x=n then none else lookv x M.fresh:=fun x=>qlL n x _ ae
  have C:∀ x,x≠n->usedV { M with fresh:=delL n M.fresh,free:=ins n M.free } x=usedV M x:=fun x u=>by
   rw [Bool.eq_iff_iff,qaG,qaG]
   dsimp only
   rw [K,if_neg u,qe1]
   constructor
   ·rintro ⟨Q,R,U,V,h5⟩; exact ⟨Q,R,U,fun h=>V (.inr h),h5⟩
   ·rintro ⟨Q,R,U,V,h5⟩; exact ⟨Q,R,U,fun h=>h.elim u V,h5⟩
  have E:¬ InUse { M with fresh:=delL n M.fresh,free:=ins n M.free } n:=fun h=>by
   rcases h with h | h
   ·obtain ⟨y,J⟩:=fresh_look.1 h
    dsimp only at J
    rw [K,if_pos rfl] at J
    cases J
   ·exact (qaG.1 h).2.2.2.1 (qe1.2 (.inl rfl))
  have G:∀ x,x≠n->pagerReadM D { M with fresh:=delL n M.fresh,free:=ins n M.free } x=pagerReadM D M x:=fun x u=>qie { M with fresh:=delL n M.fresh,free:=ins n M.free } O O (by dsimp only; rw [K,if_neg u]) (C x u)
  have A:∀ x,x≠n->(InUse { M with fresh:=delL n M.fresh,free:=ins n M.free } x↔InUse M x):=fun x u=>qgn { M with fresh:=delL n M.fresh,free:=ins n M.free } (by dsimp only; rw [K,if_neg u]) (C x u)
  refine ⟨_,e,⟨hw,O,rfl,rfl,rfl,rfl,fun h=>?_,rfl,fun x _ u=>G x u,fun x _ u=>A x u,fun x u=>?_,fun y J=>(nomatch J),fun _=>E⟩,G q fun e=>I e.symm,A q fun e=>I e.symm,?_⟩
  ·have:=qpI (n:=n) hW h
   rw [e] at this
   exact this
  ·by_cases hxn:x=n
   ·subst hxn; exact absurd (.inr u) E
   ·rw [C x hxn] at u; exact u
  ·exact qrz n M.free
 ·have ab:usedV M n=true:=hu.resolve_left hf
  have e:dropV M n=(0,{ M with deferred:=ins n M.deferred }):=by
   rw [dropV,if_neg (by rw [O]; decide),qby.2 hf]
   dsimp only
   rw [if_pos ab]
  rw [e] at hw
  have C:∀ x,x≠n->usedV { M with deferred:=ins n M.deferred } x=usedV M x:=fun x u=>by
   rw [Bool.eq_iff_iff,qaG,qaG]
   dsimp only
   rw [qe1]
   constructor
   ·rintro ⟨Q,R,U,V,h5,h6⟩; exact ⟨Q,R,U,V,fun h=>h5 (.inr h),h6⟩
   ·rintro ⟨Q,R,U,V,h5,h6⟩; exact ⟨Q,R,U,V,fun h=>h.elim u h5,h6⟩
  have E:¬ InUse { M with deferred:=ins n M.deferred } n:=fun h=>by
   rcases h with h | h
   ·exact hf h
   ·exact (qaG.1 h).2.2.2.2.1 (qe1.2 (.inl rfl))
  have G:∀ x,x≠n->pagerReadM D { M with deferred:=ins n M.deferred } x=pagerReadM D M x:=fun x u=>qie { M with deferred:=ins n M.deferred } O O rfl (C x u)
  have A:∀ x,x≠n->(InUse { M with deferred:=ins n M.deferred } x↔InUse M x):=fun x u=>qgn { M with deferred:=ins n M.deferred } rfl (C x u)
  refine ⟨_,e,⟨hw,O,rfl,rfl,rfl,rfl,fun h=>?_,rfl,fun x _ u=>G x u,fun x _ u=>A x u,fun x u=>?_,fun y J=>(nomatch J),fun _=>E⟩,G q fun e=>I e.symm,A q fun e=>I e.symm,zM _⟩
  ·exact h
  ·by_cases hxn:x=n
   ·subst hxn; exact absurd (.inr u) E
   ·rw [C x hxn] at u; exact u
end
noncomputable def loadN (D:DiskM) (M:PgM) (k v:Nat) (p:Int):NodeM×Int:=
 if (pagerReadM D M p).2.2≠0 then (zeroN,(pagerReadM D M p).2.2) else readNV (pagerReadM D M p).1 (pagerReadM D M p).2.1 k v
noncomputable def storeN (k v:Nat) (M:PgM) (p:Int) (n:NodeM):(Int×Int)×PgM:=
 if (writeNV n k v).2.2≠0 then ((0,2),M)
 else if p≠0/\(putV M p (writeNV n k v).1 (writeNV n k v).2.1).1≠10 then ((p,(putV M p (writeNV n k v).1 (writeNV n k v).2.1).1),(putV M p (writeNV n k v).1 (writeNV n k v).2.1).2)
 else if (makeV M (writeNV n k v).1 (writeNV n k v).2.1).1.2=0/\p≠0 then (((makeV M (writeNV n k v).1 (writeNV n k v).2.1).1.1,(dropV (makeV M (writeNV n k v).1 (writeNV n k v).2.1).2 p).1),(dropV (makeV M (writeNV n k v).1 (writeNV n k v).2.1).2 p).2)
 else makeV M (writeNV n k v).1 (writeNV n k v).2.1
structure NodeOk (n:NodeM) (k v:Nat):Prop where
 right:rightV n k v
 keys:∀ a∈n.keys,IsB a
 vals:∀ a∈n.vals,IsB a
 kids:∀ x∈n.kids,x<4294967296
theorem NodeOk.load {D:DiskM} {M:PgM} {k v:Nat} {p:Int} {n:NodeM} (h:NodeOk n k v) (u:pagerReadM D M p=(kindN n,bodyN n,0)):loadN D M k v p=(n,0):=by
 unfold loadN
 rw [u]
 exact (if_neg (fun h=>h rfl)).trans (qpw h.right h.kids)
theorem qnF {D:DiskM} {M:PgM} {k v:Nat} {p:Int} {n:NodeM} (U:M.Wf) (ho:M.over=false) (V:NodeOk n k v) (Q:p=0\/InUse M p) (hf:M.free≠[]) :
  ∃ q M',storeN k v M p n=((q,0),M')/\Turned D M M' q (if p=0 then q else p) (some (kindN n,bodyN n))/\(q=p\/¬ InUse M q)/\M.free.length<=M'.free.length+1/\(p∈M.fresh.map (·.1)->q=p/\M'.free=M.free):=by
 have hw:writeNV n k v=(kindN n,bodyN n,0):=by unfold writeNV; rw [if_pos V.right]
 have hB:=qlJ V.keys V.vals
 have hl:=(qem V.right).2
 have hk:0<=kindN n/\kindN n<256:=by unfold kindN; split <;> exact ⟨by decide,by decide⟩
 unfold storeN
 rw [hw]
 dsimp only
 rw [if_neg (fun h=>h rfl)]
 obtain ⟨q,fr,G⟩:∃ q fr,M.free=q::fr:=by
  cases e:M.free with
  | nil=>exact absurd e hf
  | cons q fr=>exact ⟨q,fr,rfl⟩
 obtain ⟨M1,e1,u,I,R,_⟩:=qoC (D:=D) U ho hk hB hl G
 rcases Q with rfl | Q
 ·rw [if_neg (fun h=>h.1 rfl),if_neg (fun h=>h.2 rfl),e1]
  refine ⟨q,M1,rfl,by rw [if_pos rfl]; exact u,.inr I,by rw [G,R]; exact zM _,fun h=>?_⟩
  have:=(qfz U (.inl h)).1
  omega
 ·have C:p≠0:=by have:=(qfz U Q).1; omega
  by_cases hfp:p∈M.fresh.map (·.1)
  ·obtain ⟨M2,e2,A,J,_⟩:=qp7 (D:=D) U ho hk hB hl hfp
   rw [e2,if_pos ⟨C,(show (0:Int)≠10 by decide)⟩]
   exact ⟨p,M2,rfl,by rw [if_neg C]; exact A,.inl rfl,by rw [J]; omega,fun _=>⟨rfl,J⟩⟩
  ·rw [qrb ho hfp,if_neg (fun h=>h.2 rfl),e1,if_pos ⟨rfl,C⟩]
   have K:p≠q:=fun e=>I (e▸Q)
   have ae:InUse M1 p:=(u.use p K K).2 Q
   obtain ⟨M2,e2,A,af,ag,J⟩:=qi6 (D:=D) u.wf u.over ae K
   dsimp only
   rw [e2]
   refine ⟨q,M2,rfl,?_,.inr I,by rw [G,yH,<- R]; omega,fun h=>absurd h hfp⟩
   rw [if_neg C]
   exact ⟨A.wf,A.over,A.roots.trans u.roots,A.sup.trans u.sup,A.lists.trans u.lists,A.named.trans u.named,fun h=>A.Named (u.Named h),A.turn.trans u.turn,fun x E O=>(A.rest x E O).trans (u.rest x E E),fun x E O=>(A.use x E O).trans (u.use x E E),fun x E=>u.old x (A.old x E),fun y hy=>by
    have:=u.wrote y hy
    exact ⟨af.trans this.1,ag.2 this.2⟩,fun h=>A.left h⟩
section
structure Grown where
 page:Int
 fresh:Bool
 key:Key
 other:Int
def zeroG:Grown:=⟨0,false,[],0⟩
def insAt {α:Type} (l:List α) (i:Nat) (x:α):List α:=l.take i++[x]++l.drop i
def sizeN (n:NodeM) (k v:Nat):Nat×Nat:=if n.leaf then (n.keys.length,(capsV k v).1) else (n.kids.length,(capsV k v).2)
def halvesN (n:NodeM) (mid:Nat):NodeM×NodeM×Key:=
 if n.leaf then ({ n with keys:=n.keys.take mid,vals:=n.vals.take mid },{ n with keys:=n.keys.drop mid,vals:=n.vals.drop mid },n.keys.getD mid [])
 else ({ n with kids:=n.kids.take mid,keys:=n.keys.take (mid-1) },{ n with kids:=n.kids.drop mid,keys:=n.keys.drop mid },n.keys.getD (mid-1) [])
noncomputable def splitN (k v:Nat) (M:PgM) (p:Int) (n:NodeM) (fresh:Bool):(Grown×Int)×PgM:=
 if (sizeN n k v).1>(sizeN n k v).2 then
  if (storeN k v M 0 (halvesN n ((sizeN n k v).1 / 2)).2.1).1.2≠0 then ((zeroG,(storeN k v M 0 (halvesN n ((sizeN n k v).1 / 2)).2.1).1.2),(storeN k v M 0 (halvesN n ((sizeN n k v).1 / 2)).2.1).2)
  else ((⟨(storeN k v (storeN k v M 0 (halvesN n ((sizeN n k v).1 / 2)).2.1).2 p (halvesN n ((sizeN n k v).1 / 2)).1).1.1,fresh,(halvesN n ((sizeN n k v).1 / 2)).2.2,(storeN k v M 0 (halvesN n ((sizeN n k v).1 / 2)).2.1).1.1⟩,
    (storeN k v (storeN k v M 0 (halvesN n ((sizeN n k v).1 / 2)).2.1).2 p (halvesN n ((sizeN n k v).1 / 2)).1).1.2),
    (storeN k v (storeN k v M 0 (halvesN n ((sizeN n k v).1 / 2)).2.1).2 p (halvesN n ((sizeN n k v).1 / 2)).1).2)
 else ((⟨(storeN k v M p n).1.1,fresh,[],0⟩,(storeN k v M p n).1.2),(storeN k v M p n).2)
def grownN (n:NodeM) (c:Nat) (g:Grown):NodeM:=
 if g.other≠0 then { n with kids:=insAt (n.kids.set c g.page) (c+1) g.other,keys:=insAt n.keys c g.key } else { n with kids:=n.kids.set c g.page }
noncomputable def putN (D:DiskM) (k v:Nat) (key val:Key):Nat->PgM->Int->(Grown×Int)×PgM
 | 0,M,_=>((zeroG,-1),M)
 | f+1,M,p=>
  if (loadN D M k v p).2≠0 then ((zeroG,(loadN D M k v p).2),M)
  else if (loadN D M k v p).1.leaf then
   if (loadN D M k v p).1.keys[placeV (loadN D M k v p).1.keys key]?=some key then splitN k v M p { (loadN D M k v p).1 with vals:=(loadN D M k v p).1.vals.set (placeV (loadN D M k v p).1.keys key) val } false
   else splitN k v M p { (loadN D M k v p).1 with keys:=insAt (loadN D M k v p).1.keys (placeV (loadN D M k v p).1.keys key) key,vals:=insAt (loadN D M k v p).1.vals (placeV (loadN D M k v p).1.keys key) val } true
  else if (putN D k v key val f M ((loadN D M k v p).1.kids.getD (kidV (loadN D M k v p).1.keys key) 0)).1.2≠0 then
   ((zeroG,(putN D k v key val f M ((loadN D M k v p).1.kids.getD (kidV (loadN D M k v p).1.keys key) 0)).1.2),(putN D k v key val f M ((loadN D M k v p).1.kids.getD (kidV (loadN D M k v p).1.keys key) 0)).2)
  else if (putN D k v key val f M ((loadN D M k v p).1.kids.getD (kidV (loadN D M k v p).1.keys key) 0)).1.1.page=(loadN D M k v p).1.kids.getD (kidV (loadN D M k v p).1.keys key) 0/\(putN D k v key val f M ((loadN D M k v p).1.kids.getD (kidV (loadN D M k v p).1.keys key) 0)).1.1.other=0 then
   ((⟨p,(putN D k v key val f M ((loadN D M k v p).1.kids.getD (kidV (loadN D M k v p).1.keys key) 0)).1.1.fresh,[],0⟩,0),(putN D k v key val f M ((loadN D M k v p).1.kids.getD (kidV (loadN D M k v p).1.keys key) 0)).2)
  else splitN k v (putN D k v key val f M ((loadN D M k v p).1.kids.getD (kidV (loadN D M k v p).1.keys key) 0)).2 p (grownN (loadN D M k v p).1 (kidV (loadN D M k v p).1.keys key) (putN D k v key val f M ((loadN D M k v p).1.kids.getD (kidV (loadN D M k v p).1.keys key) 0)).1.1) (putN D k v key val f M ((loadN D M k v p).1.kids.getD (kidV (loadN D M k v p).1.keys key) 0)).1.1.fresh
structure Seg where
 page:Int
 size:Nat
 prs:Prs
 pages:List Int
abbrev Ent:=Key×Seg
def lfOf (L:Prs):NodeM:=⟨true,L.map (·.1),L.map (·.2),[]⟩
def inOf (es:List Ent):NodeM:=⟨false,(es.map (·.1)).tail,[],es.map (·.2.page)⟩
structure SepE (es:List Ent):Prop where
 pair:es.Pairwise fun a b=>KLt a.1 b.1/\∀ x∈a.2.prs,KLt x.1 b.1
 low:∀ e∈es,∀ x∈e.2.prs,KLe e.1 x.1
def minOf (k v:Nat) (h:Nat):Nat:=if h=0 then (capsV k v).1 / 2 else (capsV k v).2 / 2
def Has (D:DiskM) (M:PgM) (k v:Nat):Nat->Seg->Prop
 | 0,s=>s.pages=[s.page]/\s.size=s.prs.length/\NodeOk (lfOf s.prs) k v/\pagerReadM D M s.page=(3,bodyN (lfOf s.prs),0)
 | h+1,s=>∃ u:List Ent,(u.map (·.1)).head?=some []/\s.size=u.length/\s.prs=u.flatMap (·.2.prs)/\s.pages=s.page::u.flatMap (·.2.pages)/\NodeOk (inOf u) k v/\pagerReadM D M s.page=(4,bodyN (inOf u),0)/\SepE u/\
   ∀ e∈u,Has D M k v h e.2/\minOf k v h<=e.2.size
theorem qe9 (x:Key):KLe [] x:=by
 unfold KLe KLt
 cases x <;> simp [cmpL]
theorem qiM {x:Key}:¬ KLt x []:=qe9 x
section
variable {D:DiskM} {M M':PgM} {k v:Nat}
theorem Has.mem:∀ {h:Nat} {s:Seg},Has D M k v h s->s.page∈s.pages
 | 0,s,u=>by rw [u.1]; simp
 | h+1,s,⟨C,_,_,_,A,_⟩=>by rw [A]; simp
theorem Has.frame:∀ {h:Nat} {s:Seg},Has D M k v h s->(∀ x∈s.pages,pagerReadM D M' x=pagerReadM D M x)->Has D M' k v h s
 | 0,s,⟨A,E,u,G⟩,C=>⟨A,E,u,by rw [C s.page (by rw [A]; simp)]; exact G⟩
 | h+1,s,⟨K,O,A,E,u,G,Q,R,J⟩,C=>⟨K,O,A,E,u,G,by rw [C s.page (by rw [u]; simp)]; exact Q,R,fun e I=>⟨(J e I).1.frame fun x U=>C x (by rw [u]; exact zN _ (yJ.2 ⟨e,I,U⟩)),(J e I).2⟩⟩
theorem Has.read:∀ {h:Nat} {s:Seg},Has D M k v h s->∀ x∈s.pages,(pagerReadM D M x).2.2=0
 | 0,s,⟨A,G,C,E⟩,x,u=>by
  rw [A] at u
  rw [zE.1 u,E]
 | h+1,s,⟨O,Q,A,G,C,E,I,R,J⟩,x,u=>by
  rw [C] at u
  rcases zG.1 u with rfl | u
  ·rw [I]
  ·obtain ⟨e,K,u⟩:=yJ.1 u
   exact (J e K).1.read x u
theorem Has.used (u:M.over=false) {h:Nat} {s:Seg} (A:Has D M k v h s):∀ x∈s.pages,InUse M x:=fun x C=>qnI u (A.read x C)
theorem rightV.leafNe {L:Prs} (h:rightV (lfOf L) k v):L≠[]:=fun e=>by
 have:=h.2.2.2
 rw [if_pos (show (lfOf L).leaf=true from rfl)] at this
 have u:=this.2.1
 rw [e] at u
 exact absurd u (by decide)
theorem rightV.innerTwo {es:List Ent} (h:rightV (inOf es) k v):2<=es.length/\es.length<=(capsV k v).2:=by
 have:=h.2.2.2
 rw [if_neg (show ¬ (inOf es).leaf=true from fun e=>nomatch e)] at this
 have u:=this.2.2.1
 have A:=this.2.2.2.1
 have e:(inOf es).kids.length=es.length:=by show (es.map _).length=_; rw [zK]
 rw [e] at u A
 exact ⟨u,A⟩
theorem Has.ne:∀ {h:Nat} {s:Seg},Has D M k v h s->s.prs≠[]
 | 0,s,⟨E,u,A,C⟩=>A.right.leafNe
 | h+1,s,⟨G,J,E,u,A,C,K,O,I⟩=>fun e=>by
  have:=C.right.innerTwo
  cases G with
  | nil=>simp at this
  | cons a r=>
   rw [u,yG] at e
   exact (I a (by simp)).1.ne (append_eq_nil_iff.1 e).1
theorem SepE.mid {A B:List Ent} {e:Ent} (h:SepE (A++e::B)):(∀ a∈A,∀ x∈a.2.prs,KLt x.1 e.1)/\(∀ b∈B,KLt e.1 b.1/\(∀ x∈e.2.prs,KLt x.1 b.1)/\∀ y∈b.2.prs,KLe b.1 y.1):=by
 have u:=pairwise_append.1 h.pair
 refine ⟨fun a E x G=>(u.2.2 a E e (by simp)).2 x G,fun b C=>?_⟩
 have:=(yI.1 u.2.1).1 b C
 exact ⟨this.1,this.2,h.low b (by simp [C])⟩
theorem SepE.sort:∀ {es:List Ent},SepE es->(∀ e∈es,SortP e.2.prs)->SortP (es.flatMap (·.2.prs))
 | [],_,_=>.nil
 | e::es,h,C=>by
  rw [yG,SortP.app]
  have E:=yI.1 h.pair
  refine ⟨C e (by simp),SepE.sort ⟨E.2,fun e u=>h.low e (zN _ u)⟩ fun e u=>C e (zN _ u),fun x I y A=>?_⟩
  obtain ⟨b,G,A⟩:=yJ.1 A
  exact qa5 ((E.1 b G).2 x I) (h.low b (zN _ G) y A)
theorem Has.sort:∀ {h:Nat} {s:Seg},Has D M k v h s->SortP s.prs
 | 0,s,⟨C,u,A,E⟩=>A.right.2.2.1
 | h+1,s,⟨K,O,C,u,A,E,Q,G,I⟩=>by
  rw [u]
  exact G.sort fun e J=>(I e J).1.sort
def PrsOk (k v:Nat) (L:Prs):Prop:=∀ x∈L,x.1.length=k/\x.2.length=v/\IsB x.1/\IsB x.2
theorem Has.prsOk:∀ {h:Nat} {s:Seg},Has D M k v h s->PrsOk k v s.prs
 | 0,s,⟨E,C,A,G⟩=>fun x u=>⟨A.right.1 x.1 (zY u),A.right.2.1 x.2 (zY u),A.keys x.1 (zY u),A.vals x.2 (zY u)⟩
 | h+1,s,⟨K,O,E,C,A,G,Q,R,I⟩=>fun x u=>by
  rw [C] at u
  obtain ⟨e,J,u⟩:=yJ.1 u
  exact (I e J).1.prsOk x u
theorem qe4 {L:Prs} (A:PrsOk k v L) (C:SortP L) (E:1<=L.length) (G:L.length<=(capsV k v).1):NodeOk (lfOf L) k v:=by
 refine ⟨⟨fun a u=>?_,fun a u=>?_,C,?_⟩,fun a u=>?_,fun a u=>?_,fun x h=>nomatch h⟩
 ·obtain ⟨x,h,rfl⟩:=mem_map.1 u; exact (A x h).1
 ·obtain ⟨x,h,rfl⟩:=mem_map.1 u; exact (A x h).2.1
 ·rw [if_pos (show (lfOf L).leaf=true from rfl)]
  refine ⟨rfl,?_,?_,?_⟩
  ·show 1<=(L.map _).length; rw [zK]; exact E
  ·show (L.map _).length<=_; rw [zK]; exact G
  ·show (L.map _).length=(L.map _).length; rw [zK,zK]
 ·obtain ⟨x,h,rfl⟩:=mem_map.1 u; exact (A x h).2.2.1
 ·obtain ⟨x,h,rfl⟩:=mem_map.1 u; exact (A x h).2.2.2
theorem qt7 {es:List Ent} (C:∀ a∈(es.map (·.1)).tail,a.length=k/\IsB a) (G:Rising (es.map (·.1)).tail) (I:2<=es.length) (J:es.length<=(capsV k v).2) (E:∀ e∈es,2<=e.2.page/\e.2.page<4294967296):NodeOk (inOf es) k v:=by
 refine ⟨⟨fun a h=>(C a h).1,fun a h=>(nomatch h),G,?_⟩,fun a h=>(C a h).2,fun a h=>(nomatch h),fun x u=>?_⟩
 ·rw [if_neg (show ¬ (inOf es).leaf=true from fun e=>nomatch e)]
  have e1:(inOf es).kids.length=es.length:=by show (es.map _).length=_; rw [zK]
  have K:(inOf es).keys.length=es.length-1:=by show ((es.map _).tail).length=_; rw [length_tail,zK]
  refine ⟨fun x u=>?_,rfl,by rw [e1]; exact I,by rw [e1]; exact J,by rw [e1,K]; omega⟩
  obtain ⟨e,A,rfl⟩:=mem_map.1 u
  exact (E e A).1
 ·obtain ⟨e,A,rfl⟩:=mem_map.1 u
  exact (E e A).2
theorem SepE.rising {es:List Ent} (h:SepE es):Rising (es.map (·.1)).tail:=by
 have u:(es.map (·.1)).Pairwise KLt:=pairwise_map.2 (h.pair.imp fun h=>h.1)
 exact List.Pairwise.sublist (tail_sublist _) u
structure Step (D:DiskM) (M M':PgM) (P P':List Int):Prop where
 wf:M'.Wf
 over:M'.over=false
 roots:M'.roots=M.roots
 sup:M'.sup=M.sup
 lists:M'.lists=M.lists
 named:M'.named=M.named
 Named:M.Named->M'.Named
 turn:M'.turn=M.turn
 rest:∀ x,InUse M x->x∉P->pagerReadM D M' x=pagerReadM D M x/\InUse M' x/\x∉P'
 use:∀ x,InUse M' x->x∈P'\/(InUse M x/\x∉P)
 has:∀ x∈P',InUse M' x
 new:∀ x∈P',x∈P\/¬ InUse M x
 nodup:P'.Nodup
 old:∀ x,usedV M' x=true->usedV M x=true
theorem Step.refl (A:M.Wf) (C:M.over=false) {P:List Int} (E:∀ x∈P,InUse M x) (G:P.Nodup):Step D M M P P:=
 ⟨A,C,rfl,rfl,rfl,rfl,id,rfl,fun x u I=>⟨rfl,u,I⟩,fun x u=>by by_cases h:x∈P; exact .inl h; exact .inr ⟨u,h⟩,E,fun x u=>.inl u,G,fun x u=>u⟩
theorem Step.perm {P P' Q G:List Int} (h:Step D M M' P P') (E:P.Perm Q) (u:P'.Perm G):Step D M M' Q G:=
 ⟨h.wf,h.over,h.roots,h.sup,h.lists,h.named,h.Named,h.turn,fun x A I=>by
  obtain ⟨J,K,O⟩:=h.rest x A (fun C=>I (E.mem_iff.1 C))
  exact ⟨J,K,fun C=>O (u.mem_iff.2 C)⟩,fun x A=>(h.use x A).imp (fun h=>u.mem_iff.1 h) fun h=>⟨h.1,fun C=>h.2 (E.mem_iff.2 C)⟩,fun x A=>h.has x (u.mem_iff.2 A),fun x A=>(h.new x (u.mem_iff.2 A)).imp (fun h=>E.mem_iff.1 h) id,u.nodup_iff.1 h.nodup,h.old⟩
theorem Step.beside {P P' Z:List Int} (h:Step D M M' P P') (J:∀ x∈Z,InUse M x) (O:(Z++P).Nodup):Step D M M' (Z++P) (Z++P'):=by
 have K:=yL.1 O
 have C:∀ x∈Z,x∉P:=fun x u G=>K.2.2 x u x G rfl
 refine ⟨h.wf,h.over,h.roots,h.sup,h.lists,h.named,h.Named,h.turn,fun x u G=>?_,fun x u=>?_,fun x u=>?_,fun x u=>?_,?_,h.old⟩
 ·obtain ⟨E,I,Q⟩:=h.rest x u (fun A=>G (zI _ A))
  exact ⟨E,I,fun A=>(zD.1 A).elim (fun A=>G (zH _ A)) Q⟩
 ·rcases h.use x u with E | ⟨E,I⟩
  ·exact .inl (zI _ E)
  ·by_cases hz:x∈Z
   ·exact .inl (zH _ hz)
   ·exact .inr ⟨E,fun A=>(zD.1 A).elim hz I⟩
 ·rcases zD.1 u with u | u
  ·exact (h.rest x (J x u) (C x u)).2.1
  ·exact h.has x u
 ·rcases zD.1 u with u | u
  ·exact .inl (zH _ u)
  ·exact (h.new x u).imp (fun h=>zI _ h) id
 ·rw [yL]
  exact ⟨K.1,h.nodup,fun x u y R e=>(h.rest x (J x u) (C x u)).2.2 (e▸R)⟩
theorem Step.trans {M1:PgM} {P Q R:List Int} (h:Step D M M1 P Q) (g:Step D M1 M' Q R):Step D M M' P R:=
 ⟨g.wf,g.over,g.roots.trans h.roots,g.sup.trans h.sup,g.lists.trans h.lists,g.named.trans h.named,fun x=>g.Named (h.Named x),g.turn.trans h.turn,fun x A G=>by
  obtain ⟨u,C,E⟩:=h.rest x A G
  obtain ⟨I,J,K⟩:=g.rest x C E
  exact ⟨I.trans u,J,K⟩,fun x A=>by
  rcases g.use x A with u | ⟨u,C⟩
  ·exact .inl u
  ·exact (h.use x u).elim (fun E=>absurd E C) .inr,g.has,fun x A=>by
  rcases g.new x A with u | u
  ·exact h.new x u
  ·by_cases hP:x∈P
   ·exact .inl hP
   ·by_cases hu:InUse M x
    ·exact absurd (h.rest x hu hP).2.1 u
    ·exact .inr hu,g.nodup,fun x A=>h.old x (g.old x A)⟩
theorem Turned.step {q p:Int} {r:Int×List Int} (I:M.over=false) (h:Turned D M M' q p (some r)) (J:InUse M p) (C:q=p\/¬ InUse M q):Step D M M' [p] [q]:=by
 have G:=h.wrote r rfl
 refine ⟨h.wf,h.over,h.roots,h.sup,h.lists,h.named,h.Named,h.turn,fun x E u=>?_,fun x E=>?_,fun x E=>?_,fun x E=>?_,by simp,h.old⟩
 ·have u:x≠p:=by simpa using u
  have A:x≠q:=fun e=>by
   rcases C with C | C
   ·exact u (e.trans C)
   ·exact C (e▸E)
  exact ⟨h.rest x A u,(h.use x A u).2 E,by simpa using A⟩
 ·by_cases A:x=q
  ·exact .inl (by simp [A])
  ·by_cases u:x=p
   ·subst u
    exact absurd E (h.left (fun e=>A e))
   ·exact .inr ⟨(h.use x A u).1 E,by simpa using u⟩
 ·rw [zE.1 E]; exact G.2
 ·rw [zE.1 E]
  rcases C with C | C
  ·exact .inl (by simp [C])
  ·exact .inr C
theorem Turned.fresh {q:Int} {r:Int×List Int} (G:M.over=false) (h:Turned D M M' q q (some r)) (C:¬ InUse M q):Step D M M' [] [q]:=by
 have E:=h.wrote r rfl
 refine ⟨h.wf,h.over,h.roots,h.sup,h.lists,h.named,h.Named,h.turn,fun x A _=>?_,fun x A=>?_,fun x A=>?_,fun x A=>?_,by simp,h.old⟩
 ·have u:x≠q:=fun e=>C (e▸A)
  exact ⟨h.rest x u u,(h.use x u u).2 A,by simpa using u⟩
 ·by_cases u:x=q
  ·exact .inl (by simp [u])
  ·exact .inr ⟨(h.use x u u).1 A,by simp⟩
 ·rw [zE.1 A]; exact E.2
 ·rw [zE.1 A]; exact .inr C
end
end
end Go.Proofs.YtmmkegapckbomaaGreatDoor
end
section
namespace Go.Pt
open Go List
variable {w:World} {P:Program}
theorem qoU {b:Nat} {o:Obj} (hb:w.heap[b]?=some o):Own [b] w w [(b,o)]:=⟨fun p hp=>by rw [zE.1 hp]; exact hb,by simp,.refl _ _,fun p hp=>.inl (by rw [zE.1 hp]; simp)⟩
theorem qjN {t tn ty e:TypeId} {i:TypeInfo} {z:Value} {kn kq:IntKind} {base:Option Addr} {n cap k:Nat} {olds:List Value} {K:Sl->WP}
  (ht:P.underlying t=some (.slice e)) (htn:P.underlying tn=some (.int kn)) (hi:P.info? e=some i) (hz:i.zero=some z) (hsz:i.size=1) (hzs:z.cells.size=1) (hl:olds.length=n) (hb:base=none->olds=[]) (hc:∀ a,base=some a->∀ (j:Nat) u,olds[j]?=some u->w.cell? (a.add j)=some u)
  (hk:0<k) (hg:cap<n+k) (hbytes:(n+k)*i.bytes<=140737488355328) (h63:n+k<=9223372036854775807)
  (kk:∀ b cs c w',b=w.heap.size->w'.heap[b]?=some (.cells cs e (0,0))->Fr [] w w'->n+k<=c->c<=cs.size->cs.toList.take n=olds->K ⟨some ⟨b,0,none⟩,n+k,c⟩ w') :
  Pt.run [Ty1.one Cell.slice] ((Builtin.append_ #[t,tn] ty #[.slice base n cap,.int kq k]).run P w) K:=by
 subst hl
 have hold:(Builtin.firstCells i.size olds.length (.slice base olds.length cap)).run P w.drew=.ok olds.toArray w.drew:=by
  rw [hsz]
  cases base with
  | none=>rw [hb rfl]; exact run_firstCells_none _ _ _ _ _
  | some a=>exact run_firstCells_some _ _ _ _ _ _ _ (by rw [xT]) (by simpa using hc a rfl)
 have hge:olds.length+k<=grownCap w (olds.length+k) cap e:=grownCap_ge w (olds.length+k) cap e
 have hbk:k*i.bytes<=(olds.length+k)*i.bytes:=Nat.mul_le_mul_right _ (by omega)
 refine qcF ⟨_,_,_⟩ _ (Lib.run_append_grow_zeros w t tn ty e i z kq kn ht htn hi hz base olds.length cap olds hold k hk (by omega) hg (by omega) (by omega) (growslice_fits hg hbytes)) ?_
 refine kk w.heap.size _ (grownCap w (olds.length+k) cap e) _ rfl (by rw [qcD]; exact if_pos rfl) ((Fr.refl [] w).drew.alloc _) hge ?_ ?_
 ·rw [Array.size_append,Array.size_append,qc1,qc1,hzs,size_toArray]
  generalize grownCap w (olds.length+k) cap e=G at hge ⊢
  omega
 ·rw [Array.toList_append,Array.toList_append,zV]
  exact take_left' (by simp)
theorem qoX {t tx ty e:TypeId} {i:TypeInfo} {b n cap m:Nat} {cs:Array Value} {T:TypeId} {news:List Value} {x:Value} {K:Sl->WP}
  (hb:w.heap[b]?=some (.cells cs T (0,0))) (ht:P.underlying t=some (.slice e)) (hi:P.info? e=some i) (hsz:i.size=1) (hs:Src P 1 tx x m news w) (hroom:n+m<=cap) (hcs:cap<=cs.size)
  (kk:∀ w',w'.heap[b]?=some (.cells (splice cs n news) T (0,0))->Fr [b] w w'->K ⟨some ⟨b,0,none⟩,n+m,cap⟩ w') :
  Pt.run [Ty1.one Cell.slice] ((Builtin.append_ #[t,tx] ty #[.slice (some ⟨b,0,none⟩) n cap,x]).run P w) K:=by
 have hnl:=hs.newsLen
 rw [xT] at hnl
 refine qcF ⟨_,_,_⟩ _ (run_append_room_src w t tx ty e i ht hi b 0 n cap x m _ (by rw [hsz]; exact hs) hroom (fun j hj=>?_) (fun j hj=>?_)) ?_
 ·rw [hnl] at hj
  rw [hsz,qaf hb]
  have:n+j<cs.size:=by omega
  simp [this]
 ·simp [World.frozen?,hb]
 ·rw [qbv hb,hsz,xT,xR]
  exact kk _ (by rw [qay _ _ _ _ (qab hb),if_pos rfl]) (qba (qab hb) _)
theorem qdm {t t' ty el b:Nat} {cs:Array Value} {T:TypeId} {o dLen dCap:Nat} {src:Sl} {vs:List Value} {K:Int->WP} (hb:w.heap[b]?=some (.cells cs T (0,0)))
  (hu:P.underlying t=some (.slice el)) (hs:(P.info? el).map (·.size)=some 1) (hlen:vs.length=Nat.min src.len dLen) (hvs:vs≠[]->∃ a,src.a=some a/\∀ (j:Nat) v,vs[j]?=some v->w.cell? (a.add j)=some v) (h1:∀ v∈vs,v.oneCell'=true)
  (hfit:o+vs.length<=cs.size) (k:∀ w',w'.heap[b]?=some (.cells (splice cs o vs) T (0,0))->Fr [b] w w'->K vs.length w') :
  Pt.run [Ty1.one (Cell.int .i64)] ((Builtin.copy_ #[t,t'] ty #[.slice (some ⟨b,o,none⟩) dLen dCap,.slice src.a src.len src.cap]).run P w) K:=
 (qoU hb).copy1 0 rfl hu hs hlen hvs h1 hfit fun w' h'=>k w' (h'.at (i:=0) rfl) h'.fr
theorem qpj {t e ty b o n c:Nat} {cs:Array Value} {T:TypeId} {z:Value} {K:Unit->WP} (hb:w.heap[b]?=some (.cells cs T (0,0))) (ht:P.underlying t=some (.slice e)) (hz:(P.info? e).bind (·.zero)=some z) (hzc:z.cells = #[z]) (h1:z.oneCell'=true)
  (hn:0<n) (hfit:o+n<=cs.size) (k:∀ w',w'.heap[b]?=some (.cells (splice cs o (List.replicate n z)) T (0,0))->Fr [b] w w'->K () w') :
  Pt.run [] ((Builtin.clear_ #[t] ty #[.slice (some ⟨b,o,none⟩) n c]).run P w) K:=by
 refine ⟨(),_,Lib.run_clear_slice w t e ty z ht (qaH hz) hzc h1 b o n c hn (fun j hj=>?_) (fun j hj=>?_),?_⟩
 ·rw [qaf hb]; simp [show o+j<cs.size by omega]
 ·simp [World.frozen?,hb]
 ·rw [qbv hb]
  exact k _ (by rw [qay _ _ _ _ (qab hb),if_pos rfl]) (qba (qab hb) _)
theorem qq0 {cs:Array Value} {M:List Value} {i:Nat} {v:Value} (hi:i<=M.length) (hL:M.length+1<=cs.size) (hM:cs.toList.take i=M.take i):(splice (splice cs (i+1) (M.drop i)) i [v]).toList.take (M.length+1)=M.take i++[v]++M.drop i:=by
 have hl:cs.toList.length=cs.size:=Array.length_toList
 rw [qas _ _ _ (by rw [qao]; simp; omega),qas _ _ _ (by simp; omega)]
 have e0:(cs.toList.take (i+1)++(M.drop i++cs.toList.drop (i+1+(M.drop i).length))).take i=M.take i:=by
  rw [take_append_of_le_length (by simp; omega),take_take,xQ (by omega),hM]
 rw [zV (cs.toList.take (i+1)),e0]
 rw [drop_append,drop_of_length_le (l:=cs.toList.take (i+1)) (by rw [yK]; exact Nat.min_le_left _ _),xH]
 have e:(List.take (i+1) cs.toList).length=i+1:=by simp; omega
 rw [e,xL,Nat.sub_self,xE,<- zV]
 exact take_left' (by simp; omega)
theorem qrG {cs:Array Value} {M:List Value} {i:Nat} {v:Value} (hi:i<=M.length) (hL:M.length+1<=cs.size) (hM:cs.toList.take i=M.take i):(splice (splice cs i [v]) (i+1) (M.drop i)).toList.take (M.length+1)=M.take i++[v]++M.drop i:=by
 have hl:cs.toList.length=cs.size:=Array.length_toList
 rw [qas _ _ _ (by rw [qao]; simp; omega),qas _ _ _ (by simp; omega),hM]
 have e:(M.take i++[v]).length=i+1:=by simp; omega
 rw [take_append_of_le_length (l₁:=M.take i++[v]) (by rw [e]; exact zM _),zS (l:=M.take i++[v]) (by rw [e]; exact zM _)]
 exact take_left' (by simp; omega)
theorem qqA {cs:Array Value} {M:List Value} {i:Nat} {z:Value} (hi:i+1<=M.length) (hM:cs.toList.take M.length=M):(splice (splice cs i (M.drop (i+1))) (M.length-1) [z]).toList.take (M.length-1)=M.take i++M.drop (i+1):=by
 have hl:cs.toList.length=cs.size:=Array.length_toList
 have hle:M.length<=cs.size:=by
  have:=congrArg List.length hM
  rw [yK,hl] at this
  omega
 have hi':cs.toList.take i=M.take i:=by
  conv=>rhs; rw [<- hM]
  rw [take_take,xQ (by omega)]
 rw [qas _ _ _ (by rw [qao]; simp; omega),qas _ _ _ (by simp; omega),hi']
 have e:(M.take i++M.drop (i+1)).length=M.length-1:=by simp; omega
 rw [take_append_of_le_length (l₁:=M.take i++M.drop (i+1)) (by rw [e]; exact zM _),zS (l:=M.take i++M.drop (i+1)) (by rw [e]; exact zM _),zV]
 exact take_left' e
theorem qkv {tS tR e:TypeId} {i:TypeInfo} {a b oa ob la ca lb cb:Nat} {ca' cb':Array Value} {Ta Tb:TypeId} {fb:Nat×Nat} (ht:P.underlying tS=some (.slice e)) (hi:P.info? e=some i) (ha:w.heap[a]?=some (.cells ca' Ta (0,0))) (hb:w.heap[b]?=some (.cells cb' Tb fb)) (hne:a≠b) (hpos:cb'.size≠0) :
  (Extern.SlicesOverlaps.overlaps #[tS,tS] #[tR] #[.slice (some ⟨a,oa,none⟩) la ca,.slice (some ⟨b,ob,none⟩) lb cb]).run P w=.ok (.bool false) w:=
 Lib.run_overlaps_apart w tS tR e ht i.size (fun w=>by simp [sizeOf,typeInfo,hi]) ⟨a,oa,none⟩ ⟨b,ob,none⟩ la ca lb cb hne Ta Tb ca'.size cb'.size (by simp [World.shape?,ha]) (by simp [World.shape?,hb]) hpos (by simp [World.frozen?,ha]) (by simp [World.frozen?,ha])
section
variable {α:Type} {enc:α->List Value} {e:α->Value} {k:Nat}
theorem qcZ (he:∀ x,enc x=[e x]) (l:List α):l.flatMap enc=l.map e:=by
 induction l with
 | nil=>rfl
 | cons a l ih=>rw [yG,ih,he]; rfl
theorem Buf.ptr {s:Sl} {l:List α} {B:List Nat} (h:Buf enc 1 w s l B) (hl:l≠[]):∃ b cs T,B=[b]/\s.a=some ⟨b,0,none⟩/\w.heap[b]?=some (.cells cs T (0,0))/\s.len=l.length/\s.len<=s.cap/\s.cap<=cs.size/\cs.toList.take l.length=l.flatMap enc:=by
 rcases h with ⟨_,h,_⟩ | ⟨b,o,cs,T,h1,rfl,h3,h4,h5,h6,h7,h8⟩
 ·exact absurd h hl
 ·exact ⟨b,cs,T,h1,h3,h4,h5,h6,by omega,by simpa using h8⟩
theorem qmn {cs:Array Value} {M:List Value} {i:Nat} {v:Value} (hi:i<M.length) (hM:cs.toList.take M.length=M):(splice cs i [v]).toList.take M.length=M.set i v:=by
 have hl:cs.toList.length=cs.size:=Array.length_toList
 have hle:M.length<=cs.size:=by
  have:=congrArg List.length hM
  rw [yK,hl] at this
  omega
 have hi':cs.toList.take i=M.take i:=by
  conv=>rhs; rw [<- hM]
  rw [take_take,xQ (by omega)]
 have hd:(cs.toList.drop (i+1)).take (M.length-(i+1))=M.drop (i+1):=by
  conv=>rhs; rw [<- hM]
  rw [drop_take]
 rw [qas _ _ _ (by simp; omega),hi',set_eq_take_append_cons_drop,if_pos hi,zV,take_append,zS (by rw [yK]; omega)]
 have e1:M.length-(M.take i).length=(M.length-(i+1))+1:=by simp; omega
 rw [e1,singleton_append,take_succ_cons]
 simp only [xL]
 rw [hd]
theorem Buf.stAt (he:∀ x,enc x=[e x]) {s:Sl} {l:List α} {b:Nat} {i:Nat} {x:α} {v:Value} {K:WP} (h:Buf enc 1 w s l [b]) (hi:i<l.length) (hv:v=e x) (h1:v.oneCell'=true)
  (kk:∀ w',Buf enc 1 w' s (l.set i x) [b]->Fr [b] w w'->K w'):Pt.st ⟨b,i,none⟩ [v] w K:=by
 subst hv
 obtain ⟨b',cs,T,hB,h2,h3,h4,h5,h6,h7⟩:=h.ptr (fun e=>by rw [e] at hi; exact absurd hi (xY _))
 cases hB
 refine qbY h3 _ rfl (by simp [h1]) (by simp; omega) fun w' hb f=>kk w' (.inr ⟨b,0,_,T,rfl,rfl,h2,hb,by rw [xF]; exact h4,h5,by rw [qao]; omega,?_⟩) f
 have hm:=qcZ he l
 have:=qmn (cs:=cs) (M:=l.flatMap enc) (i:=i) (v:=e x) (by rw [hm,zK]; exact hi) (by rw [hm,zK,<- hm]; exact h7)
 rw [xE,xT,xF,qcZ he,map_set,<- hm]
 rw [hm,zK] at this
 rw [hm]
 exact this
theorem Buf.idxAt {s:Sl} {l:List α} {B:List Nat} {n:Nat} {i:Int} {K:Addr->Prop} (h:Buf enc 1 w s l B) (hi:i=n) (hn:n<l.length) (kk:∀ b,B=[b]->K ⟨b,n,none⟩):idx s i 1 K:=by
 obtain ⟨b,cs,T,hB,h2,h3,h4,h5,h6,h7⟩:=h.ptr (fun e=>by rw [e] at hn; exact absurd hn (xY _))
 subst hi
 refine qa0 h2 ⟨by omega,by omega⟩ ?_
 have:=kk b hB
 simpa using this
theorem Buf.one (he:∀ x,enc x=[e x]) {b n c:Nat} {cs:Array Value} {T:TypeId} {l:List α} (hb:w.heap[b]?=some (.cells cs T (0,0))) (hn:n=l.length) (hc:n<=c) (hcs:c<=cs.size) (hl:cs.toList.take l.length=l.map e):Buf enc 1 w ⟨some ⟨b,0,none⟩,n,c⟩ l [b]:=
 .inr ⟨b,0,cs,T,rfl,rfl,rfl,hb,hn,hc,by simpa using hcs,by rw [xE,xT,qcZ he]; exact hl⟩
end
end Go.Pt
end
section
namespace Go.Proofs.YtmmkegapckbomaaGreatDoor
open Go Go.Pt List
attribute [local irreducible] ld ldA ldV fld fldA newZ st new idx idxS idxA slc slcS slcP mkS chk nn call callV inv run runQ runU join loop held ext rng undefer s2a nxt ent IntKind.wrap
theorem qec {α:Type} {p:α->Bool}:∀ {l:List α} {r:Nat},r<=l.length->(∀ (i:Nat) a,i<r->l[i]?=some a->p a=true)->(∀ a,l[r]?=some a->p a=false)->(l.takeWhile p).length=r
 | [],r,h,_,_=>by simp at h; simp [h]
 | x::l,0,h,_,u=>by
  have:=u x rfl
  rw [takeWhile_cons,this]; rfl
 | x::l,r+1,h,C,u=>by
  have E:=C 0 x (Nat.succ_pos r) rfl
  have:=qec (p:=p) (l:=l) (r:=r) (by simpa using h) (fun i a G A=>C (i+1) a (by omega) (by simpa using A)) (fun a A=>u a (by simpa using A))
  rw [takeWhile_cons,E]
  simp [this]
theorem qty {l:List Key} {k:Key} {r:Nat} (A:r<=l.length) (C:∀ (i:Nat) a,i<r->l[i]?=some a->KLe a k) (E:∀ a,l[r]?=some a->KLt k a):kidV l k=r:=
 qec A (fun i a G u=>zZ (C i a G u)) fun a u=>zU fun h=>h (E a u)
theorem qq6 {l:List Key} {k:Key} {r:Nat} (u:r<=l.length) (A:∀ (i:Nat) a,i<r->l[i]?=some a->KLt a k) (C:∀ a,l[r]?=some a->KLe k a):placeV l k=r:=
 qec u (fun i a E h=>zZ (A i a E h)) fun a h=>zU (C a h)
theorem qhD {l:List Key} (h:Rising l) {i j:Nat} {a b:Key} (u:i<j) (A:l[i]?=some a) (C:l[j]?=some b):KLt a b:=by
 obtain ⟨E,rfl⟩:=zP.1 A
 obtain ⟨G,rfl⟩:=zP.1 C
 exact pairwise_iff_getElem.1 h i j E G u
abbrev NdC:=Bool×Sl×Sl×Sl
def ndV (x:NdC):Array Value:=#[.bool x.1,x.2.1.v,x.2.2.1.v,x.2.2.2.v]
def zeroX:NdC:=(false,⟨none,0,0⟩,⟨none,0,0⟩,⟨none,0,0⟩)
def NB (n:NodeM):Prop:=(∀ a∈n.keys,IsB a)/\(∀ a∈n.vals,IsB a)/\∀ x∈n.kids,U32 x
def NodeR (S:List Nat) (w:World) (x:NdC) (n:NodeM):Prop:=
 x.1=n.leaf/\NB n/\(∃ pk,RdK S w x.2.1 pk/\keyP pk=n.keys)/\(∃ pv,RdK S w x.2.2.1 pv/\keyP pv=n.vals)/\Rds encU 1 S w x.2.2.2 n.kids
def BufK (Z:List Nat) (w:World) (s:Sl) (l:List Key) (B:List Nat):Prop:=∃ pk:Kps,Buf encSl 1 w s (slsP pk) B/\keyP pk=l/\∀ p∈pk,RdB Z w p.1 p.2
def NodeB (Z:List Nat) (w:World) (x:NdC) (n:NodeM) (B:List Nat):Prop:=
 x.1=n.leaf/\NB n/\∃ Bk h u,B=Bk++(h++u)/\B.Nodup/\BufK Z w x.2.1 n.keys Bk/\BufK Z w x.2.2.1 n.vals h/\Buf encU 1 w x.2.2.2 n.kids u
theorem BufK.nil (Z:List Nat) (w:World):BufK Z w ⟨none,0,0⟩ [] []:=⟨[],.nil _ _ _,rfl,fun p h=>nomatch h⟩
theorem NodeB.zero (Z:List Nat) (w:World):NodeB Z w zeroX zeroN []:=⟨rfl,⟨fun _ h=>(nomatch h),fun _ h=>(nomatch h),fun _ h=>(nomatch h)⟩,[],[],[],rfl,nodup_nil,.nil _ _,.nil _ _,.nil _ _ _⟩
section
variable {Z Z' S:List Nat} {w w':World} {s:Sl} {l:List Key} {B:List Nat} {x:NdC} {n:NodeM}
theorem BufK.lt (h:BufK Z w s l B):∀ b∈B,b<w.heap.size:=by
 obtain ⟨pk,u,rfl,_⟩:=h
 exact u.lt
theorem BufK.frame (h:BufK Z w s l B) (f:Fr S w w') (u:∀ b∈B,b∉S) (A:∀ b∈S,b∈Z\/w.heap.size<=b) (C:∀ b∈Z',b∈Z\/w.heap.size<=b):BufK Z' w' s l B:=by
 obtain ⟨pk,E,G,I⟩:=h
 exact ⟨pk,E.frame f u,G,fun p J=>(I p J).frame (f.mono fun i K O=>(A i K).elim id fun h=>absurd O (by omega)) C⟩
theorem BufK.frame0 (h:BufK Z w s l B) (f:Fr [] w w'):BufK Z w' s l B:=h.frame f (fun _ _ h=>nomatch h) (fun _ h=>nomatch h) fun _ h=>.inl h
theorem NodeB.lt (h:NodeB Z w x n B):∀ b∈B,b<w.heap.size:=by
 obtain ⟨_,_,Bk,G,I,rfl,_,A,C,E⟩:=h
 intro b u
 rcases zD.1 u with u | u
 ·exact A.lt b u
 ·rcases zD.1 u with u | u
  ·exact C.lt b u
  ·exact E.lt b u
theorem NodeB.frame (h:NodeB Z w x n B) (f:Fr S w w') (A:∀ b∈B,b∉S) (C:∀ b∈S,b∈Z\/w.heap.size<=b) (E:∀ b∈Z',b∈Z\/w.heap.size<=b):NodeB Z' w' x n B:=by
 obtain ⟨G,u,Bk,I,J,rfl,K,O,Q,R⟩:=h
 exact ⟨G,u,Bk,I,J,rfl,K,O.frame f (fun b u=>A b (by simp [u])) C E,Q.frame f (fun b u=>A b (by simp [u])) C E,R.frame f fun b u=>A b (by simp [u])⟩
theorem NodeB.frame0 (h:NodeB Z w x n B) (f:Fr [] w w'):NodeB Z w' x n B:=h.frame f (fun _ _ h=>nomatch h) (fun _ h=>nomatch h) fun _ h=>.inl h
theorem NodeB.weak (h:NodeB Z w x n B) (u:∀ b∈Z',b∈Z\/w.heap.size<=b):NodeB Z' w x n B:=h.frame (.refl [] _) (fun _ _ h=>nomatch h) (fun _ h=>nomatch h) u
theorem BufK.rd (h:BufK Z w s l B) (u:∀ b∈B,b∉S) (A:∀ b∈S,b∈Z\/w.heap.size<=b):∃ pk,RdK S w s pk/\keyP pk=l:=by
 obtain ⟨pk,C,E,G⟩:=h
 exact ⟨pk,⟨C.rds qcl u,fun p I=>(G p I).frame (.refl _ _) A⟩,E⟩
theorem NodeB.rd (h:NodeB Z w x n B) (A:∀ b∈B,b∉S) (C:∀ b∈S,b∈Z\/w.heap.size<=b):NodeR S w x n:=by
 obtain ⟨E,u,Bk,K,O,rfl,Q,G,I,J⟩:=h
 exact ⟨E,u,G.rd (fun b u=>A b (by simp [u])) C,I.rd (fun b u=>A b (by simp [u])) C,J.rds (fun _=>rfl) fun b u=>A b (by simp [u])⟩
theorem NodeR.frame {S':List Nat} (h:NodeR S w x n) (f:Fr S w w') (u:∀ b∈S',b∈S\/w.heap.size<=b):NodeR S' w' x n:=by
 obtain ⟨A,C,⟨pk,E,G⟩,⟨pv,I,J⟩,K⟩:=h
 exact ⟨A,C,⟨pk,E.frame f u,G⟩,⟨pv,I.frame f u,J⟩,K.frame f u⟩
theorem NodeR.frame0 (h:NodeR S w x n) (f:Fr [] w w'):NodeR S w' x n:=h.frame (f.mono fun b u=>nomatch u) fun b u=>.inl u
theorem NodeR.weak {S':List Nat} (h:NodeR S w x n) (u:∀ b∈S',b∈S\/w.heap.size<=b):NodeR S' w x n:=h.frame (.refl _ _) u
end
theorem qhA:∀ {l:List Key},(∀ (i:Nat) a b,l[i]?=some a->l[i+1]?=some b->KLt a b)->Rising l
 | [],_=>.nil
 | [x],_=>pairwise_singleton _ _
 | x::y::r,h=>by
  have ih:Rising (y::r):=qhA fun i a b u C=>h (i+1) a b (by simpa using u) (by simpa using C)
  have A:KLt x y:=h 0 x y rfl rfl
  refine yI.2 ⟨fun a u=>?_,ih⟩
  rcases zG.1 u with rfl | u
  ·exact A
  ·exact qau A (qbn ih a u)
theorem qeq {α:Type} {l:List α} {i:Nat} {x y:α} (h:y∈insAt l i x):y=x\/y∈l:=by
 unfold insAt at h
 simp only [zD,zE] at h
 rcases h with (h | h) | h
 ·exact .inr (yU h)
 ·exact .inl h
 ·exact .inr (yT h)
theorem qhf {k v:Nat}:∀ (c:Nat) {b:List Int},IsB b->(∀ a∈(leafR k v c b).1,IsB a)/\∀ a∈(leafR k v c b).2,IsB a
 | 0,_,_=>⟨fun _ h=>(nomatch h),fun _ h=>(nomatch h)⟩
 | c+1,b,h=>by
  have ih:=qhf (k:=k) (v:=v) c (b:=b.drop (k+v)) (h.drop _)
  refine ⟨fun a u=>?_,fun a u=>?_⟩
  ·rcases zG.1 u with rfl | u
   ·exact h.take _
   ·exact ih.1 a u
  ·rcases zG.1 u with rfl | u
   ·exact (h.drop _).take _
   ·exact ih.2 a u
theorem qml {k:Nat}:∀ (c:Nat) {b:List Int},IsB b->∀ a∈keysR k c b,IsB a
 | 0,_,_=>fun _ h=>(nomatch h)
 | c+1,b,h=>fun a u=>by
  rcases zG.1 u with rfl | u
  ·exact h.take _
  ·exact qml c (h.drop _) a u
end Go.Proofs.YtmmkegapckbomaaGreatDoor
end
