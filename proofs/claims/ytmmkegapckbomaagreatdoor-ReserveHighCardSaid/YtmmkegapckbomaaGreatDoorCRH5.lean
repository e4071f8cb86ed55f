/- Texts NdI, NdJ, TrG, TrH, PrO, TrI, TeA, TeB, TeC, TeD, TeE, TeF, TeG, TeH, TeI, TeJ, TeK: contracts of the program's functions, one behind the other. Conditions: those that stand in each line. -/
import Derived.Test.YtmmkegapckbomaaGreatDoorCRH4
section
set_option linter.unusedVariables false
set_option linter.unusedSimpArgs false
namespace Go.Proofs.YtmmkegapckbomaaGreatDoor
open Go Go.Pt
open Classical
attribute [local irreducible] ld ldA ldV fld fldA newZ st new idx idxS idxA slc slcS slcP mkS chk nn call callV inv run runQ runU join loop held ext rng undefer s2a nxt ent IntKind.wrap
theorem qoL {l:List Int} (hB:IsB l) (hl:4<=l.length):first4 (l.take 4)=getV (l.take 4):=by
 match l,hl with
 | a::b::c::d::r,_=>
  have ha:=hB a (by simp)
  have hb:=hB b (by simp)
  have hc:=hB c (by simp)
  have hd:=hB d (by simp)
  show first4 [a,b,c,d]=getV [a,b,c,d]
  show get4V a b c d=_
  rw [qnL ha hb hc hd,qe8 (fun v hv=>hB v (by simp at hv ⊢; rcases hv with h | h | h | h <;> simp [h])) (Nat.le_refl _)]
  show _=(((0*256+a)*256+b)*256+c)*256+d
  omega
theorem qsf (l:List Int):U32 (getV l):=by
 unfold getV
 have:∀ (l:List Int) (r:Int),U32 r->U32 (l.foldl (fun r x=>bits .or .u32 (IntKind.wrap .u32 (r*2^8)) (IntKind.wrap .u32 x)) r):=by
  intro l
  induction l with
  | nil=>intro r h; exact h
  | cons x l ih=>intro r h; exact ih _ (qbF _ _ _)
 exact this l 0 ⟨by decide,by decide⟩
theorem qlD:∀ (c:Nat) (b:List Int),∀ x∈kidsR c b,U32 x
 | 0,_,_,h=>nomatch h
 | c+1,b,x,h=>by
  rcases List.mem_cons.1 h with rfl | h
  ·exact qsf _
  ·exact qlD c _ x h
theorem qtn {w0 w:World} {L:List (Nat×Obj)} {r8 rt:Nat} {x:NdC} {s':Sl} {b:List Int} {l:List Int} {Bi:List Nat} {T:TypeId} {K:World->Prop}
  (h:Own [] w0 w ((r8,.cells (ndV x) ND (0,0))::(rt,.cells #[elSl s'] T (0,0))::L)) (hr:RdB [] w0 s' b) (hB:IsB b) (hm:4<=b.length) (hbl:b.length<=1000000)
  (hbuf:Buf encU 1 w x.2.2.2 l Bi) (hBi:∀ c∈Bi,w0.heap.size<=c/\c∉r8::rt::L.map (·.1)) (hl:l.length<=100000)
  (kk:∀ sN s29 Bi' w',Own [] w0 w' ((r8,.cells (ndV (x.1,x.2.1,x.2.2.1,s29)) ND (0,0))::(rt,.cells #[elSl sN] T (0,0))::L)->RdB [] w0 sN (b.drop 4)->Buf encU 1 w' s29 (l++[getV (b.take 4)]) Bi'->
   (∀ c∈Bi',w0.heap.size<=c/\c∉r8::rt::L.map (·.1))->K w') :
  (callV Tryz.prog (takerV rt) ([Value.int IntKind.i64 4]) ([Ty1.one Cell.slice]) w<|
    fun (s_15:Sl) (w_16:World)=>
    ld Cell.slice ⟨r8,3,none⟩ (World.drew w_16)<|
    fun (s_17:Sl)=>
    idx s_15 0 1<|
    fun (a_18:Addr)=>
    ld (Cell.int IntKind.u8) a_18 (World.drew w_16)<|
    fun (x_19:Int)=>
    idx s_15 1 1<|
    fun (a_20:Addr)=>
    ld (Cell.int IntKind.u8) a_20 (World.drew w_16)<|
    fun (x_21:Int)=>
    idx s_15 2 1<|
    fun (a_22:Addr)=>
    ld (Cell.int IntKind.u8) a_22 (World.drew w_16)<|
    fun (x_23:Int)=>
    idx s_15 3 1<|
    fun (a_24:Addr)=>
    ld (Cell.int IntKind.u8) a_24 (World.drew w_16)<|
    fun (x_25:Int)=>
    new (Obj.cells #[Value.int IntKind.u32 (bits BinOp.or IntKind.u32 (bits BinOp.or IntKind.u32 (bits BinOp.or IntKind.u32 (IntKind.wrap IntKind.u32 (IntKind.wrap IntKind.u32 x_19*2^24)) (IntKind.wrap IntKind.u32 (IntKind.wrap IntKind.u32 x_21*2^16))) (IntKind.wrap IntKind.u32 (IntKind.wrap IntKind.u32 x_23*2^8))) (IntKind.wrap IntKind.u32 x_25))] 37) (World.drew w_16)<|
    fun (r_26:Nat) (w_27:World)=>
    held [fun (w_28:Go.World)=>World.cell? w_28 ⟨r8,3,none⟩=some (Value.slice s_17.a s_17.len s_17.cap)] w_27<|
    run [Ty1.one Cell.slice] ((Builtin.append_ (#[92,92]) 92 (#[Value.slice s_17.a s_17.len s_17.cap,Value.slice (some ⟨r_26,0,none⟩) 1 1])).run Tryz.prog w_27)<|
    fun (s_29:Sl) (w_30:World)=>
    st ⟨r8,3,none⟩ ([Value.slice s_29.a s_29.len s_29.cap]) w_30 K):=by
 refine qnm (m:=4) h (i:=1) rfl hr hm hbl fun s15 B15 sN w16 h16 b15 n15 hN f16=>?_
 have hd:Own [] w0 w16.drew ((r8,.cells (ndV x) ND (0,0))::(rt,.cells #[elSl sN] T (0,0))::L):=Own.drew h16
 refine Own.ld (c:=.slice) hd 0 rfl x.2.2.2 rfl ?_
 have hr15:RdB [] w16.drew s15 (b.take 4):=(b15.rds qas (S:=[]) (fun _ _ h=>nomatch h)).frame0 (Fr.refl [] w16).drew
 have h4:4<=(b.take 4).length:=by rw [List.length_take]; omega
 refine RdB.at hr15 0 rfl (getD_some (by omega)) ?_
 refine RdB.at hr15 1 rfl (getD_some (by omega)) ?_
 refine RdB.at hr15 2 rfl (getD_some (by omega)) ?_
 refine RdB.at hr15 3 rfl (getD_some (by omega)) ?_
 have e4:=qoL hB hm
 unfold first4 get4V at e4
 rw [e4]
 refine Own.new' hd fun r26 w27 e27 f27 h27=>?_
 refine qah (h27.cell 1 rfl rfl) ?_
 have hb16:=hbuf.frame f16 fun c hc hm=>(hBi c hc).2 (by rw [List.mem_singleton.1 hm]; simp)
 have hb27:=(hb16.frame0 (Fr.refl [] w16).drew).frame0 f27
 refine qo0 hb27 hl (h27.at (i:=0) rfl) fun s29 Bi' w30 b30 f30 n30=>?_
 have h270:=h27.sub (L':=(r8,.cells (ndV x) ND (0,0))::(rt,.cells #[elSl sN] T (0,0))::L) (List.sublist_cons_self _ _)
 have hnotB:∀ p∈((r8,Obj.cells (ndV x) ND (0,0))::(rt,.cells #[elSl sN] T (0,0))::L),p.1∉Bi:=fun p hp hm=>(hBi p.1 hm).2 (List.mem_map_of_mem (f:=(·.1)) hp)
 have h30:=h270.frame f30 (fun i hi=>.inr (hBi i hi).1) hnotB
 have hLlt:∀ c∈r8::rt::L.map (·.1),c<w27.heap.size:=fun c hc=>by
  obtain ⟨p,hp,rfl⟩:=List.mem_map.1 (show c∈((r8,Obj.cells (ndV x) ND (0,0))::(rt,.cells #[elSl sN] T (0,0))::L).map (·.1) from hc)
  exact qac (h270.blk p hp)
 have hBn:∀ c∈Bi',w0.heap.size<=c/\c∉r8::rt::L.map (·.1):=fun c hc=>by
  rcases n30 c hc with h | h
  ·exact hBi c h
  ·exact ⟨Nat.le_trans h270.fr.size h,fun hm=>by have:=hLlt c hm; omega⟩
 refine Own.st' h30 0 rfl (ndV (x.1,x.2.1,x.2.2.1,s29)) rfl rfl (Nat.le_of_ble_eq_true rfl) fun w31 h31 f31=>?_
 exact kk sN s29 Bi' w31 h31 hN (b30.frame f31 fun c hc hm=>(hBn c hc).2 (by rw [List.mem_singleton.1 hm]; simp)) hBn
section
variable {w:World} {s:Sl} {b:List Int}
theorem qrT {count k:Nat} {K:NdC×Bool->World->Prop} (hb:RdB [] w s b) (hB:IsB b) (hl:b.length<=1000) (hc:count<=100000) (hk:1<=k/\k<=1000)
  (kk:∀ x B n w',(1<=count/\b.length=count*4+(count-1)*k->n=⟨false,keysR k (count-1) (b.drop (count*4)),[],kidsR count b⟩)->NodeB (List.range w.heap.size++B) w' x n B->Fr [] w w'->(∀ c∈B,w.heap.size<=c)->K (x,decide (1<=count/\b.length=count*4+(count-1)*k)) w') :
  call Tryz.prog 146 [.slice s.a s.len s.cap,.int .i64 count,.int .i64 k] [.agg qaa,.one .bool] w K:=by
 refine ql3 (body:=s) (count:=count) (k:=k) ?_
 unfold qic
 refine Own.new' (Own.start [] w) fun r1 w1 e1 f1 h=>?_
 have hlen:=hb.1
 have hmul:(count-1)*k<=100000*1000:=Nat.mul_le_mul (by omega) hk.2
 refine qag (fun d w'=>d = !decide (1<=count/\b.length=count*4+(count-1)*k)/\w'=w1) ?_ ?_
 ·refine qab (fun h1=>?_) (fun h1=>?_)
  ·have h1:=of_decide_eq_true h1
   refine ⟨?_,rfl⟩
   rw [decide_eq_false (fun h=>by omega)]; rfl
  ·have h1:=of_decide_eq_false h1
   refine ⟨?_,rfl⟩
   have ea:IntKind.wrap .i64 ((count:Int)-1)=((count-1:Nat):Int):=by rw [wi' _ (by omega)]; omega
   have ew:IntKind.wrap .i64 (IntKind.wrap .i64 ((count:Int)*4)+IntKind.wrap .i64 (IntKind.wrap .i64 ((count:Int)-1)*(k:Int)))=((count*4+(count-1)*k:Nat):Int):=by
    have e4:IntKind.wrap .i64 ((count:Int)*4)=((count*4:Nat):Int):=by rw [wi' _ (by omega)]; rfl
    have e5:IntKind.wrap .i64 (((count-1:Nat):Int)*(k:Int))=(((count-1)*k:Nat):Int):=by rw [<- Int.natCast_mul,wi' _ (by omega)]
    rw [ea,e4,e5]
    generalize (count-1)*k=z at hmul
    rw [wi' _ (by omega)]; rfl
   rw [ew,hlen]
   congr 1
   rw [Bool.eq_iff_iff,beq_iff_eq,decide_eq_true_iff]
   generalize (count-1)*k=z
   omega
 rintro d w1' ⟨rfl,rfl⟩
 refine qab (fun hc1=>?_) (fun hc1=>?_)
 ·have hne:¬ (1<=count/\b.length=count*4+(count-1)*k):=by rw [Bool.not_eq_true'] at hc1; exact of_decide_eq_false hc1
  refine Own.st' h 0 rfl (ndV zeroX) rfl rfl (Nat.le_of_ble_eq_true rfl) fun w2 h f2=>?_
  refine Own.ldA (cl:=qaa) h 0 rfl zeroX rfl ?_
  have:=kk zeroX [] zeroN w2 (fun e=>absurd e hne) (.zero _ _) h.fr (fun _ h=>nomatch h)
  rw [decide_eq_false hne] at this
  exact this
 have heq:1<=count/\b.length=count*4+(count-1)*k:=by rw [Bool.not_eq_false'] at hc1; exact of_decide_eq_true hc1
 refine Own.new' h fun r8 w2 e2 f2 h=>?_
 refine qfI (b:=s) ?_
 unfold qec
 refine Own.new' h fun rt w4 e4 f4 h=>?_
 have h:=qe6 h (List.Perm.swap _ _ _)
 refine qak (fun i w'=>∃ (c:Nat) (si sn:Sl) (Bi:List Nat),i=(c:Int)/\c<=count/\Own [] w w' [(r8,.cells (ndV (false,⟨none,0,0⟩,⟨none,0,0⟩,si)) ND (0,0)),(rt,.cells #[elSl sn] 23 (0,0)),(r1,.cells (ndV zeroX) ND (0,0))]/\
   RdB [] w sn (b.drop (c*4))/\Buf encU 1 w' si (kidsR c b) Bi/\(∀ c∈Bi,w.heap.size<=c/\c∉[r8,rt,r1])) (fun i _=>((count:Int)-i).toNat)
  ⟨0,⟨none,0,0⟩,s,[],rfl,Nat.zero_le _,h,by rw [Nat.zero_mul,List.drop_zero]; exact hb,.nil _ _ _,fun _ h=>(nomatch h)⟩ ?_
 rintro _ w' ⟨c,si,sn,Bi,rfl,hcc,h,hsn,hbi,ni⟩ X hX
 refine qab (fun hc2=>?_) (fun hc2=>?_)
 ·have hlt:c<count:=by have:=of_decide_eq_true hc2; omega
  have hdl:(b.drop (c*4)).length=b.length-c*4:=List.length_drop
  refine qtn h hsn (hB.drop _) (by omega) (by omega) (x:=(false,⟨none,0,0⟩,⟨none,0,0⟩,si)) hbi ni (by rw [qhc]; omega) fun sN s29 Bi' w5 h5 hN5 b5 n5=>?_
  rw [qbg (by omega)]
  refine hX _ _ ⟨c+1,s29,sN,Bi',rfl,hlt,h5,?_,by rw [qj7]; exact b5,n5⟩ (by omega)
  rw [List.drop_drop] at hN5
  have e:c*4+4=(c+1)*4:=by omega
  rw [<- e]
  exact hN5
 have hge:c=count:=by have:=of_decide_eq_false hc2; omega
 subst hge
 have hBi0:∀ z∈Bi,w.heap.size<=z:=fun z hz=>(ni z hz).1
 refine qak (fun i w2=>∃ (d:Nat) (sk sn:Sl) (pk:Kps) (Bk:List Nat),i=(d:Int)/\d<=c-1/\Own [] w w2 [(r8,.cells (ndV (false,sk,⟨none,0,0⟩,si)) ND (0,0)),(rt,.cells #[elSl sn] 23 (0,0)),(r1,.cells (ndV zeroX) ND (0,0))]/\
   RdB [] w sn ((b.drop (c*4)).drop (d*k))/\Buf encU 1 w2 si (kidsR c b) Bi/\Buf encSl 1 w2 sk (slsP pk) Bk/\keyP pk=keysR k d (b.drop (c*4))/\(∀ c∈Bk,w.heap.size<=c/\c∉[r8,rt,r1])/\(∀ c∈Bk,c∉Bi)/\
   Els w2 pk (List.range w.heap.size++r8::rt::r1::(Bk++Bi))) (fun i _=>(((c-1:Nat):Int)-i).toNat)
  ⟨0,⟨none,0,0⟩,sn,[],[],rfl,Nat.zero_le _,h,by rw [Nat.zero_mul,List.drop_zero]; exact hsn,hbi,.nil _ _ _,rfl,fun _ h=>(nomatch h),fun _ h=>(nomatch h),fun _ h=>(nomatch h)⟩ ?_
 rintro _ w2 ⟨d,sk,sn2,pk,Bk,rfl,hdd,h,hsn2,hbi,hbk,ek,nk,dki,gk⟩ X hX
 have lk:pk.length=d:=by rw [<- List.length_map (f:=(·.2)),show pk.map (·.2)=keyP pk from rfl,ek,qg0]
 have ea:IntKind.wrap .i64 ((c:Int)-1)=((c-1:Nat):Int):=by rw [wi' _ (by omega)]; omega
 have hlt3:∀ z∈[r8,rt,r1],z<w2.heap.size:=fun z hz=>by
  simp only [List.mem_cons,List.not_mem_nil,or_false] at hz
  rcases hz with rfl | rfl | rfl
  ·exact qac (h.at (i:=0) rfl)
  ·exact qac (h.at (i:=1) rfl)
  ·exact qac (h.at (i:=2) rfl)
 rw [ea]
 refine qab (fun hc3=>?_) (fun hc3=>?_)
 ·have hlt:d<c-1:=by have:=of_decide_eq_true hc3; omega
  have hstep:(d+1)*k<=(c-1)*k:=Nat.mul_le_mul_right _ hlt
  rw [Nat.add_mul,Nat.one_mul] at hstep
  have hdl:((b.drop (c*4)).drop (d*k)).length=b.length-c*4-d*k:=by rw [List.length_drop,List.length_drop]
  refine qpI (o:=1) (m:=k) (.inl rfl) h hsn2 (by omega) (by omega) (x:=(false,sk,⟨none,0,0⟩,si)) hbk nk (by simp; omega) fun s14 sN s20 Bk' w5 h5 hN5 b5 n5 m5 f5 g5=>?_
  have h5:Own [] w w5 [(r8,.cells (ndV (false,s20,⟨none,0,0⟩,si)) ND (0,0)),(rt,.cells #[elSl sN] 23 (0,0)),(r1,.cells (ndV zeroX) ND (0,0))]:=h5
  have hbi5:=hbi.frame f5 fun z hz hm=>by
   simp only [List.mem_cons] at hm
   rcases hm with rfl | rfl | hm
   ·exact (ni _ hz).2 (by simp)
   ·exact (ni _ hz).2 (by simp)
   ·exact dki z hm hz
  have hT5:∀ z∈List.range w.heap.size++r8::rt::r1::(Bk'++Bi),z∈List.range w.heap.size++r8::rt::r1::(Bk++Bi)\/w2.heap.size<=z:=fun z hz=>by
   simp only [List.mem_append,List.mem_cons] at hz ⊢
   rcases hz with hz | rfl | rfl | rfl | hz | hz
   ·exact .inl (.inl hz)
   ·simp
   ·simp
   ·simp
   ·rcases n5 z hz with h | h
    ·simp [h]
    ·exact .inr h
   ·simp [hz]
  have hS5:∀ z∈r8::rt::Bk,z∈List.range w.heap.size++r8::rt::r1::(Bk++Bi):=fun z hz=>by
   simp only [List.mem_append,List.mem_cons] at hz ⊢
   rcases hz with rfl | rfl | hz <;> simp [*]
  have gk5:=(gk.frame f5 hS5 hT5).snoc (s:=s14) (a:=((b.drop (c*4)).drop (d*k)).take k) (g5 _ fun z hz=>by
   simp only [List.mem_append,List.mem_cons,List.mem_range] at hz
   have:=h.fr.size
   rcases hz with hz | rfl | rfl | rfl | hz | hz
   ·exact .inl (by omega)
   ·exact .inl (hlt3 _ (by simp))
   ·exact .inl (hlt3 _ (by simp))
   ·exact .inl (hlt3 _ (by simp))
   ·exact .inr hz
   ·exact .inl (hbi.lt z hz))
  rw [qbg (by omega)]
  refine hX _ _ ⟨d+1,s20,sN,pk++[(s14,((b.drop (c*4)).drop (d*k)).take k)],Bk',rfl,hlt,h5,?_,hbi5,?_,?_,fun z hz=>⟨?_,m5 z hz⟩,fun z hz hm=>?_,gk5⟩ (by omega)
  ·rw [List.drop_drop] at hN5
   have e:d*k+k=(d+1)*k:=by rw [Nat.add_mul]; omega
   rw [<- e]
   exact hN5
  ·rw [show slsP (pk++[(s14,((b.drop (c*4)).drop (d*k)).take k)])=slsP pk++[s14] by simp]; exact b5
  ·rw [qjG]; simp [ek]
  ·rcases n5 z hz with h' | h'
   ·exact (nk z h').1
   ·exact Nat.le_trans h.fr.size h'
  ·rcases n5 z hz with h' | h'
   ·exact dki z h' hm
   ·have:=hbi.lt z hm; omega
 ·have hge:d=c-1:=by have:=of_decide_eq_false hc3; omega
  subst hge
  refine Own.ldA (cl:=qaa) h 0 rfl (false,sk,⟨none,0,0⟩,si) rfl ?_
  refine Own.st' h 2 rfl (ndV (false,sk,⟨none,0,0⟩,si)) rfl rfl (Nat.le_of_ble_eq_true rfl) fun w5 h5 f5=>?_
  refine Own.ldA (cl:=qaa) h5 2 rfl (false,sk,⟨none,0,0⟩,si) rfl ?_
  have hn1:∀ {B:List Nat},(∀ z∈B,w.heap.size<=z/\z∉[r8,rt,r1])->∀ z∈B,z∉[r1]:=fun hB z hz hm=>(hB z hz).2 (by rw [List.mem_singleton.1 hm]; simp)
  have hs1:∀ z∈[r1],z∈List.range w.heap.size++r8::rt::r1::(Bk++Bi):=fun z hz=>by rw [List.mem_singleton.1 hz]; simp
  have:=kk (false,sk,⟨none,0,0⟩,si) (Bk++([]++Bi)) ⟨false,keysR k (c-1) (b.drop (c*4)),[],kidsR c b⟩ w5 (fun _=>rfl)
   (qoQ (pv:=[]) (T:=List.range w.heap.size++r8::rt::r1::(Bk++Bi)) rfl ⟨qlN _ (hB.drop _),fun _ h=>(nomatch h),qlD _ _⟩ (hbk.frame f5 (hn1 nk)) ek (.nil _ _ _) rfl (hbi.frame f5 (hn1 ni)) (fun z hz=>⟨fun h=>(nomatch h),dki z hz⟩) (fun _ h=>nomatch h)
    (gk.frame f5 hs1 fun z hz=>.inl hz) (fun _ h=>nomatch h) fun z hz=>by
     simp only [List.nil_append,List.mem_append,List.mem_cons] at hz ⊢
     rcases hz with hz | hz | hz <;> simp [*]) h5.fr (fun z hz=>by
    rw [List.nil_append] at hz
    rcases List.mem_append.1 hz with hz | hz
    ·exact (nk z hz).1
    ·exact (ni z hz).1)
  rw [decide_eq_true heq] at this
  exact this
end
section
theorem qoi {b:List Int} (hB:IsB b) (h2:2<=b.length):bits .or .i64 (IntKind.wrap .i64 (IntKind.wrap .i64 (b.getD 0 0)*2^8)) (IntKind.wrap .i64 (b.getD 1 0))=(countV b:Int)/\countV b<=65535:=by
 have r4:0<=b.getD 0 0/\b.getD 0 0<256:=hB _ (List.mem_of_getElem? (getD_some (l:=b) (n:=0) (by omega)))
 have r5:0<=b.getD 1 0/\b.getD 1 0<256:=hB _ (List.mem_of_getElem? (getD_some (l:=b) (n:=1) (by omega)))
 unfold countV
 generalize b.getD 0 0=x at r4 ⊢
 generalize b.getD 1 0=y at r5 ⊢
 rw [wi' x (by omega),wi' y (by omega),wi' (x*2^8) (by omega),qm3 8 (by omega) (by omega) (by omega) (by omega) (by omega)]
 omega
theorem qki {k v:Nat} (h:(capsV k v).1≠0):1<=k/\k<=24/\v<=108:=by
 unfold capsV at h
 split at h
 ·exact absurd rfl h
 ·omega
theorem qsy {kind:Int} {b:List Int} {k v:Nat} (h:(capsV k v).1=0\/b.length<2\/b.length>500):readNV kind b k v=(zeroN,2):=by unfold readNV; rw [if_pos h]
theorem qrh {b:List Int} {k v:Nat} (h:¬ ((capsV k v).1=0\/b.length<2\/b.length>500)):readNV 3 b k v=if (b.drop 2).length=countV b*(k+v)/\rightV (leafN k v b) k v then (leafN k v b,0) else (zeroN,2):=by
 unfold readNV
 rw [if_neg h]
 by_cases h2:(b.drop 2).length=countV b*(k+v)/\rightV (leafN k v b) k v
 ·rw [if_pos ⟨rfl,h2⟩,if_pos h2]
 ·rw [if_neg fun h=>h2 h.2,if_neg h2,if_neg fun h=>absurd h.1 (by decide)]
theorem qp5 {b:List Int} {k v:Nat} (h:¬ ((capsV k v).1=0\/b.length<2\/b.length>500)):readNV 4 b k v=if (1<=countV b/\(b.drop 2).length=countV b*4+(countV b-1)*k)/\rightV (innerN k b) k v then (innerN k b,0) else (zeroN,2):=by
 unfold readNV
 rw [if_neg h,if_neg fun h=>absurd h.1 (by decide)]
 by_cases h2:(1<=countV b/\(b.drop 2).length=countV b*4+(countV b-1)*k)/\rightV (innerN k b) k v
 ·rw [if_pos ⟨rfl,h2.1.1,h2.1.2,h2.2⟩,if_pos h2]
 ·rw [if_neg fun h=>h2 ⟨⟨h.2.1,h.2.2.1⟩,h.2.2.2⟩,if_neg h2]
theorem qrU {kind:Int} {b:List Int} {k v:Nat} (h3:kind≠3) (h4:kind≠4):readNV kind b k v=(zeroN,2):=by
 unfold readNV
 split
 ·rfl
 ·rw [if_neg fun h=>h3 h.1,if_neg fun h=>h4 h.1]
section
variable {w:World} {s:Sl} {b:List Int}
theorem qr6 {kind:Int} {k v:Nat} {K:NdC×Int->World->Prop} (hb:RdB [] w s b) (hB:IsB b)
  (kk:∀ x B w',NodeB (List.range w.heap.size++B) w' x (readNV kind b k v).1 B->Fr [] w w'->(∀ c∈B,w.heap.size<=c)->K (x,(readNV kind b k v).2) w') :
  call Tryz.prog 112 [.int .u8 kind,.slice s.a s.len s.cap,.int .i64 k,.int .i64 v] [.agg qaa,.one (.int .i64)] w K:=by
 refine qng (kind:=kind) (body:=s) (k:=k) (v:=v) ?_
 unfold qjT
 have hlen:=hb.1
 refine Own.new' (Own.start [] w) fun r1 w1 e1 f1 h=>?_
 refine qi8 fun w4 f4=>?_
 have h:=h.frame0 f4
 refine qag (fun d w'=>d=decide ((capsV k v).1=0\/b.length<2\/b.length>500)/\w'=w4) ?_ ?_
 ·dsimp only
  refine qab (fun c1=>⟨?_,rfl⟩) (fun c1=>qab (fun c2=>⟨?_,rfl⟩) (fun c2=>⟨?_,rfl⟩))
  ·have c1:=beq_iff_eq.1 c1
   exact qhs (.inl (by omega))
  ·have c2:=of_decide_eq_true c2
   exact qhs (.inr (.inl (by omega)))
  ·have c1:=beq_eq_false_iff_ne.1 c1
   have c2:=of_decide_eq_false c2
   rw [Bool.eq_iff_iff,decide_eq_true_iff,decide_eq_true_iff]
   constructor
   ·intro h; exact .inr (.inr (by omega))
   ·rintro (h | h | h)
    ·omega
    ·omega
    ·omega
 rintro d w4' ⟨rfl,rfl⟩
 have bad:∀ {w'},readNV kind b k v=(zeroN,2)->Own [] w w' [(r1,.cells (ndV zeroX) ND (0,0))]->
   st ⟨r1,0,none⟩ ([Value.bool false,Value.slice none 0 0,Value.slice none 0 0,Value.slice none 0 0]) w' fun w_8=>ldA (qaa) ⟨r1,0,none⟩ w_8 fun t_9=>K ((t_9,2)) w_8:=fun he h=>by
  refine Own.st' h 0 rfl (ndV zeroX) rfl rfl (Nat.le_of_ble_eq_true rfl) fun w2 h f2=>?_
  refine Own.ldA (cl:=qaa) h 0 rfl zeroX rfl ?_
  have:=kk zeroX [] w2 (by rw [he]; exact .zero _ _) h.fr (fun _ h=>nomatch h)
  rw [he] at this
  exact this
 refine qab (fun hc=>bad (qsy (of_decide_eq_true hc)) h) (fun hc=>?_)
 have hok:=of_decide_eq_false hc
 have hcap:(capsV k v).1≠0:=fun e=>hok (.inl e)
 have h2:2<=b.length/\b.length<=500:=by
  refine ⟨?_,?_⟩
  ·exact Nat.not_lt.1 fun e=>hok (.inr (.inl e))
  ·exact Nat.not_lt.1 fun e=>hok (.inr (.inr e))
 obtain ⟨hk1,hk2,hv1⟩:=qki hcap
 obtain ⟨hcnt,hcl⟩:=qoi hB h2.1
 have hbd:=(hb.frame0 h.fr).frame0 (Fr.refl [] w4').drew
 refine RdB.at hbd 0 rfl (getD_some (by omega)) ?_
 refine RdB.at hbd 1 rfl (getD_some (by omega)) ?_
 rw [hcnt]
 have h:=h.drew
 refine Own.new' h fun r14 w15 e15 f15 h=>?_
 have h14:=qac (h.at (i:=0) rfl)
 have h1l:=qac (h.at (i:=1) rfl)
 dsimp only at h14 h1l
 have hb15:=hb.frame0 h.fr
 have hsz:=h.fr.size
 refine qag (fun ok w'=>∃ x B n,Own [] w w' [(r14,.cells (ndV x) ND (0,0)),(r1,.cells (ndV zeroX) ND (0,0))]/\NodeB (List.range w15.heap.size++B) w' x n B/\(∀ c∈B,w15.heap.size<=c)/\
   ok=decide ((kind=3/\(b.drop 2).length=countV b*(k+v))\/(kind=4/\1<=countV b/\(b.drop 2).length=countV b*4+(countV b-1)*k))/\
   (ok=true->n=if kind=3 then leafN k v b else innerN k b)) ?_ ?_
 ·refine qab (fun c3=>?_) (fun c3=>qab (fun c4=>?_) (fun c4=>?_))
  ·have c3:=beq_iff_eq.1 c3
   refine Rds.part (S:=[]) hb15 (lo:=some 2) (hi:=none) 2 b.length rfl (by rw [Option.getD_none,hlen]) h2.1 (Nat.le_refl _) fun s17 _ hs17 _=>?_
   rw [List.take_length] at hs17
   refine qtY hs17 (hB.drop 2) (by rw [List.length_drop]; omega) (by omega) (by omega) (by omega) fun x B n w19 hn hN f19 hBn=>?_
   have h19:=h.frame0 f19
   refine Own.st' h19 0 rfl (ndV x) rfl rfl (Nat.le_of_ble_eq_true rfl) fun w20 h20 f20=>?_
   have hr14:∀ c∈B,c∉[r14]:=fun c hc hm=>by have:=hBn c hc; rw [List.mem_singleton.1 hm] at this; omega
   refine ⟨x,B,n,h20,hN.frame f20 hr14 (fun c hc=>.inl (by rw [List.mem_singleton.1 hc]; simp [h14])) (fun c hc=>.inl hc),hBn,?_,fun ht=>?_⟩
   ·rw [Bool.eq_iff_iff,decide_eq_true_iff,decide_eq_true_iff]
    constructor
    ·intro hh; exact .inl ⟨c3,hh⟩
    ·rintro (hh | hh)
     ·exact hh.2
     ·have:=hh.1; omega
   ·rw [if_pos c3]
    exact hn (of_decide_eq_true ht)
  ·have c3:=beq_eq_false_iff_ne.1 c3
   have c4:=beq_iff_eq.1 c4
   refine Rds.part (S:=[]) hb15 (lo:=some 2) (hi:=none) 2 b.length rfl (by rw [Option.getD_none,hlen]) h2.1 (Nat.le_refl _) fun s17 _ hs17 _=>?_
   rw [List.take_length] at hs17
   refine qrT hs17 (hB.drop 2) (by rw [List.length_drop]; omega) (by omega) (by omega) fun x B n w19 hn hN f19 hBn=>?_
   have h19:=h.frame0 f19
   refine Own.st' h19 0 rfl (ndV x) rfl rfl (Nat.le_of_ble_eq_true rfl) fun w20 h20 f20=>?_
   have hr14:∀ c∈B,c∉[r14]:=fun c hc hm=>by have:=hBn c hc; rw [List.mem_singleton.1 hm] at this; omega
   refine ⟨x,B,n,h20,hN.frame f20 hr14 (fun c hc=>.inl (by rw [List.mem_singleton.1 hc]; simp [h14])) (fun c hc=>.inl hc),hBn,?_,fun ht=>?_⟩
   ·rw [Bool.eq_iff_iff,decide_eq_true_iff,decide_eq_true_iff]
    constructor
    ·intro hh; exact .inr ⟨c4,hh⟩
    ·rintro (hh | hh)
     ·exact absurd hh.1 c3
     ·exact hh.2
   ·rw [if_neg c3]
    exact hn (of_decide_eq_true ht)
  ·have c3:=beq_eq_false_iff_ne.1 c3
   have c4:=beq_eq_false_iff_ne.1 c4
   refine ⟨zeroX,[],zeroN,h,.zero _ _,fun _ h=>(nomatch h),?_,fun ht=>nomatch ht⟩
   rw [decide_eq_false]
   rintro (hh | hh)
   ·exact c3 hh.1
   ·exact c4 hh.1
 rintro ok w26 ⟨x,B,n,h,hN,hBn,hok2,hn⟩
 have hnle:ok=true->n.keys.length<=1000000/\n.vals.length<=1000000/\n.kids.length<=1000000:=fun ht=>by
  rw [hn ht]
  split
  ·have:=qdK (k:=k) (v:=v) (countV b) (b.drop 2)
   unfold leafN
   dsimp only
   rw [this.1,this.2]
   simp; omega
  ·unfold innerN
   dsimp only
   rw [qg0,qhc]
   simp; omega
 refine qag (fun d w'=>d = !(ok&&decide (rightV n k v))/\Own [] w w' [(r14,.cells (ndV x) ND (0,0)),(r1,.cells (ndV zeroX) ND (0,0))]/\NodeB (List.range w15.heap.size++B) w' x n B) ?_ ?_
 ·refine qab (fun c1=>?_) (fun c1=>?_)
  ·have c1:ok=false:=by simpa using c1
   exact ⟨by rw [c1]; rfl,h,hN⟩
  ·have c1:ok=true:=by simpa using c1
   obtain ⟨q1,q2,q3⟩:=hnle c1
   refine Own.ldA (cl:=qaa) h 0 rfl x rfl ?_
   have hNR:NodeR [] w26 x n:=hN.rd (fun _ _ h=>(nomatch h)) fun _ h=>nomatch h
   refine qmS (x:=x) hNR q1 q2 q3 fun w30 f30=>?_
   exact ⟨by rw [c1,Bool.true_and],h.frame0 f30,hN.frame0 f30⟩
 rintro d w32 ⟨rfl,h,hN⟩
 have hread:readNV kind b k v=if (ok&&decide (rightV n k v))=true then (n,0) else (zeroN,2):=by
  by_cases k3:kind=3
  ·subst k3
   rw [qrh hok]
   have e:ok=decide ((b.drop 2).length=countV b*(k+v)):=by rw [hok2]; exact decide_eq_decide.2 ⟨fun h=>h.elim (·.2) fun h=>absurd h.1 (by decide),fun h=>.inl ⟨rfl,h⟩⟩
   by_cases ht:ok=true
   ·have hn2:=hn ht
    rw [if_pos rfl] at hn2
    rw [hn2,ht,Bool.true_and]
    have hl:(b.drop 2).length=countV b*(k+v):=of_decide_eq_true (e▸ht)
    by_cases hr:rightV (leafN k v b) k v
    ·rw [if_pos ⟨hl,hr⟩,if_pos (decide_eq_true hr)]
    ·rw [if_neg fun h=>hr h.2,if_neg (by rw [decide_eq_false hr]; decide)]
   ·have ht':ok=false:=by simpa using ht
    rw [ht',Bool.false_and,if_neg (show ¬ (false=true) by decide)]
    have hl:¬ (b.drop 2).length=countV b*(k+v):=of_decide_eq_false (e▸ht')
    rw [if_neg fun h=>hl h.1]
  by_cases k4:kind=4
  ·subst k4
   rw [qp5 hok]
   have e:ok=decide (1<=countV b/\(b.drop 2).length=countV b*4+(countV b-1)*k):=by rw [hok2]; exact decide_eq_decide.2 ⟨fun h=>h.elim (fun h=>absurd h.1 (by decide)) (·.2),fun h=>.inr ⟨rfl,h⟩⟩
   by_cases ht:ok=true
   ·have hn2:=hn ht
    rw [if_neg k3] at hn2
    rw [hn2,ht,Bool.true_and]
    have hl:=of_decide_eq_true (e▸ht)
    by_cases hr:rightV (innerN k b) k v
    ·rw [if_pos ⟨hl,hr⟩,if_pos (decide_eq_true hr)]
    ·rw [if_neg fun h=>hr h.2,if_neg (by rw [decide_eq_false hr]; decide)]
   ·have ht':ok=false:=by simpa using ht
    rw [ht',Bool.false_and,if_neg (show ¬ (false=true) by decide)]
    have hl:=of_decide_eq_false (e▸ht')
    rw [if_neg fun h=>hl h.1]
  ·rw [qrU k3 k4]
   have ht:ok=false:=by
    rw [hok2,decide_eq_false]
    rintro (h | h)
    ·exact k3 h.1
    ·exact k4 h.1
   rw [ht,Bool.false_and,if_neg (show ¬ (false=true) by decide)]
 have hr1:∀ c∈B,c∉[r1]:=fun c hc hm=>by have:=hBn c hc; rw [List.mem_singleton.1 hm] at this; omega
 refine qab (fun c1=>?_) (fun c1=>?_)
 ·refine bad ?_ (h.sub (List.sublist_cons_self _ _))
  rw [hread,if_neg (by rw [Bool.not_eq_true'] at c1; rw [c1]; decide)]
 ·rw [Bool.not_eq_false'] at c1
  refine Own.ldA (cl:=qaa) h 0 rfl x rfl ?_
  refine Own.st' h 1 rfl (ndV x) rfl rfl (Nat.le_of_ble_eq_true rfl) fun w36 h36 f36=>?_
  refine Own.ldA (cl:=qaa) h36 1 rfl x rfl ?_
  rw [if_pos c1] at hread
  have:=kk x B w36 (by
   rw [hread]
   exact (hN.frame f36 hr1 (fun c hc=>.inl (by rw [List.mem_singleton.1 hc]; simp [h1l])) (fun c hc=>.inl hc)).weak fun c hc=>.inl (by
    rcases List.mem_append.1 hc with hc | hc
    ·exact List.mem_append_left _ (List.mem_range.2 (Nat.lt_of_lt_of_le (List.mem_range.1 hc) hsz))
    ·exact List.mem_append_right _ hc)) h36.fr (fun c hc=>Nat.le_trans hsz (hBn c hc))
  rw [hread] at this
  exact this
end
end
end Go.Proofs.YtmmkegapckbomaaGreatDoor
end
section
set_option linter.unusedVariables false
set_option linter.unusedSimpArgs false
namespace Go.Proofs.YtmmkegapckbomaaGreatDoor
open Go Go.Pt
open Classical
section
variable {D:DiskM} {M M':PgM} {k v:Nat}
theorem Step.part {M1:PgM} {a x b y:List Int} (hu:∀ z∈a++(x++b),InUse M z) (hn:(a++(x++b)).Nodup) (h:Step D M M1 x y):Step D M M1 (a++(x++b)) (a++(y++b)):=by
 have pm:(a++(x++b)).Perm ((a++b)++x):=qfq (z:=a)
 exact ((h.beside (Z:=a++b) (fun z hz=>hu z (pm.mem_iff.2 (List.mem_append_left _ hz))) (pm.nodup_iff.1 hn)).perm pm.symm (qfq (z:=a)).symm)
theorem Step.kid {M1 M2:PgM} {p:Int} {R R' Q:List Int} (hu:∀ z∈p::R,InUse M z) (hn:(p::R).Nodup) (h1:Step D M M1 R R') (h2:Step D M1 M2 [p] Q):Step D M M2 (p::R) (Q++R'):=by
 have:=Step.node (D:=D) (p:=p) (a:=[]) (b:=[]) (x:=R) (y:=R') (Q:=Q) (by simpa using hu) (by simpa using hn) h1 h2
 simpa using this
theorem qgo {A B:List Ent} {e1 e2:Ent}:((A++e1::e2::B).map (·.1)).tail.getD A.length []=e2.1:=by
 cases A with
 | nil=>rfl
 | cons a A=>simp
theorem qdb {A B:List Ent} {e1 e2:Ent}:((A++e1::e2::B).map (·.2.page)).getD A.length 0=e1.2.page/\((A++e1::e2::B).map (·.2.page)).getD (A.length+1) 0=e2.2.page:=by
 constructor
 ·simp
 ·simp
theorem qtI {A B:List Ent} {e1 e2:Ent} {s1 s2:Seg} {m:Key}:(⟨false,((A++e1::e2::B).map (·.1)).tail.set A.length m,[],(((A++e1::e2::B).map (·.2.page)).set A.length s1.page).set (A.length+1) s2.page⟩:NodeM)=inOf (A++(e1.1,s1)::(m,s2)::B):=by
 unfold inOf
 congr 1
 ·cases A with
  | nil=>rfl
  | cons a A=>simp [List.set_append_right]
 ·simp [List.set_append_right]
theorem qts {A B:List Ent} {e1 e2:Ent} {s:Seg}:(⟨false,delAt ((A++e1::e2::B).map (·.1)).tail A.length,[],delAt (((A++e1::e2::B).map (·.2.page)).set A.length s.page) (A.length+1)⟩:NodeM)=inOf (A++(e1.1,s)::B):=by
 have hl:(A.map (·.2.page)).length=A.length:=List.length_map _
 unfold inOf delAt
 congr 1
 ·cases A with
  | nil=>rfl
  | cons a A=>
   have e1':((a::A++e1::e2::B).map (·.1)).tail=(A.map (·.1)++[e1.1])++(e2.1::B.map (·.1)):=by simp
   have e2':((a::A++(e1.1,s)::B).map (·.1)).tail=(A.map (·.1)++[e1.1])++B.map (·.1):=by simp
   have hl2:(A.map (·.1)++[e1.1]).length=(a::A).length:=by simp
   rw [e1',e2',List.take_left' hl2,<- hl2,List.drop_length_add_append]
   rfl
 ·have e1':((A++e1::e2::B).map (·.2.page)).set A.length s.page=(A.map (·.2.page)++[s.page])++(e2.2.page::B.map (·.2.page)):=by
   rw [List.map_append,List.set_append_right _ _ (by omega),hl,Nat.sub_self]
   simp
  have hl2:(A.map (·.2.page)++[s.page]).length=A.length+1:=by simp
  rw [e1',List.take_left' hl2,<- hl2,List.drop_length_add_append]
  simp
theorem qtT {A B:List Ent} {e:Ent} {s:Seg}:(⟨false,((A++e::B).map (·.1)).tail,[],((A++e::B).map (·.2.page)).set A.length s.page⟩:NodeM)=inOf (A++(e.1,s)::B):=by
 have hl:(A.map (·.2.page)).length=A.length:=List.length_map _
 unfold inOf
 congr 1
 ·cases A with
  | nil=>rfl
  | cons a A=>simp
 ·rw [List.map_append,List.set_append_right _ _ (by omega),hl,Nat.sub_self]
  simp
structure Nbrs (D:DiskM) (M:PgM) (k v:Nat) (h:Nat) (A B:List Ent) (e1 e2:Ent) (Nl Nr:NodeM) (n1 n2:Nat) (L1 L2:Prs) (R1 R2:List Int):Prop where
 wf:M.Wf
 over:M.over=false
 head:((A++e1::e2::B).map (·.1)).head?=some []
 keys:KeysOk k (A++e1::e2::B)
 sep:SepE (A++(e1.1,⟨0,0,L1,[]⟩)::(e2.1,⟨0,0,L2,[]⟩)::B)
 len:A.length+B.length+2<=(capsV k v).2
 rest:∀ b,b∈A\/b∈B->Has D M k v h b.2/\minOf k v h<=b.2.size
 left:HasN D M k v h Nl n1 L1 R1
 right:HasN D M k v h Nr n2 L2 R2
 use:∀ x∈A.flatMap (·.2.pages)++(((e1.2.page::R1)++(e2.2.page::R2))++B.flatMap (·.2.pages)),InUse M x
 nodup:(A.flatMap (·.2.pages)++(((e1.2.page::R1)++(e2.2.page::R2))++B.flatMap (·.2.pages))).Nodup
theorem Nbrs.mids {h:Nat} {A B:List Ent} {e1 e2:Ent} {Nl Nr:NodeM} {n1 n2:Nat} {L1 L2:Prs} {R1 R2:List Int} (H:Nbrs D M k v h A B e1 e2 Nl Nr n1 n2 L1 L2 R1 R2):(∀ x∈L1,KLt x.1 e2.1)/\(∀ y∈L2,KLe e2.1 y.1)/\e2.1.length=k/\IsB e2.1:=by
 have hp:=List.pairwise_append.1 H.sep.pair
 have hc:=List.pairwise_cons.1 hp.2.1
 have hk:=H.keys e2 (by cases A <;> simp)
 exact ⟨(hc.1 (e2.1,⟨0,0,L2,[]⟩) (by simp)).2,H.sep.low (e2.1,⟨0,0,L2,[]⟩) (by simp),hk⟩
theorem qo8 (hc:CapsOk k v) {h:Nat} {A B:List Ent} {e1 e2:Ent} {Nl Nr:NodeM} {n1 n2:Nat} {L1 L2:Prs} {R1 R2:List Int} (H:Nbrs D M k v h A B e1 e2 Nl Nr n1 n2 L1 L2 R1 R2) {r:NodeM×NodeM×Key} (hr:TwoOk D M k v h r (L1++L2) (R1++R2)) (hf:2<=M.free.length) :
  ∃ N M' R,bothM k v M (inOf (A++e1::e2::B)) A.length r=((N,0),M')/\HasN D M' k v (h+1) N (A.length+B.length+2) (A.flatMap (·.2.prs)++((L1++L2)++B.flatMap (·.2.prs))) R/\
   Step D M M' (A.flatMap (·.2.pages)++(((e1.2.page::R1)++(e2.2.page::R2))++B.flatMap (·.2.pages))) R/\M.free.length<=M'.free.length+2:=by
 obtain ⟨m1,K1,Q1,m2,K2,Q2,hl',hr',eL,eR,hlt,hle,hmk,hmb,hn1,hn2,hne1,hne2⟩:=hr.res
 have hmn:=hc.min h
 have hus:=H.use
 have hnd:=H.nodup
 have pm:(((e1.2.page::R1)++(e2.2.page::R2))).Perm (e1.2.page::e2.2.page::(R1++R2)):=by
  rw [List.cons_append]
  exact (List.perm_middle).cons _
 rw [<- eR] at pm
 have hmem:∀ x,x∈e1.2.page::e2.2.page::(Q1++Q2)->x∈A.flatMap (·.2.pages)++(((e1.2.page::R1)++(e2.2.page::R2))++B.flatMap (·.2.pages)):=fun x hx=>List.mem_append_right _ (List.mem_append_left _ (pm.mem_iff.2 hx))
 have hnd2:(e1.2.page::e2.2.page::(Q1++Q2)).Nodup:=pm.nodup_iff.1 (List.nodup_append.1 (List.nodup_append.1 hnd).2.1).1
 have hn1':=List.nodup_cons.1 hnd2
 have hn2':=List.nodup_cons.1 hn1'.2
 have hu1:=hus _ (hmem e1.2.page (by simp))
 have hu2:=hus _ (hmem e2.2.page (by simp))
 obtain ⟨q1,M1,s1,st1,H1,hf1⟩:=hl'.store H.wf H.over (by omega) hu1 (fun hm=>hn1'.1 (List.mem_cons_of_mem _ (List.mem_append_left _ hm))) (by omega)
 have rest1:∀ x,InUse M x->x≠e1.2.page->pagerReadM D M1 x=pagerReadM D M x/\InUse M1 x/\x≠q1:=fun x hx hne=>by
  have:=st1.rest x hx (by simpa using hne)
  exact ⟨this.1,this.2.1,by simpa using this.2.2⟩
 have hne12:e2.2.page≠e1.2.page:=fun e=>hn1'.1 (by rw [e]; simp)
 have hr1:HasN D M1 k v h r.2.1 m2 K2 Q2:=hr'.frame fun x hx=>(rest1 x (hus x (hmem x (by simp [hx]))) (fun e=>hn1'.1 (by rw [<- e]; simp [hx]))).1
 obtain ⟨q2,M2,s2,st2,H2,hf2⟩:=hr1.store st1.wf st1.over (by omega) (rest1 _ hu2 hne12).2.1 (fun hm=>hn2'.1 (List.mem_append_right _ hm)) (by omega)
 have rest2:∀ x,InUse M1 x->x≠e2.2.page->pagerReadM D M2 x=pagerReadM D M1 x/\InUse M2 x/\x≠q2:=fun x hx hne=>by
  have:=st2.rest x hx (by simpa using hne)
  exact ⟨this.1,this.2.1,by simpa using this.2.2⟩
 have hu1q:∀ x∈q1::Q1,InUse M1 x/\x≠e2.2.page:=fun x hx=>by
  refine ⟨H1.used st1.over x hx,fun e=>?_⟩
  rcases List.mem_cons.1 hx with e' | hx
  ·rcases st1.new q1 (by simp) with h9 | h9
   ·exact hne12 (by rw [<- e,e',List.mem_singleton.1 h9])
   ·exact h9 (by rw [<- e',e]; exact hu2)
  ·exact hn2'.1 (List.mem_append_left _ (e▸hx))
 have H1':Has D M2 k v h ⟨q1,m1,K1,q1::Q1⟩:=H1.frame fun x hx=>(rest2 x (hu1q x hx).1 (hu1q x hx).2).1
 have oth:∀ b,b∈A\/b∈B->∀ x∈b.2.pages,InUse M x/\x≠e1.2.page/\x≠e2.2.page:=fun b hb x hx=>by
  have hd:=List.nodup_append.1 hnd
  have hd2:=List.nodup_append.1 hd.2.1
  have h12:∀ z,z=e1.2.page\/z=e2.2.page->z∈(e1.2.page::R1)++(e2.2.page::R2):=fun z hz=>pm.mem_iff.2 (by rcases hz with rfl | rfl <;> simp)
  have key:∀ z,z=e1.2.page\/z=e2.2.page->x≠z:=fun z hz e=>by
   rcases hb with hb | hb
   ·exact hd.2.2 x (List.mem_flatMap.2 ⟨b,hb,hx⟩) z (List.mem_append_left _ (h12 z hz)) e
   ·exact hd2.2.2 z (h12 z hz) x (List.mem_flatMap.2 ⟨b,hb,hx⟩) e.symm
  refine ⟨hus x ?_,key _ (.inl rfl),key _ (.inr rfl)⟩
  rcases hb with hb | hb
  ·exact List.mem_append_left _ (List.mem_flatMap.2 ⟨b,hb,hx⟩)
  ·exact List.mem_append_right _ (List.mem_append_right _ (List.mem_flatMap.2 ⟨b,hb,hx⟩))
 have hrest:∀ b,b∈A\/b∈B->Has D M2 k v h b.2/\minOf k v h<=b.2.size:=fun b hb=>⟨(H.rest b hb).1.frame fun x hx=>by
  have h9:=oth b hb x hx
  have h8:=rest1 x h9.1 h9.2.1
  exact ((rest2 x h8.2.1 h9.2.2).1).trans h8.1,(H.rest b hb).2⟩
 have hL:K1++K2=L1++L2:=eL
 have hsep:SepE (A++(e1.1,(⟨q1,m1,K1,q1::Q1⟩:Seg))::(r.2.2,⟨q2,m2,K2,q2::Q2⟩)::B):=by
  have hS:=H.sep
  have hp:=List.pairwise_append.1 hS.pair
  have hc1:=List.pairwise_cons.1 hp.2.1
  have hc2:=List.pairwise_cons.1 hc1.2
  have hj:SepE (A++(e1.1,(⟨0,0,L1++L2,[]⟩:Seg))::B):=by
   refine ⟨List.pairwise_append.2 ⟨hp.1,List.pairwise_cons.2 ⟨fun b hb=>⟨(hc1.1 b (by simp [hb])).1,fun x hx=>?_⟩,hc2.2⟩,fun a ha b hb=>?_⟩,fun b hb x hx=>?_⟩
   ·rcases List.mem_append.1 hx with hx | hx
    ·exact (hc1.1 b (by simp [hb])).2 x hx
    ·exact (hc2.1 b hb).2 x hx
   ·rcases List.mem_cons.1 hb with rfl | hb
    ·exact hp.2.2 a ha (e1.1,⟨0,0,L1,[]⟩) (by simp)
    ·exact hp.2.2 a ha b (by simp [hb])
   ·rcases List.mem_append.1 hb with hb | hb
    ·exact hS.low b (by simp [hb]) x hx
    rcases List.mem_cons.1 hb with rfl | hb
    ·rcases List.mem_append.1 hx with hx | hx
     ·exact hS.low (e1.1,⟨0,0,L1,[]⟩) (by simp) x hx
     ·have h9:=hS.low (e2.1,⟨0,0,L2,[]⟩) (by simp) x hx
      exact qbZ (qaP (hc1.1 (e2.1,⟨0,0,L2,[]⟩) (by simp)).1) h9
    ·exact hS.low b (by simp [hb]) x hx
  exact hj.cut2 hL.symm hlt hle hne1 hne2
 have hkeys:KeysOk k (A++(e1.1,(⟨q1,m1,K1,q1::Q1⟩:Seg))::(r.2.2,⟨q2,m2,K2,q2::Q2⟩)::B):=by
  have h9:KeysOk k (A++e1::B):=fun b hb=>H.keys b (by
   cases A with
   | nil=>exact List.mem_cons_of_mem _ hb
   | cons a A=>
    rcases List.mem_append.1 (show b∈A++e1::B from hb) with hb | hb
    ·exact List.mem_append_left (e1::e2::B) hb
    ·exact List.mem_append_right A ((List.mem_cons.1 hb).elim (fun e=>by rw [e]; simp) fun hb=>by simp [hb]))
  exact qnH h9 ⟨hmk,hmb⟩
 have hhead:((A++(e1.1,(⟨q1,m1,K1,q1::Q1⟩:Seg))::(r.2.2,⟨q2,m2,K2,q2::Q2⟩)::B).map (·.1)).head?=some []:=by
  have h9:=H.head
  cases A with
  | nil=>exact h9
  | cons a A=>exact h9
 refine ⟨inOf (A++(e1.1,(⟨q1,m1,K1,q1::Q1⟩:Seg))::(r.2.2,⟨q2,m2,K2,q2::Q2⟩)::B),M2,_,?_,⟨_,hhead,rfl,by simp; omega,?_,rfl,hkeys,hsep,H.len,fun b hb=>?_⟩,?_,by omega⟩
 ·have hk1:(inOf (A++e1::e2::B)).kids.getD A.length 0=e1.2.page:=qdb.1
  have hk2:(inOf (A++e1::e2::B)).kids.getD (A.length+1) 0=e2.2.page:=qdb.2
  unfold bothM
  rw [hk1,hk2,s1]
  dsimp only
  rw [if_neg (fun h=>h rfl),s2]
  exact congrArg (fun N=>((N,(0:Int)),M2)) (qtI (s1:=⟨q1,m1,K1,q1::Q1⟩) (s2:=⟨q2,m2,K2,q2::Q2⟩))
 ·rw [qaC,List.flatMap_cons,<- hL,List.append_assoc]
 ·rcases List.mem_append.1 hb with hb | hb
  ·exact hrest b (.inl hb)
  rcases List.mem_cons.1 hb with rfl | hb
  ·exact ⟨H1',hn1⟩
  rcases List.mem_cons.1 hb with rfl | hb
  ·exact ⟨H2,hn2⟩
  ·exact hrest b (.inr hb)
 ·have t1:Step D M M1 (e1.2.page::e2.2.page::(Q1++Q2)) ([q1]++e2.2.page::(Q1++Q2)):=by
   have:=st1.beside (Z:=e2.2.page::(Q1++Q2)) (fun x hx=>hus x (hmem x (List.mem_cons_of_mem _ hx))) (by
    have p9:(e1.2.page::e2.2.page::(Q1++Q2)).Perm ((e2.2.page::(Q1++Q2))++[e1.2.page]):=(List.perm_append_singleton _ _).symm
    exact p9.nodup_iff.1 hnd2)
   exact this.perm (List.perm_append_singleton _ _) List.perm_append_comm
  have hu1':∀ x∈[q1]++(Q1++Q2),InUse M1 x:=fun x hx=>t1.has x (by
   rcases List.mem_append.1 hx with hx | hx
   ·exact List.mem_append_left _ hx
   ·exact List.mem_append_right _ (List.mem_cons_of_mem _ hx))
  have p8:([q1]++e2.2.page::(Q1++Q2)).Perm (([q1]++(Q1++Q2))++[e2.2.page]):=by
   refine List.perm_middle.trans ?_
   exact (List.perm_append_singleton _ _).symm
  have t2:=st2.beside (Z:=[q1]++(Q1++Q2)) hu1' (p8.nodup_iff.1 t1.nodup)
  have t3:=(t1.perm (.refl _) p8).trans t2
  have p7:(([q1]++(Q1++Q2))++[q2]).Perm ((q1::Q1)++(q2::Q2)):=by
   show (q1::((Q1++Q2)++[q2])).Perm (q1::(Q1++q2::Q2))
   refine List.Perm.cons _ ((List.perm_append_singleton _ _).trans ?_)
   exact List.perm_middle.symm
  have t4:=Step.part (D:=D) (a:=A.flatMap (·.2.pages)) (b:=B.flatMap (·.2.pages)) hus hnd (t3.perm pm.symm p7)
  rw [qaC,List.flatMap_cons]
  refine t4.perm (.refl _) ?_
  rw [List.append_assoc]
end
section
section
variable {D:DiskM} {M M':PgM} {k v:Nat}
theorem qlU {n:Int} (hW:M.Wf) (ho:M.over=false) (hu:InUse M n):∃ M',dropV M n=(0,M')/\Step D M M' [n] []/\M.free.length<=M'.free.length:=by
 obtain ⟨M',e,t,hr,hq,hl⟩:=qh5 (D:=D) (q:=n+1) hW ho hu (by omega)
 have rd:∀ x,x≠n->pagerReadM D M' x=pagerReadM D M x/\(InUse M' x↔InUse M x):=fun x hx=>by
  by_cases hq':x=n+1
  ·rw [hq']; exact ⟨hr,hq⟩
  ·exact ⟨t.rest x hq' hx,t.use x hq' hx⟩
 refine ⟨M',e,⟨t.wf,t.over,t.roots,t.sup,t.lists,t.named,t.Named,t.turn,fun x hx hxn=>?_,fun x hx=>?_,fun x hx=>(nomatch hx),fun x hx=>(nomatch hx),.nil,t.old⟩,hl⟩
 ·have hxn:x≠n:=by simpa using hxn
  exact ⟨(rd x hxn).1,(rd x hxn).2.2 hx,by simp⟩
 ·by_cases hxn:x=n
  ·subst hxn; exact absurd hx (t.left (by omega))
  ·exact .inr ⟨(rd x hxn).2.1 hx,by simpa using hxn⟩
theorem qlv (hc:CapsOk k v) {h:Nat} {A B:List Ent} {e1 e2:Ent} {Nl Nr:NodeM} {n1 n2:Nat} {L1 L2:Prs} {R1 R2:List Int} (H:Nbrs D M k v h A B e1 e2 Nl Nr n1 n2 L1 L2 R1 R2) (h1:n1+n2<=(if h=0 then (capsV k v).1 else (capsV k v).2)) (h2:minOf k v h<=n1+n2) (hf:1<=M.free.length) :
  ∃ N M' R,joinM k v M (inOf (A++e1::e2::B)) A.length Nl Nr=((N,0),M')/\HasN D M' k v (h+1) N (A.length+B.length+1) (A.flatMap (·.2.prs)++((L1++L2)++B.flatMap (·.2.prs))) R/\
   Step D M M' (A.flatMap (·.2.pages)++(((e1.2.page::R1)++(e2.2.page::R2))++B.flatMap (·.2.pages))) R/\M.free.length<=M'.free.length+1:=by
 obtain ⟨hm1,hm2,hm3,hm4⟩:=H.mids
 have hJ:=qtD H.left H.right h1 hm1 hm2 ⟨hm3,hm4⟩
 have hmn:=hc.min h
 have hus:=H.use
 have hnd:=H.nodup
 have pm:(((e1.2.page::R1)++(e2.2.page::R2))).Perm (e1.2.page::e2.2.page::(R1++R2)):=by
  rw [List.cons_append]
  exact (List.perm_middle).cons _
 have hmem:∀ x,x∈e1.2.page::e2.2.page::(R1++R2)->x∈A.flatMap (·.2.pages)++(((e1.2.page::R1)++(e2.2.page::R2))++B.flatMap (·.2.pages)):=fun x hx=>List.mem_append_right _ (List.mem_append_left _ (pm.mem_iff.2 hx))
 have hnd2:(e1.2.page::e2.2.page::(R1++R2)).Nodup:=pm.nodup_iff.1 (List.nodup_append.1 (List.nodup_append.1 hnd).2.1).1
 have hn1':=List.nodup_cons.1 hnd2
 have hn2':=List.nodup_cons.1 hn1'.2
 have hu1:=hus _ (hmem e1.2.page (by simp))
 have hu2:=hus _ (hmem e2.2.page (by simp))
 obtain ⟨q,M1,s1,st1,H1,hf1⟩:=hJ.store H.wf H.over (by omega) hu1 (fun hm=>hn1'.1 (List.mem_cons_of_mem _ hm)) hf
 have hne12:e2.2.page≠e1.2.page:=fun e=>hn1'.1 (by rw [e]; simp)
 have rest1:∀ x,InUse M x->x≠e1.2.page->pagerReadM D M1 x=pagerReadM D M x/\InUse M1 x/\x≠q:=fun x hx hne=>by
  have:=st1.rest x hx (by simpa using hne)
  exact ⟨this.1,this.2.1,by simpa using this.2.2⟩
 obtain ⟨M2,s2,st2,hf2⟩:=qlU (D:=D) st1.wf st1.over (rest1 _ hu2 hne12).2.1
 have rest2:∀ x,InUse M1 x->x≠e2.2.page->pagerReadM D M2 x=pagerReadM D M1 x/\InUse M2 x:=fun x hx hne=>by
  have:=st2.rest x hx (by simpa using hne)
  exact ⟨this.1,this.2.1⟩
 have H1':Has D M2 k v h ⟨q,n1+n2,L1++L2,q::(R1++R2)⟩:=H1.frame fun x hx=>(rest2 x (H1.used st1.over x hx) (fun e=>by
  rcases List.mem_cons.1 hx with e' | hx
  ·exact (rest1 _ hu2 hne12).2.2 (by rw [<- e,e'])
  ·exact hn2'.1 (e▸hx))).1
 have oth:∀ b,b∈A\/b∈B->∀ x∈b.2.pages,InUse M x/\x≠e1.2.page/\x≠e2.2.page:=fun b hb x hx=>by
  have hd:=List.nodup_append.1 hnd
  have hd2:=List.nodup_append.1 hd.2.1
  have h12:∀ z,z=e1.2.page\/z=e2.2.page->z∈(e1.2.page::R1)++(e2.2.page::R2):=fun z hz=>pm.mem_iff.2 (by rcases hz with rfl | rfl <;> simp)
  have key:∀ z,z=e1.2.page\/z=e2.2.page->x≠z:=fun z hz e=>by
   rcases hb with hb | hb
   ·exact hd.2.2 x (List.mem_flatMap.2 ⟨b,hb,hx⟩) z (List.mem_append_left _ (h12 z hz)) e
   ·exact hd2.2.2 z (h12 z hz) x (List.mem_flatMap.2 ⟨b,hb,hx⟩) e.symm
  refine ⟨hus x ?_,key _ (.inl rfl),key _ (.inr rfl)⟩
  rcases hb with hb | hb
  ·exact List.mem_append_left _ (List.mem_flatMap.2 ⟨b,hb,hx⟩)
  ·exact List.mem_append_right _ (List.mem_append_right _ (List.mem_flatMap.2 ⟨b,hb,hx⟩))
 have hrest:∀ b,b∈A\/b∈B->Has D M2 k v h b.2/\minOf k v h<=b.2.size:=fun b hb=>⟨(H.rest b hb).1.frame fun x hx=>by
  have h9:=oth b hb x hx
  have h8:=rest1 x h9.1 h9.2.1
  exact ((rest2 x h8.2.1 h9.2.2).1).trans h8.1,(H.rest b hb).2⟩
 have hS:=H.sep
 have hp:=List.pairwise_append.1 hS.pair
 have hc1:=List.pairwise_cons.1 hp.2.1
 have hc2:=List.pairwise_cons.1 hc1.2
 have hsep:SepE (A++(e1.1,(⟨q,n1+n2,L1++L2,q::(R1++R2)⟩:Seg))::B):=by
  refine ⟨List.pairwise_append.2 ⟨hp.1,List.pairwise_cons.2 ⟨fun b hb=>⟨(hc1.1 b (by simp [hb])).1,fun x hx=>?_⟩,hc2.2⟩,fun a ha b hb=>?_⟩,fun b hb x hx=>?_⟩
  ·rcases List.mem_append.1 hx with hx | hx
   ·exact (hc1.1 b (by simp [hb])).2 x hx
   ·exact (hc2.1 b hb).2 x hx
  ·rcases List.mem_cons.1 hb with rfl | hb
   ·exact hp.2.2 a ha (e1.1,⟨0,0,L1,[]⟩) (by simp)
   ·exact hp.2.2 a ha b (by simp [hb])
  ·rcases List.mem_append.1 hb with hb | hb
   ·exact hS.low b (by simp [hb]) x hx
   rcases List.mem_cons.1 hb with rfl | hb
   ·rcases List.mem_append.1 hx with hx | hx
    ·exact hS.low (e1.1,⟨0,0,L1,[]⟩) (by simp) x hx
    ·have h9:=hS.low (e2.1,⟨0,0,L2,[]⟩) (by simp) x hx
     exact qbZ (qaP (hc1.1 (e2.1,⟨0,0,L2,[]⟩) (by simp)).1) h9
   ·exact hS.low b (by simp [hb]) x hx
 have hkeys:KeysOk k (A++(e1.1,(⟨q,n1+n2,L1++L2,q::(R1++R2)⟩:Seg))::B):=by
  have h9:KeysOk k (A++e1::B):=fun b hb=>H.keys b (by
   cases A with
   | nil=>exact List.mem_cons_of_mem _ hb
   | cons a A=>
    rcases List.mem_append.1 (show b∈A++e1::B from hb) with hb | hb
    ·exact List.mem_append_left (e1::e2::B) hb
    ·exact List.mem_append_right A ((List.mem_cons.1 hb).elim (fun e=>by rw [e]; simp) fun hb=>by simp [hb]))
  exact qjd h9
 have hhead:((A++(e1.1,(⟨q,n1+n2,L1++L2,q::(R1++R2)⟩:Seg))::B).map (·.1)).head?=some []:=by
  have h9:=H.head
  cases A with
  | nil=>exact h9
  | cons a A=>exact h9
 have hlen:=H.len
 refine ⟨inOf (A++(e1.1,(⟨q,n1+n2,L1++L2,q::(R1++R2)⟩:Seg))::B),M2,_,?_,⟨_,hhead,rfl,by simp; omega,by rw [qaC],rfl,hkeys,hsep,by omega,fun b hb=>?_⟩,?_,by omega⟩
 ·have hk1:(inOf (A++e1::e2::B)).kids.getD A.length 0=e1.2.page:=qdb.1
  have hk2:(inOf (A++e1::e2::B)).kids.getD (A.length+1) 0=e2.2.page:=qdb.2
  have hk3:(inOf (A++e1::e2::B)).keys.getD A.length []=e2.1:=qgo
  unfold joinM
  rw [hk1,hk2,hk3,s1]
  dsimp only
  rw [if_neg (fun h=>h rfl),s2]
  dsimp only
  rw [if_neg (fun h=>h rfl)]
  exact congrArg (fun N=>((N,(0:Int)),M2)) (qts (s:=⟨q,n1+n2,L1++L2,q::(R1++R2)⟩))
 ·rcases List.mem_append.1 hb with hb | hb
  ·exact hrest b (.inl hb)
  rcases List.mem_cons.1 hb with rfl | hb
  ·exact ⟨H1',h2⟩
  ·exact hrest b (.inr hb)
 ·have t1:Step D M M1 (e1.2.page::e2.2.page::(R1++R2)) ([q]++e2.2.page::(R1++R2)):=by
   have:=st1.beside (Z:=e2.2.page::(R1++R2)) (fun x hx=>hus x (hmem x (List.mem_cons_of_mem _ hx))) (by
    have p9:(e1.2.page::e2.2.page::(R1++R2)).Perm ((e2.2.page::(R1++R2))++[e1.2.page]):=(List.perm_append_singleton _ _).symm
    exact p9.nodup_iff.1 hnd2)
   exact this.perm (List.perm_append_singleton _ _) List.perm_append_comm
  have p8:([q]++e2.2.page::(R1++R2)).Perm (([q]++(R1++R2))++[e2.2.page]):=by
   refine List.perm_middle.trans ?_
   exact (List.perm_append_singleton _ _).symm
  have t2:=st2.beside (Z:=[q]++(R1++R2)) (fun x hx=>t1.has x (by
   rcases List.mem_append.1 hx with hx | hx
   ·exact List.mem_append_left _ hx
   ·exact List.mem_append_right _ (List.mem_cons_of_mem _ hx))) (p8.nodup_iff.1 t1.nodup)
  have t3:=(t1.perm (.refl _) p8).trans t2
  rw [List.append_nil] at t3
  have t4:=Step.part (D:=D) (a:=A.flatMap (·.2.pages)) (b:=B.flatMap (·.2.pages)) hus hnd (t3.perm pm.symm (.refl _))
  rw [qaC]
  exact t4
theorem SepE.swap {A B:List Ent} {e:Ent} {s:Seg} (h:SepE (A++e::B)) (hs:∀ x∈s.prs,x∈e.2.prs):SepE (A++(e.1,s)::B):=
 h.put (key:=e.1) qax (fun b hb=>(h.mid.2 b hb).1) fun x hx=>.inr (hs x hx)
theorem qkU (hc:CapsOk k v) {key:Key}:∀ (h:Nat) (M:PgM) (s:Seg),Has D M k v h s->M.Wf->M.over=false->s.pages.Nodup->key∈keysP s.prs->2*h<=M.free.length->
  ∃ N n M' R R',cutN D k v key (h+1) M s.page=((N,0),M')/\s.pages=s.page::R/\HasN D M' k v h N n (cutP key s.prs) R'/\Step D M M' R R'/\s.size<=n+1/\M.free.length<=M'.free.length+2*h
 | 0,M,s,hs,hW,ho,hnd,hkey,hf=>by
  obtain ⟨N,R,hl,hN,hp,hlf,_⟩:=hs.load
  have hN0:=hN
  obtain ⟨rfl,hn,rfl,hL,hsr,hcap⟩:=hN
  have hcut:=qjn hsr hkey
  have hm:=(qbE hsr).2 hkey
  have hi:placeV (keysP s.prs) key<s.prs.length:=by
   have:=(List.getElem?_eq_some_iff.1 hm).1
   simpa using this
  have hlen:(cutP key s.prs).length+1=s.prs.length:=by rw [hcut,List.length_append,List.length_take,List.length_drop]; omega
  refine ⟨lfOf (cutP key s.prs),(cutP key s.prs).length,M,[],[],?_,hp,⟨rfl,rfl,rfl,fun x hx=>hL x (qiC.1 hx).1,qqV hsr,by omega⟩,Step.refl hW ho (fun x hx=>nomatch hx) .nil,by omega,by omega⟩
  unfold cutN
  rw [hl]
  dsimp only
  rw [if_neg (fun h=>h rfl),if_pos (show (lfOf s.prs).leaf=true from rfl),if_pos (show (lfOf s.prs).keys[placeV (lfOf s.prs).keys key]?=some key from hm)]
  refine congrArg (fun N=>((N,(0:Int)),M)) ?_
  rw [hcut]
  unfold lfOf delAt
  simp only [List.map_append,List.map_take,List.map_drop]
 | h+1,M,⟨p,n,L,P⟩,⟨es,h0,h1,h2,h3,h4,h5,h6,h7⟩,hW,ho,hnd,hkey,hf=>by
  dsimp only at h1 h2 h3 h5 hnd hkey
  subst h1 h2 h3
  have hl:loadN D M k v p=(inOf es,0):=h4.load h5
  have htwo:=h4.right.innerTwo
  obtain ⟨A,e,B,hes,hA,hke,hkB,hpage⟩:=qff (key:=key) h0 h6
  have hkids:(inOf es).kids.getD (kidV (inOf es).keys key) 0=e.2.page:=hpage
  have hcA:kidV (inOf es).keys key=A.length:=hA.symm
  have hem:e∈es:=by rw [hes]; simp
  obtain ⟨heh,hemin⟩:=h7 e hem
  have hflat:es.flatMap (·.2.pages)=A.flatMap (·.2.pages)++(e.2.pages++B.flatMap (·.2.pages)):=by rw [hes,qaC]
  have hflatp:es.flatMap (·.2.prs)=A.flatMap (·.2.prs)++(e.2.prs++B.flatMap (·.2.prs)):=by rw [hes,qaC]
  have hus:∀ z∈A.flatMap (·.2.pages)++(e.2.pages++B.flatMap (·.2.pages)),InUse M z:=fun z hz=>by
   rw [<- hflat] at hz
   obtain ⟨b,hb,hz⟩:=List.mem_flatMap.1 hz
   exact (h7 b hb).1.used ho z hz
  have hnd2:(A.flatMap (·.2.pages)++(e.2.pages++B.flatMap (·.2.pages))).Nodup:=by rw [<- hflat]; exact (List.nodup_cons.1 hnd).2
  have hnde:e.2.pages.Nodup:=(List.nodup_append.1 (List.nodup_append.1 hnd2).2.1).1
  have hmid:=h6
  rw [hes] at hmid
  have hmidm:=hmid.mid
  have hAk:∀ x∈A.flatMap (·.2.prs),KLt x.1 key:=fun x hx=>by
   obtain ⟨a,ha,hx⟩:=List.mem_flatMap.1 hx
   exact qbc (hmidm.1 a ha x hx) hke
  have hBk:∀ x∈B.flatMap (·.2.prs),KLt key x.1:=fun x hx=>by
   obtain ⟨b,hb,hx⟩:=List.mem_flatMap.1 hx
   exact qbc (hkB b hb) ((hmidm.2 b hb).2.2 x hx)
  have hcut:cutP key (es.flatMap (·.2.prs))=A.flatMap (·.2.prs)++(cutP key e.2.prs++B.flatMap (·.2.prs)):=by
   rw [hflatp,qjs hAk,qh0 hBk]
  have hkey2:key∈keysP e.2.prs:=by
   obtain ⟨x,hx,rfl⟩:=List.mem_map.1 hkey
   rw [hflatp] at hx
   rcases List.mem_append.1 hx with hx | hx
   ·exact absurd (hAk x hx) qax
   rcases List.mem_append.1 hx with hx | hx
   ·exact List.mem_map_of_mem hx
   ·exact absurd (hBk x hx) qax
  obtain ⟨N1,n1,M1,Re,Re',ec,hep,hN1,st,hsz,hfr⟩:=qkU hc h M e.2 heh hW ho hnde hkey2 (by omega)
  rw [hep] at hus hnd2 hnde
  have hkeysok:=KeysOk.of h4
  have hepn:e.2.page∉Re:=(List.nodup_cons.1 hnde).1
  have hue:InUse M e.2.page:=hus _ (by simp)
  have stE:Step D M M1 (e.2.page::Re) (e.2.page::Re'):=st.beside (Z:=[e.2.page]) (fun x hx=>by rw [List.mem_singleton.1 hx]; exact hue) (by simpa using hnde)
  have stA:=Step.part hus hnd2 stE
  have hue1:InUse M1 e.2.page:=(st.rest _ hue hepn).2.1
  have hepn':e.2.page∉Re':=(st.rest _ hue hepn).2.2
  have hrestAB:∀ b,b∈A\/b∈B->Has D M1 k v h b.2/\minOf k v h<=b.2.size:=fun b hb=>by
   have hbm:b∈es:=by rw [hes]; rcases hb with hb | hb <;> simp [hb]
   refine ⟨(h7 b hbm).1.frame fun x hx=>?_,(h7 b hbm).2⟩
   have hd:=List.nodup_append.1 hnd2
   refine (st.rest x ((h7 b hbm).1.used ho x hx) fun hm=>?_).1
   rcases hb with hb | hb
   ·exact hd.2.2 x (List.mem_flatMap.2 ⟨b,hb,hx⟩) x (List.mem_append_left _ (List.mem_cons_of_mem _ hm)) rfl
   ·exact (List.nodup_append.1 hd.2.1).2.2 x (List.mem_cons_of_mem _ hm) x (List.mem_flatMap.2 ⟨b,hb,hx⟩) rfl
  have hcap:n1<=(if h=0 then (capsV k v).1 else (capsV k v).2):=by
   cases h with
   | zero=>exact hN1.2.2.2.2.2
   | succ h=>obtain ⟨_,_,_,_,_,_,_,_,h9,_⟩:=hN1; exact h9
  have hmn:=hc.min h
  have hminC:minOf k v h=(if h=0 then (capsV k v).1 else (capsV k v).2) / 2:=by unfold minOf; split <;> rfl
  have hsep1:SepE (A++(e.1,(⟨0,0,cutP key e.2.prs,[]⟩:Seg))::B):=hmid.swap fun x hx=>(qiC.1 hx).1
  have hlenes:es.length=A.length+B.length+1:=by rw [hes]; simp; omega
  have fin:∀ {N:NodeM} {M2:PgM} {n R':_},HasN D M2 k v (h+1) N n (A.flatMap (·.2.prs)++(cutP key e.2.prs++B.flatMap (·.2.prs))) R'->HasN D M2 k v (h+1) N n (cutP key (es.flatMap (·.2.prs))) R':=fun h9=>by rw [hcut]; exact h9
  have finS:∀ {M2:PgM} {R':List Int},Step D M1 M2 (A.flatMap (·.2.pages)++((e.2.page::Re')++B.flatMap (·.2.pages))) R'->Step D M M2 (es.flatMap (·.2.pages)) R':=fun h9=>by
   rw [hflat,hep]
   exact stA.trans h9
  have hlow:lowN N1 k v↔n1<minOf k v h:=by
   unfold lowN
   rw [hN1.size,hminC]
  unfold cutN
  rw [hl]
  dsimp only
  rw [if_neg (fun h=>h rfl),if_neg (show ¬ (inOf es).leaf=true from fun e=>nomatch e),hkids,ec]
  dsimp only
  rw [if_neg (fun h=>h rfl),hcA]
  by_cases hlw:lowN N1 k v
  ·rw [if_neg (fun h=>h hlw)]
   have hlt:=hlow.1 hlw
   have hn1:n1+1=minOf k v h:=by omega
   by_cases hA0:A.length>0
   ·rw [if_pos hA0]
    obtain ⟨A',f,rfl⟩:∃ A' f,A=A'++[f]:=by
     have hne:A≠[]:=List.length_pos_iff.1 hA0
     exact ⟨A.dropLast,A.getLast hne,(List.dropLast_concat_getLast hne).symm⟩
    have hlA:(A'++[f]).length-1=A'.length:=by simp
    rw [hlA]
    have hff:=hrestAB f (.inl (by simp))
    obtain ⟨Ny,Ry,hly,hNy,hfp,_,_⟩:=hff.1.load
    have es1:es=A'++f::e::B:=by rw [hes]; simp
    have hfA:(A'++[f]).flatMap (·.2.pages)=A'.flatMap (·.2.pages)++f.2.pages:=by simp [List.flatMap_append]
    have hfAp:(A'++[f]).flatMap (·.2.prs)=A'.flatMap (·.2.prs)++f.2.prs:=by simp [List.flatMap_append]
    have hpgs:(A'++[f]).flatMap (·.2.pages)++((e.2.page::Re')++B.flatMap (·.2.pages))=A'.flatMap (·.2.pages)++(((f.2.page::Ry)++(e.2.page::Re'))++B.flatMap (·.2.pages)):=by
     rw [hfA,hfp]; simp only [List.append_assoc]
    have hprs:(A'++[f]).flatMap (·.2.prs)++(cutP key e.2.prs++B.flatMap (·.2.prs))=A'.flatMap (·.2.prs)++((f.2.prs++cutP key e.2.prs)++B.flatMap (·.2.prs)):=by
     rw [hfAp]; simp only [List.append_assoc]
    have hsp2:SepE (A'++(f.1,(⟨0,0,f.2.prs,[]⟩:Seg))::(e.1,⟨0,0,cutP key e.2.prs,[]⟩)::B):=by
     have h9:SepE (A'++f::((e.1,(⟨0,0,cutP key e.2.prs,[]⟩:Seg))::B)):=by simpa using hsep1
     exact h9.swap (s:=⟨0,0,f.2.prs,[]⟩) fun x hx=>hx
    have hall:=stA
    rw [hpgs] at hall
    have Hn:Nbrs D M1 k v h A' B f e Ny N1 f.2.size n1 f.2.prs (cutP key e.2.prs) Ry Re':=
     ⟨st.wf,st.over,by rw [<- es1]; exact h0,by rw [<- es1]; exact hkeysok,hsp2,by have:=htwo.2; rw [hlenes] at this; simp at this; omega,fun b hb=>hrestAB b (hb.imp (fun hb=>by simp [hb]) id),hNy,hN1,hall.has,hall.nodup⟩
    have hkd:(inOf es).kids.getD A'.length 0=f.2.page:=by rw [es1]; exact qdb.1
    have hspare:spareN Ny k v↔minOf k v h<f.2.size:=by
     unfold spareN
     rw [hNy.size,hminC]
    unfold evenM
    rw [hkd,hly]
    dsimp only
    rw [if_neg (fun h=>h rfl),if_pos (show A'.length<(A'++[f]).length by simp),es1]
    by_cases hsq:spareN Ny k v
    ·rw [if_neg (fun h=>h hsq)]
     obtain ⟨hm1,hm2,hm3,hm4⟩:=Hn.mids
     have hk3:(inOf (A'++f::e::B)).keys.getD A'.length []=e.1:=qgo
     rw [hk3]
     obtain ⟨N,M2,R,e2,hN2,st2,hf2⟩:=qo8 hc Hn (qt0 hc hNy hN1 (hspare.1 hsq) hn1 hm1 hm2 ⟨hm3,hm4⟩) (by omega)
     rw [<- hprs] at hN2
     rw [<- hpgs] at st2
     rw [<- es1]
     exact ⟨N,_,M2,_,R,by rw [es1]; exact e2,rfl,fin hN2,finS st2,by rw [hlenes]; simp; omega,by omega⟩
    ·rw [if_pos hsq]
     have hns:f.2.size<=minOf k v h:=Nat.le_of_not_lt fun h9=>hsq (hspare.2 h9)
     have hge:=hff.2
     obtain ⟨N,M2,R,e2,hN2,st2,hf2⟩:=qlv hc Hn (by omega) (by omega) (by omega)
     rw [<- hprs] at hN2
     rw [<- hpgs] at st2
     rw [<- es1]
     exact ⟨N,_,M2,_,R,by rw [es1]; exact e2,rfl,fin hN2,finS st2,by rw [hlenes]; simp; omega,by omega⟩
   ·rw [if_neg hA0]
    obtain rfl:A=[]:=List.eq_nil_of_length_eq_zero (by omega)
    obtain ⟨f,B',rfl⟩:∃ f B',B=f::B':=by
     cases B with
     | nil=>rw [hlenes] at htwo; simp at htwo
     | cons f B'=>exact ⟨f,B',rfl⟩
    have hff:=hrestAB f (.inr (by simp))
    obtain ⟨Ny,Ry,hly,hNy,hfp,_,_⟩:=hff.1.load
    have es1:es=[]++e::f::B':=hes
    have hpgs:([]:List Ent).flatMap (·.2.pages)++((e.2.page::Re')++(f::B').flatMap (·.2.pages))=([]:List Ent).flatMap (·.2.pages)++(((e.2.page::Re')++(f.2.page::Ry))++B'.flatMap (·.2.pages)):=by
     rw [List.flatMap_cons,hfp]; simp only [List.append_assoc]
    have hprs:([]:List Ent).flatMap (·.2.prs)++(cutP key e.2.prs++(f::B').flatMap (·.2.prs))=([]:List Ent).flatMap (·.2.prs)++((cutP key e.2.prs++f.2.prs)++B'.flatMap (·.2.prs)):=by
     rw [List.flatMap_cons]; simp only [List.append_assoc]
    have hsp2:SepE ([]++(e.1,(⟨0,0,cutP key e.2.prs,[]⟩:Seg))::(f.1,⟨0,0,f.2.prs,[]⟩)::B'):=by
     have h9:SepE ([(e.1,(⟨0,0,cutP key e.2.prs,[]⟩:Seg))]++f::B'):=hsep1
     exact h9.swap (s:=⟨0,0,f.2.prs,[]⟩) fun x hx=>hx
    have hall:=stA
    rw [hpgs] at hall
    have Hn:Nbrs D M1 k v h [] B' e f N1 Ny n1 f.2.size (cutP key e.2.prs) f.2.prs Re' Ry:=
     ⟨st.wf,st.over,by rw [<- es1]; exact h0,by rw [<- es1]; exact hkeysok,hsp2,by have:=htwo.2; rw [hlenes] at this; simp at this ⊢; omega,fun b hb=>hrestAB b (hb.imp id fun hb=>by simp [hb]),hN1,hNy,hall.has,hall.nodup⟩
    have hkd:(inOf es).kids.getD (([]:List Ent).length+1) 0=f.2.page:=by rw [es1]; exact qdb.2
    have hspare:spareN Ny k v↔minOf k v h<f.2.size:=by
     unfold spareN
     rw [hNy.size,hminC]
    unfold evenM
    rw [hkd,hly]
    dsimp only
    rw [if_neg (fun h=>h rfl),if_neg (show ¬ ([]:List Ent).length+1<([]:List Ent).length by simp),es1]
    by_cases hsq:spareN Ny k v
    ·rw [if_neg (fun h=>h hsq)]
     obtain ⟨hm1,hm2,hm3,hm4⟩:=Hn.mids
     have hk3:(inOf ([]++e::f::B')).keys.getD ([]:List Ent).length []=f.1:=qgo (A:=[]) (B:=B') (e1:=e)
     rw [hk3]
     obtain ⟨N,M2,R,e2,hN2,st2,hf2⟩:=qo8 hc Hn (qtj hc hN1 hNy hn1 (hspare.1 hsq) hm1 hm2 ⟨hm3,hm4⟩) (by omega)
     rw [<- hprs] at hN2
     rw [<- hpgs] at st2
     rw [<- es1]
     exact ⟨N,_,M2,_,R,by rw [es1]; exact e2,rfl,fin hN2,finS st2,by rw [hlenes]; simp,by omega⟩
    ·rw [if_pos hsq]
     have hns:f.2.size<=minOf k v h:=Nat.le_of_not_lt fun h9=>hsq (hspare.2 h9)
     have hge:=hff.2
     obtain ⟨N,M2,R,e2,hN2,st2,hf2⟩:=qlv hc Hn (by omega) (by omega) (by omega)
     rw [<- hprs] at hN2
     rw [<- hpgs] at st2
     rw [<- es1]
     exact ⟨N,_,M2,_,R,by rw [es1]; exact e2,rfl,fin hN2,finS st2,by rw [hlenes]; simp,by omega⟩
  ·rw [if_pos hlw]
   have hge:minOf k v h<=n1:=Nat.le_of_not_lt fun h9=>hlw (hlow.2 h9)
   obtain ⟨q,M2,e2,st2,H2,hf2⟩:=hN1.store st.wf st.over (by omega) hue1 hepn' (by omega)
   rw [e2]
   have stQ:Step D M M2 (e.2.page::Re) (q::Re'):=Step.kid (Q:=[q]) (fun z hz=>hus z (List.mem_append_right _ (List.mem_append_left _ hz))) hnde st st2
   have stP:=Step.part hus hnd2 stQ
   have hsep2:SepE (A++(e.1,(⟨q,n1,cutP key e.2.prs,q::Re'⟩:Seg))::B):=hmid.swap fun x hx=>(qiC.1 hx).1
   have hhead:((A++(e.1,(⟨q,n1,cutP key e.2.prs,q::Re'⟩:Seg))::B).map (·.1)).head?=some []:=by
    rw [hes] at h0
    rw [List.map_append,List.map_cons] at h0 ⊢
    exact h0
   refine ⟨inOf (A++(e.1,(⟨q,n1,cutP key e.2.prs,q::Re'⟩:Seg))::B),es.length,M2,_,A.flatMap (·.2.pages)++((q::Re')++B.flatMap (·.2.pages)),?_,rfl,⟨_,hhead,rfl,by rw [hes]; simp,by rw [qaC,hcut],by rw [qaC],qjd (by rw [<- hes]; exact hkeysok),hsep2,htwo.2,fun b hb=>?_⟩,by rw [hflat,hep]; exact stP,by show es.length<=es.length+1; omega,by omega⟩
   ·rw [hes]
    exact congrArg (fun N=>((N,(0:Int)),M2)) (qtT (s:=⟨q,n1,cutP key e.2.prs,q::Re'⟩))
   ·have fr2:∀ b,b∈A\/b∈B->Has D M2 k v h b.2/\minOf k v h<=b.2.size:=fun b hb=>by
     have h9:=hrestAB b hb
     refine ⟨h9.1.frame fun x hx=>(st2.rest x (h9.1.used st.over x hx) fun hm=>?_).1,h9.2⟩
     have hd:=List.nodup_append.1 hnd2
     have hxe:=List.mem_singleton.1 hm
     rcases hb with hb | hb
     ·exact hd.2.2 x (List.mem_flatMap.2 ⟨b,hb,hx⟩) x (by rw [hxe]; simp) rfl
     ·exact (List.nodup_append.1 hd.2.1).2.2 x (by rw [hxe]; simp) x (List.mem_flatMap.2 ⟨b,hb,hx⟩) rfl
    rcases List.mem_append.1 hb with hb | hb
    ·exact fr2 b (.inl hb)
    rcases List.mem_cons.1 hb with rfl | hb
    ·exact ⟨H2,hge⟩
    ·exact fr2 b (.inr hb)
end
end
end Go.Proofs.YtmmkegapckbomaaGreatDoor
end
section
set_option linter.unusedVariables false
set_option linter.unusedSimpArgs false
namespace Go.Proofs.YtmmkegapckbomaaGreatDoor
open Go Go.Pt
theorem qtu {cl:List Cell} {w:World} {b off:Nat} {cs:Array Value} {T:TypeId} {fr:Nat×Nat} {K:HL cl->Prop} (hb:w.heap[b]?=some (.cells cs T fr)) (x:HL cl) (hx:(cs.toList.drop off).take cl.length=HL.mk cl x) (k:K x):Pt.ldA cl ⟨b,off,none⟩ w K:=
 ⟨x,qbd hb _ off 0 (by rw [HL.mk_length]; exact hx),k⟩
attribute [local irreducible] ld ldA ldV fld fldA newZ st new idx idxS idxA slc slcS slcP mkS chk nn call callV inv run runQ runU join loop held ext rng undefer s2a nxt ent IntKind.wrap
theorem PgX.setRoots {w w':World} {X:List Nat} {pb:Nat} {db:Option Addr} {M:PgM} {fb defb mb:Nat} {sl sn:Sl} {F1 F2:List Nat} {fs:List (Int×Leaf)} {roots:List Int} (h:PgX w X pb db M fb defb mb sl sn F1 F2 fs) (hr:roots.length=24)
  (hc:w'.heap[pb]?=some (.cells (pgCells db M.sup sl sn M.turn M.over fb defb mb roots) PGT (0,0))) (f:Fr [pb] w w'):PgX w' X pb db { M with roots:=roots } fb defb mb sl sn F1 F2 fs where
 cell:=hc
 free:=h.free.frame f fun b hb=>by simpa using (h.sep.2.1 b hb).1
 deferred:=h.deferred.frame f fun b hb=>by simpa using (h.sep.2.2 b hb).1
 map:=h.map.frame f (by simpa using fun e=>h.sep.1 e.symm)
 fresh:=h.fresh
 rows:=h.rows.frame (f.mono fun i hi _=>by rw [List.mem_singleton.1 hi]; simp) fun b hb=>.inl hb
 xlt:=fun b hb=>Nat.lt_of_lt_of_le (h.xlt b hb) f.size
 xsep:=h.xsep
 sep:=h.sep
 suplen:=h.suplen
 rootlen:=hr
theorem qqj {db:Option Addr} {sup:Sup} {sl sn:Sl} {turn:Int} {over:Bool} {fb defb mb:Nat} {roots:List Int} (hs:sup.2.length=27) (hr:roots.length=24) {t:Nat} (ht:t<8) {r0 r1 r2:Int} :
  splice (pgCells db sup sl sn turn over fb defb mb roots) (36+3*t) [.int .u32 r0,.int .u32 r1,.int .u32 r2]=pgCells db sup sl sn turn over fb defb mb (roots.take (3*t)++[r0,r1,r2]++roots.drop (3*t+3)):=by
 have hsp:roots=roots.take (3*t)++(roots.drop (3*t)).take 3++roots.drop (3*t+3):=by
  rw [List.append_assoc,<- List.drop_drop,List.take_append_drop,List.take_append_drop]
 have:=qbt (A:=(.pointer db::supV sup.1 sup.2)++pgRest sl sn turn over fb defb mb++(roots.take (3*t)).map (Value.int .u32)) (X:=((roots.drop (3*t)).take 3).map (Value.int .u32)) (Y:=[.int .u32 r0,.int .u32 r1,.int .u32 r2]) (Z:=(roots.drop (3*t+3)).map (Value.int .u32)) (by rw [List.length_map,List.length_take,List.length_drop]; show min 3 _=3; omega)
 have hA:((.pointer db::supV sup.1 sup.2)++pgRest sl sn turn over fb defb mb++(roots.take (3*t)).map (Value.int .u32)).length=36+3*t:=by
  rw [List.length_append,List.length_append,qaU hs,List.length_map,List.length_take]
  show 29+7+_=_
  omega
 rw [hA] at this
 unfold pgCells
 have hm:roots.map (Value.int .u32)=(roots.take (3*t)).map (Value.int .u32)++((roots.drop (3*t)).take 3).map (Value.int .u32)++(roots.drop (3*t+3)).map (Value.int .u32):=by
  rw [<- List.map_append,<- List.map_append,<- hsp]
 rw [hm]
 simp only [List.map_append,List.map_cons,List.map_nil]
 simp only [List.append_assoc] at this ⊢
 exact this
section
variable {w:World} {X:List Nat} {pb:Nat} {db:Option Addr} {F:List Nat} {M:PgM}
theorem qoc {t r0 r1 r2:Int} {K:Int->World->Prop} (h:PagerAt w X pb db F M)
  (hk:∀ w',PagerAt w' X pb db F (setRootM M t r0 r1 r2).2->Fr F w w'->K (setRootM M t r0 r1 r2).1 w') :
  call Tryz.prog 107 [.pointer (some ⟨pb,0,none⟩),.int .i64 t,.agg #[.int .u32 r0,.int .u32 r1,.int .u32 r2]] [.one (.int .i64)] w K:=by
 have h0:=h
 obtain ⟨fb,defb,mb,sl,sn,F1,F2,fs,rfl,hx⟩:=h
 refine qd9 (p:=some ⟨pb,0,none⟩) ?_
 unfold qcf
 have same:∀ {e:Int} {w':World},setRootM M t r0 r1 r2=(e,M)->Fr [] w w'->K e w':=by
  intro e w' he hf
  have:=hk w' (by rw [he]; exact h0.frame0 hf) (hf.mono (fun b hb=>by cases hb))
  rw [he] at this
  exact this
 refine Own.new' (Own.start [] w) fun r w1 e1 f1 ho=>?_
 have hx1:=hx.frame0 f1
 refine qae (qaq (c:=.bool) hx1.cell M.over (qeK hx.suplen) ?_)
 refine qab (fun hc=>same (by rw [setRootM,if_pos hc]) f1) (fun hc=>?_)
 have ho0:¬ M.over=true:=by rw [hc]; decide
 refine qag (fun b w'=>b=decide (t<0\/t>7)/\w'=w1) ?_ ?_
 ·refine qab (fun hc=>⟨by rw [decide_eq_true (Or.inl (of_decide_eq_true hc))],rfl⟩) (fun hc=>?_)
  have:=of_decide_eq_false hc
  refine ⟨decide_eq_decide.2 ⟨fun h=>.inr (by omega),fun h=>by omega⟩,rfl⟩
 rintro b w2 ⟨rfl,rfl⟩
 refine qab (fun hc=>same (by rw [setRootM,if_neg ho0,if_pos (of_decide_eq_true hc)]) f1) (fun hc=>?_)
 have hr:=of_decide_eq_false hc
 obtain ⟨n,rfl⟩:∃ n:Nat,t=n:=⟨t.toNat,by omega⟩
 have hn8:n<8:=by omega
 have hsm:setRootM M n r0 r1 r2=(0,{ M with roots:=M.roots.take (3*n)++[r0,r1,r2]++M.roots.drop (3*n+3) }):=by rw [setRootM,if_neg ho0,if_neg hr,Int.toNat_natCast]
 have hod:=ho.drew
 have hxd:=hx1.frame0 (Fr.refl [] w2).drew
 refine Own.ldA (cl:=[Cell.int .u32,Cell.int .u32,Cell.int .u32]) hod 0 rfl (r0,r1,r2) rfl ?_
 refine qae ?_
 refine qaX (by omega) ?_
 simp only [Addr.add_mk,Int.toNat_natCast]
 refine qhm hxd.cell (pgCells db M.sup sl sn M.turn M.over fb defb mb (M.roots.take (3*n)++[r0,r1,r2]++M.roots.drop (3*n+3))) (by show splice _ (0+33+3+n*3) _=_; rw [show 0+33+3+n*3=36+3*n by omega]; exact qqj hx.suplen hx.rootlen hn8) rfl (by rw [qo3 hx.suplen,hx.rootlen]; exact Nat.le_trans (show 0+33+3+n*3+3<=60 by omega) (Nat.le_refl 60)) fun w3 hc3 f3=>?_
 have hl:(M.roots.take (3*n)++[r0,r1,r2]++M.roots.drop (3*n+3)).length=24:=by
  have:=hx.rootlen
  simp only [List.length_append,List.length_take,List.length_drop,List.length_cons,List.length_nil]
  omega
 have:=hk w3 (by rw [hsm]; exact ⟨fb,defb,mb,sl,sn,F1,F2,fs,rfl,hxd.setRoots hl hc3 f3⟩) ((f1.drew.mono fun b hb=>nomatch hb).trans (f3.mono fun b hb _=>by rw [List.mem_singleton.1 hb]; simp))
 rw [hsm] at this
 exact this
def rootM (M:PgM) (t:Int):Int×Int×Int:=if t<0\/t>7 then (0,0,0) else (M.roots.getD (3*t.toNat) 0,M.roots.getD (3*t.toNat+1) 0,M.roots.getD (3*t.toNat+2) 0)
theorem qsr {t:Int} {K:Int×Int×Int->World->Prop} (h:PagerAt w X pb db F M) (hk:∀ w',Fr [] w w'->K (rootM M t) w') :
  call Tryz.prog 19 [.pointer (some ⟨pb,0,none⟩),.int .i64 t] [.agg [.int .u32,.int .u32,.int .u32]] w K:=by
 obtain ⟨fb,defb,mb,sl,sn,F1,F2,fs,rfl,hx⟩:=h
 refine qfU (p:=some ⟨pb,0,none⟩) ?_
 unfold qcT
 refine Own.new' (Own.start [] w) fun r w1 e1 f1 ho=>?_
 have hx1:=hx.frame0 f1
 refine qag (fun b w'=>b=decide (t<0\/t>7)/\w'=w1) ?_ ?_
 ·refine qab (fun hc=>⟨by rw [decide_eq_true (Or.inl (of_decide_eq_true hc))],rfl⟩) (fun hc=>?_)
  have:=of_decide_eq_false hc
  refine ⟨decide_eq_decide.2 ⟨fun h=>.inr (by omega),fun h=>by omega⟩,rfl⟩
 rintro b w2 ⟨rfl,rfl⟩
 refine qab (fun hc=>?_) (fun hc=>?_)
 ·refine Own.st' ho 0 rfl #[.int .u32 0,.int .u32 0,.int .u32 0] rfl rfl (Nat.le_of_ble_eq_true rfl) fun w3 ho3 f3=>?_
  refine Own.ldA (cl:=[Cell.int .u32,Cell.int .u32,Cell.int .u32]) ho3 0 rfl (0,0,0) rfl ?_
  have:=hk w3 ho3.fr
  rw [rootM,if_pos (of_decide_eq_true hc)] at this
  exact this
 have hr:=of_decide_eq_false hc
 obtain ⟨n,rfl⟩:∃ n:Nat,t=n:=⟨t.toNat,by omega⟩
 have hn8:n<8:=by omega
 have hrl:=hx.rootlen
 refine qae ?_
 refine qaX (by omega) ?_
 simp only [Addr.add_mk,Int.toNat_natCast]
 have e3:((M.roots.map (Value.int .u32)).drop (3*n)).take 3=[.int .u32 (M.roots.getD (3*n) 0),.int .u32 (M.roots.getD (3*n+1) 0),.int .u32 (M.roots.getD (3*n+2) 0)]:=by
  rw [List.drop_eq_getElem_cons (by rw [List.length_map]; omega),List.drop_eq_getElem_cons (by rw [List.length_map]; omega),List.drop_eq_getElem_cons (by rw [List.length_map]; omega)]
  simp only [List.take_succ_cons,List.take_zero,List.getElem_map]
  rw [List.getElem_eq_getD 0,List.getElem_eq_getD 0,List.getElem_eq_getD 0]
 refine qtu hx1.cell (M.roots.getD (3*n) 0,M.roots.getD (3*n+1) 0,M.roots.getD (3*n+2) 0) ?_ ?_
 ·have hd:=qsJ (db:=db) (sup:=M.sup) (sl:=sl) (sn:=sn) (turn:=M.turn) (over:=M.over) (fb:=fb) (defb:=defb) (mb:=mb) (roots:=M.roots) hx.suplen hx.rootlen
  have hfull:(pgCells db M.sup sl sn M.turn M.over fb defb mb M.roots).toList.drop 36=M.roots.map (Value.int .u32):=by
   rw [<- hd,List.take_of_length_le]
   have:=qo3 (db:=db) (sup:=M.sup) (sl:=sl) (sn:=sn) (turn:=M.turn) (over:=M.over) (fb:=fb) (defb:=defb) (mb:=mb) (roots:=M.roots) hx.suplen
   rw [List.length_drop,Array.length_toList]
   omega
  rw [show 0+33+3+n*3=36+3*n by omega,<- List.drop_drop,hfull]
  exact e3
 ·refine Own.st' ho 0 rfl #[.int .u32 (M.roots.getD (3*n) 0),.int .u32 (M.roots.getD (3*n+1) 0),.int .u32 (M.roots.getD (3*n+2) 0)] rfl rfl (Nat.le_of_ble_eq_true rfl) fun w3 ho3 f3=>?_
  refine Own.ldA (cl:=[Cell.int .u32,Cell.int .u32,Cell.int .u32]) ho3 0 rfl (M.roots.getD (3*n) 0,M.roots.getD (3*n+1) 0,M.roots.getD (3*n+2) 0) rfl ?_
  have:=hk w3 ho3.fr
  rw [rootM,if_neg hr,Int.toNat_natCast] at this
  exact this
end
theorem qrx {w:World} {dbk pb:Nat} {X FD F:List Nat} {D:DiskM} {M:PgM} {k:Nat} {n:Int} {K:Int×Sl×Int->World->Prop} (hdisk:DiskAt w dbk FD D) (hlim:Lim D k) (hpag:PagerAt w X pb (dbOf dbk M) F M) (hv:Hv w) (hn:U32 n) (hl:M.lists.length<=1000000) (hb:∀ e∈M.fresh,e.2.2.length<=100000)
  (hk:∀ s w',(∀ G:List Nat,(∀ b∈G,b<w.heap.size)->RdB G w' s (pagerReadM D M n).2.1)->Fr [] w w'->K ((pagerReadM D M n).1,s,(pagerReadM D M n).2.2) w') :
  call Tryz.prog 91 [.pointer (some ⟨pb,0,none⟩),.int .u32 n] [.one (.int .u8),.one .slice,.one (.int .i64)] w K:=by
 have hpag0:=hpag
 obtain ⟨fb,defb,mb,sl,sn,F1,F2,fs,rfl,hx⟩:=hpag
 refine qf5 (p:=some ⟨pb,0,none⟩) ?_
 unfold qc3
 have res:∀ {a:Int} {e:Int} {w':World},pagerReadM D M n=(a,[],e)->Fr [] w w'->K (a,⟨none,0,0⟩,e) w':=fun he f=>by
  have:=hk ⟨none,0,0⟩ _ (fun G hG=>by rw [he]; exact .nil _ _ _ _) f
  rw [he] at this
  exact this
 refine qae (qaq (c:=.bool) hx.cell M.over (qeK hx.suplen) ?_)
 refine qab (fun hc=>res (by rw [pagerReadM,if_pos hc]) (.refl _ _)) (fun hc=>?_)
 have ho0:¬ M.over=true:=by rw [hc]; decide
 have hdb:dbOf dbk M=some ⟨dbk,0,none⟩:=if_neg ho0
 refine qae ?_
 simp only [Addr.add_mk]
 refine qaq (c:=.map) hx.cell (some mb) (qci hx.suplen) ?_
 have hlk:look n M.fresh=(look n fs).map fun q=>(q.1,q.2.1,q.2.2.2):=by rw [hx.fresh]; exact qbN (fun e:Leaf=>(e.1,e.2.2)) n fs
 refine qhi hx.map.at (fun q hq=>?_) (fun hq=>?_)
 ·rw [hq] at hlk
  have hlk:look n M.fresh=some (q.1,q.2.1,q.2.2.2):=hlk
  refine Own.new' (Own.start [] w) fun r w1 e1 f1 ho=>?_
  refine Own.st' ho 0 rfl #[.int .u8 q.2.1,.slice q.2.2.1.a q.2.2.1.len q.2.2.1.cap] rfl rfl (Nat.le_of_ble_eq_true rfl) fun w2 ho2 f2=>?_
  have hod:=ho2.drew
  refine cond_true rfl ?_
  refine Own.ld (c:=.int .u8) hod 0 rfl q.2.1 rfl ?_
  refine Own.ld (c:=.slice) hod 0 rfl q.2.2.1 rfl ?_
  have hqm:=(qa5 hq).2
  have hqb:=hx.rows.bodies _ hqm
  have hmem:=(qa5 hlk).2
  refine qaR (hqb.frame0 hod.fr) (Nat.le_trans (hb _ hmem) (by decide)) fun s2 B2 w3 b2 f3 n2 _ _=>?_
  have ho3:=hod.frame0 f3
  refine qah (ho3.cell 0 rfl rfl) ?_
  have hres:pagerReadM D M n=(q.2.1,q.2.2.2,0):=by rw [pagerReadM,if_neg ho0,hlk]
  have:=hk s2 w3 (fun G hG=>by rw [hres]; exact Buf.rds qas b2 fun b hb hm=>by have:=n2 b hb; have:=hG b hm; have:=hod.fr.size; omega) ho3.fr
  rw [hres] at this
  exact this
 ·rw [hq] at hlk
  have hlk:look n M.fresh=none:=hlk
  refine Own.new' (Own.start [] w) fun r w1 e1 f1 ho=>?_
  refine Own.st' ho 0 rfl #[.int .u8 0,.slice none 0 0] rfl rfl (Nat.le_of_ble_eq_true rfl) fun w2 ho2 f2=>?_
  refine cond_false rfl ?_
  refine qmM (hpag0.frame0 ho2.fr) hl fun w3 f3=>?_
  have f03:=ho2.fr.trans f3
  have hx3:=hx.frame0 f03
  refine qab (fun hc=>?_) (fun hc=>?_)
  ·have hu:usedV M n=false:=by simpa using hc
   exact res (by rw [pagerReadM,if_neg ho0,hlk]; exact if_pos hu) f03
  have hu:¬ usedV M n=false:=by simpa using hc
  rw [hdb] at hx3
  refine qae (qaq (c:=.ptr) hx3.cell (some ⟨dbk,0,none⟩) quF ?_)
  rw [wi' n (by have:=hn.1; have:=hn.2; omega)]
  refine qfC (hdisk.frame0 f03) hlim.ok fun s5 B5 w5 b5 f5 n5=>?_
  refine qab (fun hc=>?_) (fun hc=>?_)
  ·have he:(readV D n).2≠0:=by simpa using hc
   exact res (by rw [pagerReadM,if_neg ho0,hlk]; exact (if_neg hu).trans (if_pos he)) (f03.trans f5)
  have he:¬ (readV D n).2≠0:=by simpa using hc
  have hri:=qbp hlim.ok n
  refine qkC (b5.rds qas (S:=[]) (by simp)) (hv.frame0 (f03.trans f5)) hri.1 (by omega) fun s6 B6 w6 b6 f6 n6=>?_
  have hres:pagerReadM D M n=openV n (readV D n).1:=by rw [pagerReadM,if_neg ho0,hlk]; exact (if_neg hu).trans (if_neg he)
  have:=hk s6 w6 (fun G hG=>by rw [hres]; exact Buf.rds qas b6 fun b hb hm=>by have:=n6 b hb; have:=hG b hm; have:=(f03.trans f5).size; omega) ((f03.trans f5).trans f6)
  rw [hres] at this
  exact this
end Go.Proofs.YtmmkegapckbomaaGreatDoor
end
section
set_option linter.unusedVariables false
set_option linter.unusedSimpArgs false
namespace Go.Proofs.YtmmkegapckbomaaGreatDoor
open Go Go.Pt
open Classical
def rootTo (t:Int) (s:(Int×Int)×PgM) (cnt h:Int):Int×PgM:=if s.1.2≠0 then (s.1.2,s.2) else setRootM s.2 t s.1.1 cnt h
noncomputable def growN (k v:Nat) (t:Int) (r:Int×Int×Int) (x:(Grown×Int)×PgM):Int×PgM:=
 if x.1.2≠0 then (x.1.2,x.2)
 else if x.1.1.other≠0 then rootTo t (storeN k v x.2 0 ⟨false,[x.1.1.key],[],[x.1.1.page,x.1.1.other]⟩) (if x.1.1.fresh then IntKind.wrap .u32 (r.2.1+1) else r.2.1) (IntKind.wrap .u32 (r.2.2+1))
 else setRootM x.2 t x.1.1.page (if x.1.1.fresh then IntKind.wrap .u32 (r.2.1+1) else r.2.1) r.2.2
noncomputable def insertN (D:DiskM) (k v:Nat) (t:Int) (key val:Key) (f:Nat) (M:PgM):Int×PgM:=
 if (rootM M t).1=0 then rootTo t (storeN k v M 0 (lfOf [(key,val)])) 1 1 else growN k v t (rootM M t) (putN D k v key val f M (rootM M t).1)
noncomputable def shrinkN (k v:Nat) (t:Int) (r:Int×Int×Int) (x:(NodeM×Int)×PgM):Int×PgM:=
 if x.1.2≠0 then (x.1.2,x.2)
 else if x.1.1.leaf=true/\x.1.1.keys.length=0 then (if (dropV x.2 r.1).1≠0 then ((dropV x.2 r.1).1,(dropV x.2 r.1).2) else setRootM (dropV x.2 r.1).2 t 0 0 0)
 else if x.1.1.leaf=false/\x.1.1.kids.length=1 then (if (dropV x.2 r.1).1≠0 then ((dropV x.2 r.1).1,(dropV x.2 r.1).2) else setRootM (dropV x.2 r.1).2 t (x.1.1.kids.getD 0 0) (IntKind.wrap .u32 (r.2.1-1)) (IntKind.wrap .u32 (r.2.2-1)))
 else rootTo t (storeN k v x.2 r.1 x.1.1) (IntKind.wrap .u32 (r.2.1-1)) r.2.2
noncomputable def removeN (D:DiskM) (k v:Nat) (t:Int) (key:Key) (f:Nat) (M:PgM):Int×PgM:=shrinkN k v t (rootM M t) (cutN D k v key f M (rootM M t).1)
def TreeIs (D:DiskM) (M:PgM) (k v:Nat) (t:Int) (L:Prs) (P:List Int):Prop:=
 (rootM M t=(0,0,0)/\L=[]/\P=[])\/∃ h n p,p≠0/\rootM M t=(p,(L.length:Int),((h+1:Nat):Int))/\Has D M k v h ⟨p,n,L,P⟩
structure RStep (D:DiskM) (M M':PgM) (t:Int) (P P':List Int):Prop where
 step:Step D M { M' with roots:=M.roots } P P'
 wf:M'.Wf
 len:M'.roots.length=24
 others:∀ t':Int,t'≠t->rootM M' t'=rootM M t'
section
variable {D:DiskM} {M M':PgM} {k v:Nat}
theorem qsG {t:Int} {a b c:Int} (ht:0<=t/\t<8) (ho:M.over=false) (hr:M.roots.length=24):∃ R,setRootM M t a b c=(0,{ M with roots:=R })/\R.length=24/\rootM { M with roots:=R } t=(a,b,c)/\(∀ t':Int,t'≠t->rootM { M with roots:=R } t'=rootM M t')/\∀ x∈R,x∈M.roots\/x=a\/x=b\/x=c:=by
 obtain ⟨n,rfl⟩:∃ n:Nat,t=n:=⟨t.toNat,by omega⟩
 have hn:n<8:=by omega
 have e:setRootM M n a b c=(0,{ M with roots:=M.roots.take (3*n)++[a,b,c]++M.roots.drop (3*n+3) }):=by
  rw [setRootM,if_neg (by rw [ho]; decide),if_neg (by omega),Int.toNat_natCast]
 have hl:(M.roots.take (3*n)).length=3*n:=by rw [List.length_take]; omega
 have at_:∀ i,(M.roots.take (3*n)++[a,b,c]++M.roots.drop (3*n+3)).getD i 0=if i=3*n then a else if i=3*n+1 then b else if i=3*n+2 then c else M.roots.getD i 0:=fun i=>by
  rw [List.append_assoc,List.getD_eq_getElem?_getD]
  by_cases h1:i<3*n
  ·rw [List.getElem?_append_left (by omega),List.getElem?_take,if_pos h1,if_neg (by omega),if_neg (by omega),if_neg (by omega),List.getD_eq_getElem?_getD]
  ·rw [List.getElem?_append_right (by omega),hl]
   by_cases h2:i=3*n
   ·rw [if_pos h2,h2,Nat.sub_self]; rfl
   rw [if_neg h2]
   by_cases h3:i=3*n+1
   ·rw [if_pos h3,h3,show 3*n+1-3*n=1 by omega]; rfl
   rw [if_neg h3]
   by_cases h4:i=3*n+2
   ·rw [if_pos h4,h4,show 3*n+2-3*n=2 by omega]; rfl
   rw [if_neg h4,List.getElem?_append_right (by simp; omega),List.getElem?_drop,List.getD_eq_getElem?_getD]
   congr 2
   simp
   omega
 refine ⟨_,e,?_,?_,fun t' ht'=>?_,fun x hx=>?_⟩
 ·simp only [List.length_append,List.length_take,List.length_drop,List.length_cons,List.length_nil]; omega
 ·rw [rootM,if_neg (by omega),Int.toNat_natCast]
  dsimp only
  rw [at_,at_,at_,if_pos rfl,if_neg (by omega),if_pos rfl,if_neg (by omega),if_neg (by omega),if_pos rfl]
 ·unfold rootM
  by_cases hr':t'<0\/t'>7
  ·rw [if_pos hr',if_pos hr']
  ·rw [if_neg hr',if_neg hr']
   dsimp only
   have hne:t'.toNat≠n:=fun e=>ht' (by omega)
   rw [at_,at_,at_,if_neg (by omega),if_neg (by omega),if_neg (by omega),if_neg (by omega),if_neg (by omega),if_neg (by omega),if_neg (by omega),if_neg (by omega),if_neg (by omega)]
 ·rcases List.mem_append.1 hx with hx | hx
  ·rcases List.mem_append.1 hx with hx | hx
   ·exact .inl (List.mem_of_mem_take hx)
   ·simp only [List.mem_cons,List.not_mem_nil,or_false] at hx
    exact .inr hx
  ·exact .inl (List.mem_of_mem_drop hx)
theorem qm1 {R:List Int} (hW:M.Wf) (hR:∀ x∈R,U32 x):({ M with roots:=R }:PgM).Wf:=⟨hW.n4,hW.u32,hR,hW.namedS,hW.named,hW.freeS,hW.defS,hW.nodup,hW.range,hW.body⟩
theorem Has.roots {h:Nat} {s:Seg} {R:List Int} (hs:Has D M k v h s):Has D { M with roots:=R } k v h s:=hs.frame fun x _=>rfl
theorem Step.root {P P':List Int} {t a b c:Int} (ht:0<=t/\t<8) (hr:M.roots.length=24) (h:Step D M M' P P') (ha:U32 a) (hb:U32 b) (hc:U32 c) :
  ∃ R,setRootM M' t a b c=(0,{ M' with roots:=R })/\RStep D M { M' with roots:=R } t P P'/\rootM { M' with roots:=R } t=(a,b,c):=by
 obtain ⟨R,e,hl,h1,h2,h3⟩:=qsG (a:=a) (b:=b) (c:=c) ht h.over (by rw [h.roots]; exact hr)
 refine ⟨R,e,⟨?_,qm1 h.wf fun x hx=>?_,hl,fun t' ht'=>?_⟩,h1⟩
 ·have e':({ M' with roots:=M.roots }:PgM)=M':=by rw [<- h.roots]
  show Step D M { M' with roots:=M.roots } P P'
  rw [e']
  exact h
 ·rcases h3 x hx with h4 | h4 | h4 | h4
  ·exact h.wf.roots x h4
  ·rw [h4]; exact ha
  ·rw [h4]; exact hb
  ·rw [h4]; exact hc
 ·rw [h2 t' ht']
  unfold rootM
  rw [h.roots]
theorem Has.counts:∀ {h:Nat} {s:Seg},Has D M k v h s->h+1<=s.prs.length/\s.pages.length+1<=2*s.prs.length
 | 0,s,hs=>by
  have h1:=List.length_pos_iff.2 hs.ne
  rw [hs.1]
  simp
  omega
 | h+1,s,⟨es,h0,h1,h2,h3,h4,h5,h6,h7⟩=>by
  have h8:=h4.right.innerTwo.1
  rw [h2,h3]
  have key:∀ l:List Ent,(∀ e∈l,Has D M k v h e.2)->l.length*(h+1)<=(l.flatMap (·.2.prs)).length/\(l.flatMap (·.2.pages)).length+l.length<=2*(l.flatMap (·.2.prs)).length:=by
   intro l
   induction l with
   | nil=>intro _; exact ⟨by simp,by simp⟩
   | cons a l ih=>
    intro hl
    have i:=ih fun e he=>hl e (List.mem_cons_of_mem _ he)
    have j:=(hl a (by simp)).counts
    rw [List.flatMap_cons,List.flatMap_cons,List.length_append,List.length_append,List.length_cons,Nat.add_mul]
    omega
  have:=key es fun e he=>(h7 e he).1
  have h9:2*(h+1)<=es.length*(h+1):=Nat.mul_le_mul_right _ h8
  rw [List.length_cons]
  omega
theorem Has.least (hc:CapsOk k v):∀ {h:Nat} {s:Seg},Has D M k v h s->minOf k v h<=s.size->(capsV k v).1 / 2*((capsV k v).2 / 2)^h<=s.prs.length
 | 0,s,hs,hm=>by
  rw [Nat.pow_zero,Nat.mul_one,<- hs.2.1]
  exact hm
 | h+1,s,⟨es,h0,h1,h2,h3,h4,h5,h6,h7⟩,hm=>by
  rw [h2]
  have key:∀ l:List Ent,(∀ e∈l,Has D M k v h e.2/\minOf k v h<=e.2.size)->l.length*((capsV k v).1 / 2*((capsV k v).2 / 2)^h)<=(l.flatMap (·.2.prs)).length:=by
   intro l
   induction l with
   | nil=>intro _; simp
   | cons a l ih=>
    intro hl
    have i:=ih fun e he=>hl e (List.mem_cons_of_mem _ he)
    have j:=(hl a (by simp)).1.least hc (hl a (by simp)).2
    rw [List.flatMap_cons,List.length_append,List.length_cons,Nat.add_mul]
    omega
  have h9:(capsV k v).2 / 2<=es.length:=by rw [<- h1]; exact hm
  refine Nat.le_trans ?_ (key es h7)
  rw [Nat.pow_succ,<- Nat.mul_assoc,Nat.mul_comm]
  exact Nat.mul_le_mul_right _ h9
theorem Has.root_least (hc:CapsOk k v) {h:Nat} {s:Seg} (hs:Has D M k v (h+1) s):2*((capsV k v).1 / 2*((capsV k v).2 / 2)^h)<=s.prs.length:=by
 obtain ⟨es,h0,h1,h2,h3,h4,h5,h6,h7⟩:=hs
 have h8:=h4.right.innerTwo.1
 rw [h2]
 have key:∀ l:List Ent,(∀ e∈l,Has D M k v h e.2/\minOf k v h<=e.2.size)->l.length*((capsV k v).1 / 2*((capsV k v).2 / 2)^h)<=(l.flatMap (·.2.prs)).length:=by
  intro l
  induction l with
  | nil=>intro _; simp
  | cons a l ih=>
   intro hl
   have i:=ih fun e he=>hl e (List.mem_cons_of_mem _ he)
   have j:=(hl a (by simp)).1.least hc (hl a (by simp)).2
   rw [List.flatMap_cons,List.length_append,List.length_cons,Nat.add_mul]
   omega
 exact Nat.le_trans (Nat.mul_le_mul_right _ h8) (key es h7)
theorem qqT (hc:CapsOk k v) {t:Int} {key val:Key} {L:Prs} {P:List Int} (ht:0<=t/\t<8) (hk:key.length=k/\IsB key) (hv:val.length=v/\IsB val) (hT:TreeIs D M k v t L P) (hW:M.Wf) (ho:M.over=false) (hr:M.roots.length=24) (hn:P.Nodup) (hL:L.length<=1000000) (hf:2*(rootM M t).2.2.toNat+1<=M.free.length) :
  ∃ M' P',insertN D k v t key val (rootM M t).2.2.toNat M=(0,M')/\TreeIs D M' k v t (insP key val L) P'/\RStep D M M' t P P'/\M.free.length<=M'.free.length+(2*(rootM M t).2.2.toNat+1):=by
 have hcap:=qer (k:=k) (v:=v)
 rcases hT with ⟨e0,rfl,rfl⟩ | ⟨h,n,p,hp0,er,hs⟩
 ·unfold insertN
  rw [e0,if_pos rfl]
  have hL1:PrsOk k v [(key,val)]:=fun x hx=>by rw [List.mem_singleton.1 hx]; exact ⟨hk.1,hv.1,hk.2,hv.2⟩
  have hN:=qez (k:=k) (v:=v) hL1 (List.pairwise_singleton _ _) (by simp) (by have:=hc.leaf; simp; omega)
  obtain ⟨q,M1,e1,st,hrd,hl,hq0⟩:=qgB (D:=D) hW ho hN (fun e=>by rw [e] at hf; simp at hf)
  have hu:=st.has q (by simp)
  have hq:=qbe st.wf hu
  obtain ⟨R,e2,rs,er'⟩:=st.root (a:=q) (b:=1) (c:=1) ht hr ⟨by omega,hq.2⟩ ⟨by decide,by decide⟩ ⟨by decide,by decide⟩
  refine ⟨{ M1 with roots:=R },[q],?_,.inr ⟨0,1,q,hq0,er',?_⟩,rs,by show M.free.length<=M1.free.length+_; omega⟩
  ·unfold rootTo
   rw [e1]
   dsimp only
   rw [if_neg (fun h=>h rfl),e2]
  ·have:=qdt hN hrd
   exact this.roots
 ·rw [er] at hf
  have hfu:(((h+1:Nat):Int)).toNat=h+1:=Int.toNat_natCast _
  dsimp only at hf
  rw [hfu] at hf
  have hcnt:=hs.counts
  dsimp only at hcnt
  obtain ⟨g,M1,eg,ok⟩:=qoT hc hk hv h M ⟨p,n,L,P⟩ hs hW ho hn (by
   have h9:=hs.load
   obtain ⟨N,R,_,hN,_⟩:=h9
   show n<=1000
   cases h with
   | zero=>have:=hN.2.2.2.2.2; dsimp only at this; omega
   | succ h=>obtain ⟨_,_,_,_,_,_,_,_,h8,_⟩:=hN; dsimp only at h8; omega) (by omega)
  have hfr:=ok.free
  have hfresh:=ok.fresh
  dsimp only at eg hfresh
  have hlenN:((insP key val L).length:Int)=if g.fresh then IntKind.wrap .u32 ((L.length:Int)+1) else (L.length:Int):=by
   rw [hfresh]
   by_cases hm:key∈keysP L
   ·rw [decide_eq_false (fun h=>h hm),if_neg (by decide),qby hs.sort hm]
   ·rw [decide_eq_true hm,if_pos rfl,qbA hm,qaV _ (by omega)]
    omega
  have hcu:U32 (if g.fresh then IntKind.wrap .u32 ((L.length:Int)+1) else (L.length:Int)):=by
   rw [<- hlenN]
   have h1:(insP key val L).length<=L.length+1:=by
    by_cases hm:key∈keysP L
    ·rw [qby (show SortP L from hs.sort) hm]; omega
    ·rw [qbA hm]; exact Nat.le_refl _
   exact ⟨by omega,by omega⟩
  unfold insertN
  rw [er,if_neg (show ¬ p=0 from hp0)]
  dsimp only
  rw [hfu,eg]
  unfold growN
  dsimp only
  rw [if_neg (fun h=>h rfl)]
  rcases ok.res with ⟨hg0,n',P',hH,st,_⟩ | ⟨hg0,n1,L1,P1,n2,L2,P2,hH1,hH2,hL12,hk1,hk2,hgk1,hgk2,hm1,hm2,st⟩
  ·rw [if_neg (fun h=>h hg0)]
   have hu:=hH.used st.over g.page hH.mem
   have hq:=qbe st.wf hu
   obtain ⟨R,e2,rs,er'⟩:=st.root (a:=g.page) (b:=if g.fresh then IntKind.wrap .u32 ((L.length:Int)+1) else (L.length:Int)) (c:=((h+1:Nat):Int)) ht hr ⟨by omega,hq.2⟩ hcu ⟨by omega,by omega⟩
   rw [<- hlenN] at er' e2
   refine ⟨{ M1 with roots:=R },P',?_,.inr ⟨h,n',g.page,by omega,er',hH.roots⟩,rs,by show M.free.length<=M1.free.length+_; omega⟩
   rw [<- hlenN]
   exact e2
  ·rw [if_pos hg0]
   have hu1:=qbe st.wf (hH1.used st.over g.page hH1.mem)
   have hu2:=qbe st.wf (hH2.used st.over g.other hH2.mem)
   have hne1:L1≠[]:=hH1.ne
   have hne2:L2≠[]:=hH2.ne
   have hsep:SepE [([],(⟨g.page,n1,L1,P1⟩:Seg)),(g.key,⟨g.other,n2,L2,P2⟩)]:=
    (SepE.cut2 (A:=[]) (B:=[]) (lo:=[]) (s:=⟨0,0,L1++L2,[]⟩) (s1:=⟨g.page,n1,L1,P1⟩) (s2:=⟨g.other,n2,L2,P2⟩) (m:=g.key) (qkE fun x _=>qeu _) rfl hk1 hk2 hne1 hne2)
   have hp:∀ e∈[([],(⟨g.page,n1,L1,P1⟩:Seg)),(g.key,⟨g.other,n2,L2,P2⟩)],Has D M1 k v h e.2/\minOf k v h<=e.2.size:=fun e he=>by
    simp only [List.mem_cons,List.not_mem_nil,or_false] at he
    rcases he with rfl | rfl
    ·exact ⟨hH1,hm1⟩
    ·exact ⟨hH2,hm2⟩
   have hkk:KeysOk k [([],(⟨g.page,n1,L1,P1⟩:Seg)),(g.key,⟨g.other,n2,L2,P2⟩)]:=fun e he=>by
    rw [List.mem_singleton.1 (show e∈[(g.key,(⟨g.other,n2,L2,P2⟩:Seg))] from he)]; exact ⟨hgk1,hgk2⟩
   have hN:=qcm st.wf st.over hkk hsep (by simp) (by have:=hc.inner; simp; omega) fun e he=>(hp e he).1
   obtain ⟨q,M2,e1,st2,hrd,hl2,hq0⟩:=qgB (D:=D) st.wf st.over hN (fun e=>by rw [e] at hfr; simp at hfr; omega)
   have hfr2:∀ e∈[([],(⟨g.page,n1,L1,P1⟩:Seg)),(g.key,⟨g.other,n2,L2,P2⟩)],Has D M2 k v h e.2/\minOf k v h<=e.2.size:=fun e he=>
    ⟨(hp e he).1.frame fun x hx=>(st2.rest x ((hp e he).1.used st.over x hx) (by simp)).1,(hp e he).2⟩
   have hI:=qbS (h:=h) rfl hN hrd hsep hfr2
   have hst3:Step D M1 M2 (P1++P2) (q::(P1++P2)):=by
    have:=st2.beside (Z:=P1++P2) st.has (by simpa using st.nodup)
    exact this.perm (by simp) List.perm_append_comm
   have hst4:=st.trans hst3
   have hq:=qbe st2.wf (st2.has q (by simp))
   obtain ⟨R,e2,rs,er'⟩:=hst4.root (a:=q) (b:=if g.fresh then IntKind.wrap .u32 ((L.length:Int)+1) else (L.length:Int)) (c:=((h+1+1:Nat):Int)) ht hr ⟨by omega,hq.2⟩ hcu ⟨by omega,by omega⟩
   have e3:storeN k v M1 0 ⟨false,[g.key],[],[g.page,g.other]⟩=((q,0),M2):=e1
   have hw2:IntKind.wrap .u32 ((((h+1:Nat):Int))+1)=((h+1+1:Nat):Int):=by rw [qaV _ (by omega)]; omega
   rw [<- hlenN] at er' e2
   refine ⟨{ M2 with roots:=R },q::(P1++P2),?_,.inr ⟨h+1,2,q,hq0,er',?_⟩,rs,by show M.free.length<=M2.free.length+_; omega⟩
   ·unfold rootTo
    rw [e3,hw2,<- hlenN]
    dsimp only
    rw [if_neg (fun h=>h rfl),e2]
   ·have h9:=hI.roots (R:=R)
    have e5:[([],(⟨g.page,n1,L1,P1⟩:Seg)),(g.key,⟨g.other,n2,L2,P2⟩)].flatMap (·.2.prs)=insP key val L:=by rw [<- hL12]; simp
    have e6:[([],(⟨g.page,n1,L1,P1⟩:Seg)),(g.key,⟨g.other,n2,L2,P2⟩)].flatMap (·.2.pages)=P1++P2:=by simp
    rw [e5,e6] at h9
    exact h9
theorem qqZ (hc:CapsOk k v) {t:Int} {key:Key} {L:Prs} {P:List Int} (ht:0<=t/\t<8) (hT:TreeIs D M k v t L P) (hkey:key∈keysP L) (hW:M.Wf) (ho:M.over=false) (hr:M.roots.length=24) (hn:P.Nodup) (hL:L.length<=1000000) (hf:2*(rootM M t).2.2.toNat+1<=M.free.length) :
  ∃ M' P',removeN D k v t key (rootM M t).2.2.toNat M=(0,M')/\TreeIs D M' k v t (cutP key L) P'/\RStep D M M' t P P'/\M.free.length<=M'.free.length+(2*(rootM M t).2.2.toNat+1):=by
 rcases hT with ⟨e0,rfl,rfl⟩ | ⟨h,n,p,hp0,er,hs⟩
 ·cases hkey
 rw [er] at hf
 have hfu:(((h+1:Nat):Int)).toNat=h+1:=Int.toNat_natCast _
 dsimp only at hf
 rw [hfu] at hf
 have hcnt:=hs.counts
 dsimp only at hcnt
 obtain ⟨N,m,M1,R,R',ec,hP,hN,st,hsz,hfr⟩:=qkU hc h M ⟨p,n,L,P⟩ hs hW ho hn hkey (by omega)
 dsimp only at ec hP
 subst hP
 have hsort:=hs.sort
 dsimp only at hsort
 have hlen:(cutP key L).length+1=L.length:=by
  have hm:=(qbE hsort).2 hkey
  have hi:placeV (keysP L) key<L.length:=by
   have:=(List.getElem?_eq_some_iff.1 hm).1
   simpa using this
  rw [qjn hsort hkey,List.length_append,List.length_take,List.length_drop]
  omega
 have hcw:IntKind.wrap .u32 ((L.length:Int)-1)=((cutP key L).length:Int):=by rw [qaV _ (by omega)]; omega
 have hcu:U32 ((cutP key L).length:Int):=⟨by omega,by omega⟩
 have hup:InUse M p:=hs.used ho p (by simp)
 have hpR:p∉R:=(List.nodup_cons.1 hn).1
 have hup1:=(st.rest p hup hpR).2.1
 have hpR':=(st.rest p hup hpR).2.2
 have stP:Step D M M1 (p::R) (p::R'):=st.beside (Z:=[p]) (fun x hx=>by rw [List.mem_singleton.1 hx]; exact hup) (by simpa using hn)
 unfold removeN
 rw [er]
 dsimp only
 rw [hfu,ec]
 unfold shrinkN
 dsimp only
 rw [if_neg (fun h=>h rfl),hcw]
 have gone:∀ {a b c:Int},U32 a->U32 b->U32 c->∃ M2 RR,dropV M1 p=(0,M2)/\setRootM M2 t a b c=(0,{ M2 with roots:=RR })/\RStep D M { M2 with roots:=RR } t (p::R) R'/\rootM { M2 with roots:=RR } t=(a,b,c)/\M1.free.length<=M2.free.length/\∀ x∈R',pagerReadM D M2 x=pagerReadM D M1 x:=fun ha hb hc'=>by
  obtain ⟨M2,e2,st2,hf2⟩:=qlU (D:=D) st.wf st.over hup1
  have h9:=st2.beside (Z:=R') (fun x hx=>st.has x hx) (by
   have:=stP.nodup
   exact (List.perm_append_singleton p R').nodup_iff.2 this)
  rw [List.append_nil] at h9
  have h8:=(stP.perm (.refl _) (List.perm_append_singleton p R').symm).trans h9
  obtain ⟨RR,e3,rs,er'⟩:=h8.root (t:=t) ht hr ha hb hc'
  exact ⟨M2,RR,e2,e3,rs,er',hf2,fun x hx=>(st2.rest x (st.has x hx) (fun hm=>hpR' (by rw [<- List.mem_singleton.1 hm]; exact hx))).1⟩
 cases h with
 | zero=>
  have hN0:=hN
  have hR0:R=[]:=(List.cons.inj (show p::R=[p] from hs.1)).2
  subst hR0
  obtain ⟨rfl,hm,rfl,hL1,hs1,hcap⟩:=hN
  dsimp only at hm
  have hkl:(lfOf (cutP key L)).keys.length=(cutP key L).length:=List.length_map _
  by_cases hz:(cutP key L).length=0
  ·rw [if_pos ⟨rfl,by rw [hkl]; exact hz⟩]
   have hnil:cutP key L=[]:=List.eq_nil_of_length_eq_zero hz
   obtain ⟨M2,RR,e2,e3,rs,er',hf2,_⟩:=gone (a:=0) (b:=0) (c:=0) ⟨by decide,by decide⟩ ⟨by decide,by decide⟩ ⟨by decide,by decide⟩
   rw [e2]
   dsimp only
   rw [if_neg (fun h=>h rfl),e3]
   exact ⟨_,[],rfl,.inl ⟨er',hnil,rfl⟩,rs,by show M.free.length<=M2.free.length+_; omega⟩
  ·rw [if_neg (fun h=>hz (by rw [<- hkl]; exact h.2)),if_neg (fun h=>nomatch h.1)]
   obtain ⟨q,M2,e2,st2,H2,hf2⟩:=hN0.store st.wf st.over (show 1<=m by omega) hup1 hpR' (by omega)
   have st3:Step D M M2 [p] [q]:=stP.trans st2
   have hq:=qbe st2.wf (st2.has q (by simp))
   obtain ⟨RR,e3,rs,er'⟩:=st3.root (a:=q) (b:=((cutP key L).length:Int)) (c:=((0+1:Nat):Int)) ht hr ⟨by omega,hq.2⟩ hcu ⟨by decide,by decide⟩
   refine ⟨{ M2 with roots:=RR },[q],?_,.inr ⟨0,m,q,by omega,er',H2.roots⟩,rs,by show M.free.length<=M2.free.length+_; omega⟩
   unfold rootTo
   rw [e2]
   dsimp only
   rw [if_neg (fun h=>h rfl),e3]
 | succ h=>
  have hN0:=hN
  obtain ⟨es,hh,rfl,hm,hLe,rfl,hk,hs1,hcap,hp⟩:=hN
  have hkl:(inOf es).kids.length=es.length:=by show (es.map _).length=_; rw [List.length_map]
  have hsz2:2<=n:=by
   obtain ⟨es2,_,g1,_,_,g4,_⟩:=hs
   have:=g4.right.innerTwo
   dsimp only at g1
   omega
  dsimp only at hsz
  rw [if_neg (fun h=>nomatch h.1)]
  by_cases h1:es.length=1
  ·rw [if_pos ⟨rfl,by rw [hkl]; exact h1⟩]
   obtain ⟨e,rfl⟩:∃ e,es=[e]:=by
    match es,h1 with
    | [e],_=>exact ⟨e,rfl⟩
   have hkid:(inOf [e]).kids.getD 0 0=e.2.page:=rfl
   rw [hkid]
   have he:=(hp e (by simp)).1
   have hq:=qbe st.wf (he.used st.over e.2.page he.mem)
   have hhw:IntKind.wrap .u32 ((((h+1+1:Nat):Int))-1)=((h+1:Nat):Int):=by rw [qaV _ (by omega)]; omega
   rw [hhw]
   obtain ⟨M2,RR,e2,e3,rs,er',hf2,hrd⟩:=gone (a:=e.2.page) (b:=((cutP key L).length:Int)) (c:=((h+1:Nat):Int)) ⟨by omega,hq.2⟩ hcu ⟨by omega,by omega⟩
   rw [e2]
   dsimp only
   rw [if_neg (fun h=>h rfl),e3]
   have hLe':cutP key L=e.2.prs:=by rw [hLe]; simp
   have hpg:[e].flatMap (·.2.pages)=e.2.pages:=by simp
   refine ⟨_,_,rfl,.inr ⟨h,e.2.size,e.2.page,by omega,er',?_⟩,rs,by show M.free.length<=M2.free.length+_; omega⟩
   rw [hLe',hpg]
   exact (he.frame fun x hx=>hrd x (by rw [hpg]; exact hx)).roots
  ·rw [if_neg (fun h=>h1 (by rw [<- hkl]; exact h.2))]
   have h2:2<=m:=by omega
   obtain ⟨q,M2,e2,st2,H2,hf2⟩:=hN0.store st.wf st.over (show 2<=m from h2) hup1 hpR' (by omega)
   have st3:Step D M M2 (p::R) ([q]++es.flatMap (·.2.pages)):=Step.kid (Q:=[q]) (hs.used ho) hn st st2
   have hq:=qbe st2.wf (st2.has q (by simp))
   obtain ⟨RR,e3,rs,er'⟩:=st3.root (a:=q) (b:=((cutP key L).length:Int)) (c:=((h+1+1:Nat):Int)) ht hr ⟨by omega,hq.2⟩ hcu ⟨by omega,by omega⟩
   refine ⟨{ M2 with roots:=RR },[q]++es.flatMap (·.2.pages),?_,.inr ⟨h+1,m,q,by omega,er',H2.roots⟩,rs,by show M.free.length<=M2.free.length+_; omega⟩
   unfold rootTo
   rw [e2]
   dsimp only
   rw [if_neg (fun h=>h rfl),e3]
end
end Go.Proofs.YtmmkegapckbomaaGreatDoor
end
section
set_option linter.unusedVariables false
set_option linter.unusedSimpArgs false
namespace Go.Proofs.YtmmkegapckbomaaGreatDoor
open Go Go.Pt
attribute [local irreducible] ld ldA ldV fld fldA newZ st new idx idxS idxA slc slcS slcP mkS chk nn call callV inv run runQ runU join loop held ext rng undefer s2a nxt ent IntKind.wrap
structure TW (dbk pb:Nat) (FD:List Nat) (D:DiskM) (j:Nat) (w:World) (Y F:List Nat) (M:PgM):Prop where
 disk:DiskAt w dbk FD D
 lim:Lim D j
 pager:PagerAt w (FD++HG::Y) pb (dbOf dbk M) F M
 hv:Hv w
 wf:M.Wf
 sep:∀ b∈Y,b∉FD/\b≠HG
abbrev Zo (FD Y F:List Nat):List Nat:=(FD++HG::Y)++F
section
variable {dbk pb j:Nat} {FD Y Y' F:List Nat} {D:DiskM} {w w':World} {M:PgM}
theorem TW.frame0 (h:TW dbk pb FD D j w Y F M) (f:Fr [] w w'):TW dbk pb FD D j w' Y F M:=⟨h.disk.frame0 f,h.lim,h.pager.frame0 f,h.hv.frame0 f,h.wf,h.sep⟩
theorem TW.ylt (h:TW dbk pb FD D j w Y F M):∀ b∈Y,b<w.heap.size:=fun b hb=>h.pager.xlt b (by simp [hb])
theorem TW.zlt (h:TW dbk pb FD D j w Y F M):∀ b∈Zo FD Y F,b<w.heap.size:=fun b hb=>(List.mem_append.1 hb).elim (h.pager.xlt b) (h.pager.lt b)
theorem TW.yf (h:TW dbk pb FD D j w Y F M):∀ b∈Y,b∉F:=fun b hb=>h.pager.sep b (by simp [hb])
theorem TW.frameY (h:TW dbk pb FD D j w Y F M) (f:Fr Y w w') (hl:∀ b∈Y',b<w'.heap.size) (hY:∀ b∈Y',b∈Y\/w.heap.size<=b):TW dbk pb FD D j w' Y' F M where
 disk:=h.disk.frame f fun b hb hy=>(h.sep b hy).1 hb
 lim:=h.lim
 pager:=h.pager.frameX (f.mono fun b hb _=>by simp [hb]) (fun b hb=>by
  rcases List.mem_append.1 hb with hb | hb
  ·exact Nat.lt_of_lt_of_le (h.disk.lt b hb) f.size
  ·rcases List.mem_cons.1 hb with rfl | hb
   ·exact Nat.lt_of_lt_of_le h.hv.lt f.size
   ·exact hl b hb) fun b hb=>by
  rcases List.mem_append.1 hb with hb | hb
  ·exact .inl (List.mem_append_left _ hb)
  ·rcases List.mem_cons.1 hb with rfl | hb
   ·exact .inl (by simp)
   ·rcases hY b hb with h1 | h1
    ·exact .inl (by simp [h1])
    ·exact .inr h1
 hv:=h.hv.frame f fun hy=>(h.sep _ hy).2 rfl
 wf:=h.wf
 sep:=fun b hb=>by
  rcases hY b hb with h1 | h1
  ·exact h.sep b h1
  ·exact ⟨fun h2=>by have:=h.disk.lt b h2; omega,fun h2=>by have:=h.hv.lt; omega⟩
theorem TW.weakY (h:TW dbk pb FD D j w Y F M) (hY:∀ b∈Y',b∈Y):TW dbk pb FD D j w Y' F M:=h.frameY (.refl _ _) (fun b hb=>h.ylt b (hY b hb)) fun b hb=>.inl (hY b hb)
theorem TW.addY {B:List Nat} {w0:World} (h:TW dbk pb FD D j w0 Y F M) (f:Fr Y w0 w) (hB:∀ b∈B,w0.heap.size<=b/\b<w.heap.size):TW dbk pb FD D j w (B++Y) F M:=
 h.frameY f (fun b hb=>(List.mem_append.1 hb).elim (fun hb=>(hB b hb).2) fun hb=>Nat.lt_of_lt_of_le (h.ylt b hb) f.size) fun b hb=>(List.mem_append.1 hb).elim (fun hb=>.inr (hB b hb).1) .inl
theorem qrv (M:PgM) (kd:Int) (b:List Int):(makeV M kd b).2.over=M.over:=by
 unfold makeV
 split
 ·rfl
 ·split
  ·rfl
  ·split <;> rfl
theorem qsH (M:PgM) (n kd:Int) (b:List Int):(putV M n kd b).2.over=M.over:=by
 unfold putV
 split
 ·rfl
 ·split
  ·rfl
  ·split <;> rfl
theorem qqG (M:PgM) (n:Int):(dropV M n).2.over=M.over:=by
 unfold dropV
 split
 ·rfl
 ·split
  ·rfl
  ·split <;> rfl
theorem qrw (M:PgM) (t a b c:Int):(setRootM M t a b c).2.over=M.over:=by
 unfold setRootM
 split
 ·rfl
 ·split <;> rfl
theorem qqK {M M':PgM} (h:M'.over=M.over):dbOf dbk M'=dbOf dbk M:=by unfold dbOf; rw [h]
theorem TW.next {M':PgM} {F':List Nat} (h:TW dbk pb FD D j w Y F M) (ho:M'.over=M.over) (hw:M'.Wf) (hp:PagerAt w' (FD++HG::Y) pb (dbOf dbk M) F' M') (f:Fr F w w'):TW dbk pb FD D j w' Y F' M' where
 disk:=h.disk.frame f fun b hb=>h.pager.sep b (List.mem_append_left _ hb)
 lim:=h.lim
 pager:=by rw [qqK ho]; exact hp
 hv:=h.hv.frame f (h.pager.sep HG (by simp))
 wf:=hw
 sep:=h.sep
theorem TW.make {kind:Int} {s:Sl} {body:List Int} {K:Int×Int->World->Prop} (h:TW dbk pb FD D j w Y F M) (hb:RdB (Zo FD Y F) w s body) (hl:body.length<=100000) (hk:0<=kind/\kind<256) (hB:IsB body)
  (kk:∀ F' w',TW dbk pb FD D j w' Y F' (makeV M kind body).2->Fr F w w'->(∀ b∈F',b∈F\/w.heap.size<=b)->K (makeV M kind body).1 w') :
  call Tryz.prog 137 [.pointer (some ⟨pb,0,none⟩),.int .u8 kind,.slice s.a s.len s.cap] [.one (.int .u32),.one (.int .i64)] w K:=
 qs3 h.pager hb hl (by have:=h.wf.all; omega) fun F' w' hp f hn=>kk F' w' (h.next (qrv M kind body) (qpi h.wf hk hB).1 hp f) f hn
theorem TW.put {n kind:Int} {s:Sl} {body:List Int} {K:Int->World->Prop} (h:TW dbk pb FD D j w Y F M) (hb:RdB (Zo FD Y F) w s body) (hl:body.length<=100000) (hk:0<=kind/\kind<256) (hB:IsB body)
  (kk:∀ w',TW dbk pb FD D j w' Y F (putV M n kind body).2->Fr F w w'->K (putV M n kind body).1 w') :
  call Tryz.prog 136 [.pointer (some ⟨pb,0,none⟩),.int .u32 n,.int .u8 kind,.slice s.a s.len s.cap] [.one (.int .i64)] w K:=
 qtO h.pager hb hl fun w' hp f=>kk w' (h.next (qsH M n kind body) (qrk h.wf hk hB).1 hp f) f
theorem TW.drop {n:Int} {K:Int->World->Prop} (h:TW dbk pb FD D j w Y F M)
  (kk:∀ F' w',TW dbk pb FD D j w' Y F' (dropV M n).2->Fr F w w'->(∀ b∈F',b∈F\/w.heap.size<=b)->K (dropV M n).1 w') :
  call Tryz.prog 110 [.pointer (some ⟨pb,0,none⟩),.int .u32 n] [.one (.int .i64)] w K:=
 qsn h.pager (by have:=h.wf.all; omega) (by have:=h.wf.all; omega) (by have:=h.wf.all; omega) fun F' w' hp f hn=>kk F' w' (h.next (qqG M n) (qoM h.wf) hp f) f hn
theorem TW.read {n:Int} {K:Int×Sl×Int->World->Prop} (h:TW dbk pb FD D j w Y F M) (hn:U32 n)
  (kk:∀ s w',(∀ G:List Nat,(∀ b∈G,b<w.heap.size)->RdB G w' s (pagerReadM D M n).2.1)->Fr [] w w'->K ((pagerReadM D M n).1,s,(pagerReadM D M n).2.2) w') :
  call Tryz.prog 91 [.pointer (some ⟨pb,0,none⟩),.int .u32 n] [.one (.int .u8),.one .slice,.one (.int .i64)] w K:=
 qrx h.disk h.lim h.pager h.hv hn (by have:=h.wf.all; omega) (fun e he=>Nat.le_trans (h.wf.body e he).2.1 (by decide)) kk
theorem TW.root {t:Int} {K:Int×Int×Int->World->Prop} (h:TW dbk pb FD D j w Y F M) (kk:∀ w',Fr [] w w'->K (rootM M t) w') :
  call Tryz.prog 19 [.pointer (some ⟨pb,0,none⟩),.int .i64 t] [.agg [.int .u32,.int .u32,.int .u32]] w K:=qsr h.pager kk
theorem qpN {t a b c:Int} (hW:M.Wf) (ha:U32 a) (hb:U32 b) (hc:U32 c):(setRootM M t a b c).2.Wf:=by
 unfold setRootM
 split
 ·exact hW
 ·split
  ·exact hW
  ·refine qm1 hW fun x hx=>?_
   simp only [List.mem_append,List.mem_cons,List.not_mem_nil,or_false] at hx
   rcases hx with (hx | rfl | rfl | rfl) | hx
   ·exact hW.roots x (List.mem_of_mem_take hx)
   ·exact ha
   ·exact hb
   ·exact hc
   ·exact hW.roots x (List.mem_of_mem_drop hx)
theorem TW.setRoot {t a b c:Int} {K:Int->World->Prop} (h:TW dbk pb FD D j w Y F M) (ha:U32 a) (hb:U32 b) (hc:U32 c)
  (kk:∀ w',TW dbk pb FD D j w' Y F (setRootM M t a b c).2->Fr F w w'->K (setRootM M t a b c).1 w') :
  call Tryz.prog 107 [.pointer (some ⟨pb,0,none⟩),.int .i64 t,.agg #[.int .u32 a,.int .u32 b,.int .u32 c]] [.one (.int .i64)] w K:=
 qoc h.pager fun w' hp f=>kk w' (h.next (qrw M t a b c) (qpN h.wf ha hb hc) hp f) f
theorem TW.room {K:Int->World->Prop} (h:TW dbk pb FD D j w Y F M) (kk:K M.free.length w):call Tryz.prog 46 [.pointer (some ⟨pb,0,none⟩)] [.one (.int .i64)] w K:=qsk h.pager kk
theorem TW.znew {F':List Nat} (hn:∀ b∈F',b∈F\/w.heap.size<=b):∀ b∈Zo FD Y F',b∈Zo FD Y F\/w.heap.size<=b:=qkW hn
theorem qi9 (hW:M.Wf) (t:Int):U32 (rootM M t).1/\U32 (rootM M t).2.1/\U32 (rootM M t).2.2:=by
 have key:∀ n,U32 (M.roots.getD n 0):=fun n=>by
  rw [List.getD_eq_getElem?_getD]
  cases e:M.roots[n]? with
  | none=>exact ⟨by decide,by decide⟩
  | some x=>exact hW.roots x (List.mem_of_getElem? e)
 unfold rootM
 split
 ·exact ⟨⟨by decide,by decide⟩,⟨by decide,by decide⟩,⟨by decide,by decide⟩⟩
 ·exact ⟨key _,key _,key _⟩
end
end Go.Proofs.YtmmkegapckbomaaGreatDoor
end
section
set_option linter.unusedVariables false
set_option linter.unusedSimpArgs false
namespace Go.Proofs.YtmmkegapckbomaaGreatDoor
open Go Go.Pt
open Classical
attribute [local irreducible] ld ldA ldV fld fldA newZ st new idx idxS idxA slc slcS slcP mkS chk nn call callV inv run runQ runU join loop held ext rng undefer s2a nxt ent IntKind.wrap
abbrev WkC:=Int×Int×Int×Int×Option Addr×Int
def wkX (k v pb:Nat) (t:Int):WkC:=((k:Int),(v:Int),((capsV k v).1:Int),((capsV k v).2:Int),some ⟨pb,0,none⟩,t)
def wkV (x:WkC):Array Value:=#[.int .i64 x.1,.int .i64 x.2.1,.int .i64 x.2.2.1,.int .i64 x.2.2.2.1,.pointer x.2.2.2.2.1,.int .i64 x.2.2.2.2.2]
abbrev WK:TypeId:=114
def shX (k v:Nat):Int×Int×Int×Int:=((k:Int),(v:Int),((capsV k v).1:Int),((capsV k v).2:Int))
def shV (k v:Nat):Array Value:=#[.int .i64 k,.int .i64 v,.int .i64 (capsV k v).1,.int .i64 (capsV k v).2]
section
variable {S:List Nat} {w:World} {x:NdC} {n:NodeM} {k v:Nat}
structure NodeL (x:NdC) (n:NodeM):Prop where
 leaf:x.1=n.leaf
 keys:x.2.1.len=n.keys.length
 vals:x.2.2.1.len=n.vals.length
 kids:x.2.2.2.len=n.kids.length
theorem NodeR.lens (h:NodeR S w x n):NodeL x n:=by
 obtain ⟨h0,_,⟨pk,h1,h2⟩,⟨pv,h3,h4⟩,h5⟩:=h
 exact ⟨h0,by rw [h1.len,<- h2,List.length_map],by rw [h3.len,<- h4,List.length_map],h5.1⟩
theorem qlc {K:Int×Int->World->Prop} (h:NodeL x n) (kk:∀ w',Fr [] w w'->K (((sizeN n k v).1:Int),((sizeN n k v).2:Int)) w') :
  call Tryz.prog 174 [.agg (shV k v),.agg (ndV x)] [.one (.int .i64),.one (.int .i64)] w K:=by
 refine qgM (s0:=k) (s1:=v) (s2:=(capsV k v).1) (s3:=(capsV k v).2) (n0:=x.1) (n1:=x.2.1) (n2:=x.2.2.1) (n3:=x.2.2.2) ?_
 unfold qdj
 refine Own.new' (Own.start [] w) fun r1 w1 e1 f1 ho=>?_
 refine Own.new' ho fun r3 w2 e2 f2 ho=>?_
 refine Own.ld (c:=.bool) ho 0 rfl x.1 rfl ?_
 unfold sizeN at kk
 have hod:=ho.drew
 refine qab (fun hc=>?_) (fun hc=>?_)
 ·rw [h.leaf] at hc
  rw [if_pos hc] at kk
  refine Own.ld (c:=.slice) hod 0 rfl x.2.1 rfl ?_
  refine Own.ld (c:=.int .i64) hod 1 rfl ((capsV k v).1:Int) rfl ?_
  rw [h.keys]
  exact kk _ hod.fr
 ·rw [h.leaf] at hc
  rw [if_neg (by rw [hc]; decide)] at kk
  refine Own.ld (c:=.slice) hod 0 rfl x.2.2.2 rfl ?_
  refine Own.ld (c:=.int .i64) hod 1 rfl ((capsV k v).2:Int) rfl ?_
  rw [h.kids]
  exact kk _ hod.fr
theorem qlW {n:NodeM}:IntKind.wrap .i64 (Int.tdiv ((sizeN n k v).2:Int) 2)=(((sizeN n k v).2 / 2:Nat):Int):=by
 have hc:=qer (k:=k) (v:=v)
 have h2:(sizeN n k v).2<=498:=by unfold sizeN; split <;> omega
 rw [Int.tdiv_eq_ediv_of_nonneg (by omega),wi' _ (by omega)]
 rfl
theorem que {K:Bool->World->Prop} (h:NodeL x n) (kk:∀ w',Fr [] w w'->K (decide (lowN n k v)) w') :
  call Tryz.prog 142 [.agg (shV k v),.agg (ndV x)] [.one .bool] w K:=by
 refine qhB (s0:=k) (s1:=v) (s2:=(capsV k v).1) (s3:=(capsV k v).2) (n0:=x.1) (n1:=x.2.1) (n2:=x.2.2.1) (n3:=x.2.2.2) ?_
 unfold qdP
 refine Own.new' (Own.start [] w) fun r1 w1 e1 f1 ho=>?_
 refine Own.new' ho fun r3 w2 e2 f2 ho=>?_
 refine Own.ldA (cl:=qa2) ho 1 rfl (shX k v) rfl ?_
 refine Own.ldA (cl:=qaa) ho 0 rfl x rfl ?_
 refine qlc (k:=k) (v:=v) h fun w3 f3=>?_
 dsimp only
 rw [qlW]
 have e:decide (((sizeN n k v).1:Int)<(((sizeN n k v).2 / 2:Nat):Int))=decide (lowN n k v):=decide_eq_decide.2 (by unfold lowN; omega)
 rw [e]
 exact kk w3 (ho.fr.trans f3)
theorem qsL {K:Bool->World->Prop} (h:NodeL x n) (kk:∀ w',Fr [] w w'->K (decide (spareN n k v)) w') :
  call Tryz.prog 178 [.agg (shV k v),.agg (ndV x)] [.one .bool] w K:=by
 refine qf6 (s0:=k) (s1:=v) (s2:=(capsV k v).1) (s3:=(capsV k v).2) (n0:=x.1) (n1:=x.2.1) (n2:=x.2.2.1) (n3:=x.2.2.2) ?_
 unfold qcW
 refine Own.new' (Own.start [] w) fun r1 w1 e1 f1 ho=>?_
 refine Own.new' ho fun r3 w2 e2 f2 ho=>?_
 refine Own.ldA (cl:=qa2) ho 1 rfl (shX k v) rfl ?_
 refine Own.ldA (cl:=qaa) ho 0 rfl x rfl ?_
 refine qlc (k:=k) (v:=v) h fun w3 f3=>?_
 dsimp only
 rw [qlW]
 have e:decide (((sizeN n k v).1:Int)>(((sizeN n k v).2 / 2:Nat):Int))=decide (spareN n k v):=decide_eq_decide.2 (by unfold spareN; omega)
 rw [e]
 exact kk w3 (ho.fr.trans f3)
end
theorem qiO {t:Int} {ks:Sl} {pb:Nat} {k v:Nat} {w:World} {K:WkC×Int->World->Prop} (hs:shp t=((k:Int),(v:Int))) (h0:k=0->∀ x w',Fr [] w w'->K (x,4) w') (h1:k≠0->ks.len≠k->∀ x w',Fr [] w w'->K (x,1) w') (h2:k≠0->ks.len=k->∀ w',Fr [] w w'->K (wkX k v pb t,0) w') :
  call Tryz.prog 59 [.pointer (some ⟨pb,0,none⟩),.int .i64 t,.slice ks.a ks.len ks.cap] [.agg qaf,.one (.int .i64)] w K:=by
 refine qmr (p:=some ⟨pb,0,none⟩) (t:=t) (key:=ks) ?_
 unfold qis
 refine Own.new' (Own.start [] w) fun r1 w1 e1 f1 ho=>?_
 refine qmA ?_
 rw [hs]
 refine qab (fun hc=>?_) (fun hc=>?_)
 ·have hc:((k:Nat):Int)=0:=beq_iff_eq.1 hc
  refine Own.st' ho 0 rfl (wkV (0,0,0,0,none,0)) rfl rfl (Nat.le_of_ble_eq_true rfl) fun w2 ho f2=>?_
  refine Own.ldA (cl:=qaf) ho 0 rfl (0,0,0,0,none,0) rfl ?_
  exact h0 (by omega) _ _ ho.fr
 have hc:¬ ((k:Nat):Int)=0:=beq_eq_false_iff_ne.1 hc
 refine qab (fun hc2=>?_) (fun hc2=>?_)
 ·have hc2:¬ ((ks.len:Int)=(k:Int)):=beq_eq_false_iff_ne.1 (by simpa using hc2)
  refine Own.st' ho 0 rfl (wkV (0,0,0,0,none,0)) rfl rfl (Nat.le_of_ble_eq_true rfl) fun w2 ho f2=>?_
  refine Own.ldA (cl:=qaf) ho 0 rfl (0,0,0,0,none,0) rfl ?_
  exact h1 (by omega) (by omega) _ _ ho.fr
 have hc2:(ks.len:Int)=(k:Int):=by
  rw [Bool.not_eq_false'] at hc2
  exact beq_iff_eq.1 hc2
 refine qi8 fun w2 f2=>?_
 have ho:=ho.frame0 f2
 refine Own.st' ho 0 rfl (wkV (wkX k v pb t)) rfl rfl (Nat.le_of_ble_eq_true rfl) fun w3 ho f3=>?_
 refine Own.ldA (cl:=qaf) ho 0 rfl (wkX k v pb t) rfl ?_
 exact h2 (by omega) (by omega) _ ho.fr
section
variable {dbk pb j:Nat} {FD Y F:List Nat} {D:DiskM} {w:World} {M:PgM} {k v:Nat} {t:Int}
theorem qel {p:Int} {K:NdC×Int->World->Prop} (h:TW dbk pb FD D j w Y F M) (hp:U32 p)
  (kk:∀ x B w',TW dbk pb FD D j w' (B++Y) F M->NodeB (Zo FD (B++Y) F) w' x (loadN D M k v p).1 B->Fr [] w w'->(∀ c∈B,w.heap.size<=c)->K (x,(loadN D M k v p).2) w') :
  call Tryz.prog 82 [.agg (wkV (wkX k v pb t)),.int .u32 p] [.agg qaa,.one (.int .i64)] w K:=by
 refine qhA (w_0:=(wkX k v pb t).1) (w_1:=(wkX k v pb t).2.1) (w_2:=(wkX k v pb t).2.2.1) (w_3:=(wkX k v pb t).2.2.2.1) (w_4:=(wkX k v pb t).2.2.2.2.1) (w_5:=(wkX k v pb t).2.2.2.2.2) (n:=p) ?_
 unfold qd5
 refine Own.new' (Own.start [] w) fun r1 w1 e1 f1 ho=>?_
 refine Own.new' ho fun r3 w2 e2 f2 ho=>?_
 refine Own.ld (c:=.ptr) ho 1 rfl (some ⟨pb,0,none⟩) rfl ?_
 have h2:=h.frame0 ho.fr
 refine TW.read h2 hp fun s w7 hs f7=>?_
 have ho:=ho.frame0 f7
 have hs0:=hs [] (fun _ h=>nomatch h)
 have hB:IsB (pagerReadM D M p).2.1:=qkT h.lim.ok (fun e he=>(h.wf.body e he).2.2) p
 unfold loadN at kk
 refine qab (fun hc=>?_) (fun hc=>?_)
 ·have hne:(pagerReadM D M p).2.2≠0:=fun e=>by
   dsimp only at hc
   rw [e] at hc
   exact absurd hc (by decide)
  rw [if_pos hne] at kk
  refine Own.st' ho 0 rfl (ndV zeroX) rfl rfl (Nat.le_of_ble_eq_true rfl) fun w8 ho f8=>?_
  refine Own.ldA (cl:=qaa) ho 0 rfl zeroX rfl ?_
  exact kk zeroX [] w8 (h.frame0 ho.fr) (.zero _ _) ho.fr (fun _ h=>nomatch h)
 ·have he:¬ (pagerReadM D M p).2.2≠0:=fun e=>by
   dsimp only at hc
   rw [Bool.not_eq_false',beq_iff_eq] at hc
   exact e hc
  rw [if_neg he] at kk
  refine Own.ld (c:=.int .i64) ho 1 rfl (k:Int) rfl ?_
  refine Own.ld (c:=.int .i64) ho 1 rfl (v:Int) rfl ?_
  refine qr6 (k:=k) (v:=v) hs0 hB fun x B w13 hN f13 hBn=>?_
  have ho13:=ho.frame0 f13
  have hr3:=qac (ho.at (i:=0) rfl)
  dsimp only at hr3
  have hr:∀ c∈B,c∉[r3]:=fun c hc hm=>by have:=hBn c hc; rw [List.mem_singleton.1 hm] at this; omega
  refine Own.st' ho13 0 rfl (ndV x) rfl rfl (Nat.le_of_ble_eq_true rfl) fun w14 ho14 f14=>?_
  refine Own.ldA (cl:=qaa) ho14 0 rfl x rfl ?_
  have hN14:=hN.frame f14 hr (fun c hc=>.inl (by rw [List.mem_singleton.1 hc]; simp [hr3])) (fun c hc=>.inl hc)
  have h14:=h.frame0 ho14.fr
  have hsz:=ho.fr.size
  have h14Y:TW dbk pb FD D j w14 (B++Y) F M:=h.addY (ho14.fr.mono fun _ h=>nomatch h) fun b hb=>⟨Nat.le_trans hsz (hBn b hb),hN14.lt b hb⟩
  refine kk x B w14 h14Y (hN14.weak fun c hc=>.inl ?_) ho14.fr (fun c hc=>Nat.le_trans hsz (hBn c hc))
  have zl:=h.zlt
  rcases List.mem_append.1 hc with hc | hc
  ·rcases List.mem_append.1 hc with hc | hc
   ·have:=zl c (by simp [hc]); simp; omega
   ·rcases List.mem_cons.1 hc with hc | hc
    ·have:=zl c (by simp [hc]); simp; omega
    ·rcases List.mem_append.1 hc with hc | hc
     ·simp [hc]
     ·have:=zl c (by simp [hc]); simp; omega
  ·have:=zl c (by simp [hc]); simp; omega
theorem qqm {kd:Int} {b:List Int} {n:Int} (h:(putV M n kd b).1=10):(putV M n kd b).2=M:=by
 unfold putV at h ⊢
 split
 ·rfl
 ·rename_i ho
  rw [if_neg ho] at h
  split
  ·rfl
  ·rename_i q hq
   rw [hq] at h
   dsimp only at h
   split
   ·rfl
   ·rename_i hl; rw [if_neg hl] at h; cases h
theorem qa7 {x:NdC} {n:NodeM} {p:Int} {K:Int×Int->World->Prop} (h:TW dbk pb FD D j w Y F M) (hx:NodeR (Zo FD Y F) w x n) (h1:n.keys.length<=1000000) (h2:n.vals.length<=1000000) (h3:n.kids.length<=1000000)
  (kk:∀ F' w',TW dbk pb FD D j w' Y F' (storeN k v M p n).2->Fr F w w'->(∀ b∈F',b∈F\/w.heap.size<=b)->K (storeN k v M p n).1 w') :
  call Tryz.prog 106 [.agg (wkV (wkX k v pb t)),.int .u32 p,.agg (ndV x)] [.one (.int .u32),.one (.int .i64)] w K:=by
 refine qgS (w_0:=(wkX k v pb t).1) (w_1:=(wkX k v pb t).2.1) (w_2:=(wkX k v pb t).2.2.1) (w_3:=(wkX k v pb t).2.2.2.1) (w_4:=(wkX k v pb t).2.2.2.2.1) (w_5:=(wkX k v pb t).2.2.2.2.2) (n:=p) (x0:=x.1) (x1:=x.2.1) (x2:=x.2.2.1) (x3:=x.2.2.2) ?_
 unfold qdv
 refine Own.new' (Own.start [] w) fun r1 w1 e1 f1 ho=>?_
 refine Own.new' ho fun r3 w2 e2 f2 ho=>?_
 refine Own.ldA (cl:=qaa) ho 0 rfl x rfl ?_
 refine Own.ld (c:=.int .i64) ho 1 rfl (k:Int) rfl ?_
 refine Own.ld (c:=.int .i64) ho 1 rfl (v:Int) rfl ?_
 refine qsS (x:=x) (k:=k) (v:=v) (hx.frame0 ho.fr) h1 h2 h3 fun s w9 hs f9=>?_
 have ho:=ho.frame0 f9
 have h9:=h.frame0 ho.fr
 have hBk:IsB (writeNV n k v).2.1:=by
  unfold writeNV
  split
  ·exact qlM hx.2.1.1 hx.2.1.2.1
  ·exact fun _ h=>nomatch h
 have hkd:0<=(writeNV n k v).1/\(writeNV n k v).1<256:=by
  unfold writeNV kindN
  split
  ·dsimp only; split <;> exact ⟨by decide,by decide⟩
  ·exact ⟨by decide,by decide⟩
 have hbl:(writeNV n k v).2.1.length<=100000:=by
  unfold writeNV
  split
  ·rename_i hr; have:=(qdH hr).2; dsimp only; omega
  ·exact Nat.zero_le _
 unfold storeN at kk
 refine qab (fun hc=>?_) (fun hc=>?_)
 ·have hne:(writeNV n k v).2.2≠0:=fun e=>by
   dsimp only at hc
   rw [e] at hc
   exact absurd hc (by decide)
  rw [if_pos hne] at kk
  exact kk F w9 h9 (ho.fr.mono fun _ h=>nomatch h) fun b hb=>.inl hb
 have he:¬ (writeNV n k v).2.2≠0:=fun e=>by
  dsimp only at hc
  rw [Bool.not_eq_false',beq_iff_eq] at hc
  exact e hc
 rw [if_neg he] at kk
 have hl1:=qac (ho.at (i:=1) rfl)
 dsimp only at hl1
 have hzl:=h.zlt
 have hr1F:r1∉F:=fun hm=>by have:=hzl r1 (by simp [hm]); omega
 have hr1w:w.heap.size<=r1:=by omega
 have hsz9:=ho.fr.size
 have hrd:∀ G:List Nat,(∀ b∈G,b<w.heap.size)->RdB G w9 s (writeNV n k v).2.1:=fun G hG=>hs G fun b hb=>Nat.lt_of_lt_of_le (hG b hb) (Nat.le_trans f1.size f2.size)
 have ho1:Own F w w9 [(r1,.cells (wkV (wkX k v pb t)) WK (0,0))]:=⟨fun q hq=>by rw [List.mem_singleton.1 hq]; exact ho.at (i:=1) rfl,by simp,ho.fr.mono (fun _ h=>nomatch h),fun q hq=>by rw [List.mem_singleton.1 hq]; exact .inr hr1w⟩
 generalize hkx:(writeNV n k v).1=kd at *
 generalize hbx:(writeNV n k v).2.1=bd at *
 refine qag (fun _ w'=>(p=0\/(putV M p kd bd).1=10)/\TW dbk pb FD D j w' Y F M/\Own F w w' [(r1,.cells (wkV (wkX k v pb t)) WK (0,0))]/\RdB (Zo FD Y F) w' s bd) ?_ ?_
 ·refine qab (fun hp=>?_) (fun hp=>?_)
  ·have hp:p≠0:=by
    rw [Bool.not_eq_true'] at hp
    exact beq_eq_false_iff_ne.1 hp
   refine Own.ld (c:=.ptr) ho1 0 rfl (some ⟨pb,0,none⟩) rfl ?_
   refine TW.put h9 (hrd _ hzl) hbl hkd hBk fun w13 h13 f13=>?_
   have ho13:=ho1.frame f13 (fun i hi=>.inl hi) (fun q hq=>by rw [List.mem_singleton.1 hq]; exact hr1F)
   refine qab (fun hc2=>?_) (fun hc2=>?_)
   ·have hc2:(putV M p kd bd).1≠10:=by
     rw [Bool.not_eq_true'] at hc2
     exact beq_eq_false_iff_ne.1 hc2
    rw [if_pos ⟨hp,hc2⟩] at kk
    exact kk F w13 h13 ho13.fr fun b hb=>.inl hb
   ·have hc2:(putV M p kd bd).1=10:=by
     rw [Bool.not_eq_false'] at hc2
     exact beq_iff_eq.1 hc2
    rw [qqm hc2] at h13
    exact ⟨.inr hc2,h13,ho13,(hrd _ hzl).frame (f13.mono fun b hb _=>by simp [hb]) fun b hb=>.inl hb⟩
  ·have hp:p=0:=by
    rw [Bool.not_eq_false'] at hp
    exact beq_iff_eq.1 hp
   exact ⟨.inl hp,h9,ho1,hrd _ hzl⟩
 rintro _ w15 ⟨hp,h15,ho15,hr15⟩
 rw [if_neg (fun hh=>hp.elim hh.1 hh.2)] at kk
 refine Own.ld (c:=.ptr) ho15 0 rfl (some ⟨pb,0,none⟩) rfl ?_
 refine TW.make h15 hr15 hbl hkd hBk fun F' w18 h18 f18 n18=>?_
 have ho18:=ho15.frame f18 (fun i hi=>.inl hi) (fun q hq=>by rw [List.mem_singleton.1 hq]; exact hr1F)
 have hsz15:=ho15.fr.size
 have hn18:∀ b∈F',b∈F\/w.heap.size<=b:=fun b hb=>(n18 b hb).imp id fun h=>Nat.le_trans hsz15 h
 refine qag (fun e w'=>∃ F2,e=(if (makeV M kd bd).1.2=0/\p≠0 then (dropV (makeV M kd bd).2 p).1 else (makeV M kd bd).1.2)/\TW dbk pb FD D j w' Y F2 (if (makeV M kd bd).1.2=0/\p≠0 then (dropV (makeV M kd bd).2 p).2 else (makeV M kd bd).2)/\Fr F w w'/\∀ b∈F2,b∈F\/w.heap.size<=b) ?_ ?_
 ·refine qag (fun d w'=>d=decide ((makeV M kd bd).1.2=0/\p≠0)/\w'=w18) ?_ ?_
  ·refine qab (fun hc=>⟨?_,rfl⟩) (fun hc=>⟨?_,rfl⟩)
   ·have hc:(makeV M kd bd).1.2=0:=beq_iff_eq.1 hc
    rw [Bool.eq_iff_iff,decide_eq_true_iff,Bool.not_eq_true',beq_eq_false_iff_ne]
    exact ⟨fun h=>⟨hc,h⟩,fun h=>h.2⟩
   ·have hc:¬ (makeV M kd bd).1.2=0:=beq_eq_false_iff_ne.1 hc
    rw [decide_eq_false (fun h=>hc h.1)]
  rintro d w22 ⟨rfl,rfl⟩
  refine qab (fun hc=>?_) (fun hc=>?_)
  ·have hc:=of_decide_eq_true hc
   rw [if_pos hc,if_pos hc]
   refine Own.ld (c:=.ptr) ho18 0 rfl (some ⟨pb,0,none⟩) rfl ?_
   refine TW.drop h18 fun F2 w25 h25 f25 n25=>?_
   have hsz18:=ho18.fr.size
   refine ⟨F2,rfl,h25,ho18.fr.trans' f25 hn18,fun b hb=>?_⟩
   rcases n25 b hb with h | h
   ·exact hn18 b h
   ·exact .inr (Nat.le_trans hsz18 h)
  ·have hc:=of_decide_eq_false hc
   rw [if_neg hc,if_neg hc]
   exact ⟨F',rfl,h18,ho18.fr,hn18⟩
 rintro e w27 ⟨F2,rfl,h27,f27,n27⟩
 by_cases hc:(makeV M kd bd).1.2=0/\p≠0
 ·rw [if_pos hc] at kk h27 ⊢
  exact kk F2 w27 h27 f27 n27
 ·rw [if_neg hc] at kk h27 ⊢
  exact kk F2 w27 h27 f27 n27
end
section
section
variable {S:List Nat} {w:World} {s:Sl} {ps:Kps}
theorem RdK.take3 (h:RdK S w s ps) {hi:Int} (b:Nat) {K:Sl->Prop} (hhi:hi=b) (hb:b<=ps.length) (kk:∀ s',RdK S w s' (ps.take b)->K s'):slc s none (some hi) (some hi) 1 K:=
 Rds.part3 h.1 b hhi (by rw [List.length_map]; exact hb) fun s' h1=>kk s' ⟨by rw [<- List.map_take] at h1; exact h1,fun p hp=>h.2 p (List.mem_of_mem_take hp)⟩
theorem RdK.from (h:RdK S w s ps) {lo:Int} (a:Nat) {K:Sl->Prop} (hlo:lo=a) (ha:a<=ps.length) (kk:∀ s',RdK S w s' (ps.drop a)->K s'):slc s (some lo) none none 1 K:=
 Rds.part h.1 a ps.length hlo (by rw [Option.getD_none,h.len]) ha (by rw [List.length_map]; exact Nat.le_refl _) fun s' _ h1 _=>kk s' ⟨by
  have e:(slsP ps).take ps.length=slsP ps:=List.take_of_length_le (by rw [List.length_map]; exact Nat.le_refl _)
  rw [e,<- List.map_drop] at h1; exact h1,fun p hp=>h.2 p (List.mem_of_mem_drop hp)⟩
theorem RdK.upto (h:RdK S w s ps) {hi:Int} (b:Nat) {K:Sl->Prop} (hhi:hi=b) (hb:b<=ps.length) (kk:∀ s',RdK S w s' (ps.take b)->K s'):slc s none (some hi) none 1 K:=
 Rds.part h.1 0 b rfl hhi (Nat.zero_le _) (by rw [List.length_map]; exact hb) fun s' _ h1 _=>kk s' ⟨by
  rw [List.drop_zero,<- List.map_take] at h1; exact h1,fun p hp=>h.2 p (List.mem_of_mem_take hp)⟩
theorem qbU (ps:Kps) (b:Nat):keyP (ps.take b)=(keyP ps).take b:=List.map_take
theorem qbC (ps:Kps) (b:Nat):keyP (ps.drop b)=(keyP ps).drop b:=List.map_drop
theorem qco {ps:Kps} {i:Nat} (hi:i<ps.length):(keyP ps).getD i []=ps[i].2:=by
 rw [List.getD_eq_getElem?_getD,List.getElem?_map,List.getElem?_eq_getElem hi]; rfl
theorem Rds.from1 {α:Type} {enc:α->List Value} {l:List α} (h:Rds enc 1 S w s l) {lo:Int} (a:Nat) {K:Sl->Prop} (hlo:lo=a) (ha:a<=l.length) (kk:∀ s',Rds enc 1 S w s' (l.drop a)->K s'):slc s (some lo) none none 1 K:=
 Rds.part h a l.length hlo (by rw [Option.getD_none,h.1]) ha (Nat.le_refl _) fun s' _ h1 _=>kk s' (by rw [List.take_length] at h1; exact h1)
theorem Rds.upto1 {α:Type} {enc:α->List Value} {l:List α} (h:Rds enc 1 S w s l) {hi:Int} (b:Nat) {K:Sl->Prop} (hhi:hi=b) (hb:b<=l.length) (kk:∀ s',Rds enc 1 S w s' (l.take b)->K s'):slc s none (some hi) none 1 K:=
 Rds.part h 0 b rfl hhi (Nat.zero_le _) hb fun s' _ h1 _=>kk s' (by rw [List.drop_zero] at h1; exact h1)
end
section
variable {S:List Nat} {w:World} {x:NdC} {n:NodeM} {k v:Nat}
def MidOk (n:NodeM) (mid:Nat):Prop:=if n.leaf then mid<n.keys.length/\mid<=n.vals.length else 1<=mid/\mid<=n.keys.length/\mid<=n.kids.length
theorem qrB {mid:Nat} {K:NdC×NdC×Sl->World->Prop} (hx:NodeR S w x n) (hm:MidOk n mid) (hl:mid<=1000000)
  (kk:∀ xl xr ks w',NodeR S w' xl (halvesN n mid).1->NodeR S w' xr (halvesN n mid).2.1->RdB S w' ks (halvesN n mid).2.2->Fr [] w w'->K (xl,xr,ks) w') :
  call Tryz.prog 175 [.agg (ndV x),.int .i64 mid] [.agg qaa,.agg qaa,.one .slice] w K:=by
 have hx0:=hx
 obtain ⟨h0,hNB,⟨pk,hpk,hkeys⟩,⟨pv,hpv,hvals⟩,hkid⟩:=hx
 have l1:pk.length=n.keys.length:=by rw [<- hkeys,List.length_map]
 have l2:pv.length=n.vals.length:=by rw [<- hvals,List.length_map]
 refine qk1 (n0:=x.1) (n1:=x.2.1) (n2:=x.2.2.1) (n3:=x.2.2.2) (mid:=mid) ?_
 unfold qgv
 have h:=Own.start [] w
 refine Own.new' h fun r1 w2 _ f h=>?_
 refine Own.new' h fun r3 w4 _ f h=>?_
 refine Own.new' h fun r5 w6 _ f h=>?_
 have h:=Own.drew h
 refine ⟨?a,?b⟩
 case' a=>
  refine Own.ldA (cl:=qaa) h 2 rfl x rfl ?_
  refine Own.ldA (cl:=qaa) h 2 rfl x rfl ?_
  refine Own.new' h fun r9 w10 _ f h=>?_
  refine qap (h.cells 3 rfl rfl) (h.cells 3 rfl rfl) ?_
  refine Own.new' h fun r13 w14 _ f h=>?_
  refine qap (h.cells 4 rfl rfl) (h.cells 4 rfl rfl) ?_
  refine Own.st' h 1 rfl (ndV x) rfl rfl (Nat.le_of_ble_eq_true rfl) fun w17 h f=>?_
  refine qah (h.cells 4 rfl rfl) ?_
  refine Own.st' h 0 rfl (ndV x) rfl rfl (Nat.le_of_ble_eq_true rfl) fun w19 h f=>?_
 case' b=>
  refine Own.ldA (cl:=qaa) h 2 rfl x rfl ?_
  refine Own.ldA (cl:=qaa) h 2 rfl x rfl ?_
  refine Own.new' h fun r13 w10 _ f h=>?_
  refine qap (h.cells 3 rfl rfl) (h.cells 3 rfl rfl) ?_
  refine Own.new' h fun r9 w14 _ f h=>?_
  refine qap (h.cells 4 rfl rfl) (h.cells 4 rfl rfl) ?_
  refine Own.st' h 0 rfl (ndV x) rfl rfl (Nat.le_of_ble_eq_true rfl) fun w17 h f=>?_
  refine qah (h.cells 4 rfl rfl) ?_
  refine Own.st' h 1 rfl (ndV x) rfl rfl (Nat.le_of_ble_eq_true rfl) fun w19 h f=>?_
  have h:=qe6 h (List.Perm.swap _ _ _)
 all_goals
  refine Own.ld (c:=.bool) h 4 rfl x.1 rfl ?_
  refine qab (fun hc=>?_) (fun hc=>?_)
  ·rw [h0] at hc
   unfold MidOk at hm
   rw [if_pos hc] at hm
   have hH:halvesN n mid=({ n with keys:=n.keys.take mid,vals:=n.vals.take mid },{ n with keys:=n.keys.drop mid,vals:=n.vals.drop mid },n.keys.getD mid []):=by unfold halvesN; rw [if_pos hc]
   rw [hH] at kk
   have h:=Own.drew h
   refine Own.ld (c:=.slice) h 4 rfl x.2.1 rfl ?_
   refine RdK.take3 hpk mid rfl (by omega) fun s22 hs22=>?_
   refine Own.ld (c:=.slice) h 4 rfl x.2.2.1 rfl ?_
   refine RdK.take3 hpv mid rfl (by omega) fun s24 hs24=>?_
   refine Own.st' h 1 rfl (ndV (x.1,s22,x.2.2.1,x.2.2.2)) rfl rfl (Nat.le_of_ble_eq_true rfl) fun w25 h f=>?_
   refine qah (h.cell 4 rfl rfl) ?_
   refine Own.st' h 1 rfl (ndV (x.1,s22,s24,x.2.2.2)) rfl rfl (Nat.le_of_ble_eq_true rfl) fun w27 h f=>?_
   have h:=Own.drew h
   refine Own.ld (c:=.slice) h 4 rfl x.2.1 rfl ?_
   refine RdK.from hpk mid rfl (by omega) fun s29 hs29=>?_
   refine Own.ld (c:=.slice) h 4 rfl x.2.2.1 rfl ?_
   refine RdK.from hpv mid rfl (by omega) fun s31 hs31=>?_
   refine Own.st' h 0 rfl (ndV (x.1,s29,x.2.2.1,x.2.2.2)) rfl rfl (Nat.le_of_ble_eq_true rfl) fun w32 h f=>?_
   refine qah (h.cell 4 rfl rfl) ?_
   refine Own.st' h 0 rfl (ndV (x.1,s29,s31,x.2.2.2)) rfl rfl (Nat.le_of_ble_eq_true rfl) fun w34 h f=>?_
   have h:=Own.drew h
   refine Own.ldA (cl:=qaa) h 1 rfl (x.1,s22,s24,x.2.2.2) rfl ?_
   refine Own.ldA (cl:=qaa) h 0 rfl (x.1,s29,s31,x.2.2.2) rfl ?_
   refine Own.ld (c:=.slice) h 4 rfl x.2.1 rfl ?_
   have hmid:mid<pk.length:=by omega
   refine RdK.get' (hpk.frame0 h.fr) mid rfl hmid fun a38 ha hh=>?_
   refine Own.st' h 3 rfl (ndV (x.1,s22,s24,x.2.2.2)) rfl rfl (Nat.le_of_ble_eq_true rfl) fun w40 h f=>?_
   refine qao (hh _ (hpk.frame0 h.fr)) (h.cell 4 rfl rfl) (h.cells 0 rfl rfl) ?_
   refine Own.st' h 2 rfl (ndV (x.1,s29,s31,x.2.2.2)) rfl rfl (Nat.le_of_ble_eq_true rfl) fun w44 h f=>?_
   refine qap (hh _ (hpk.frame0 h.fr)) (h.cell 4 rfl rfl) ?_
   refine Own.ldA (cl:=qaa) h 3 rfl (x.1,s22,s24,x.2.2.2) rfl ?_
   refine Own.ldA (cl:=qaa) h 2 rfl (x.1,s29,s31,x.2.2.2) rfl ?_
   refine kk _ _ _ w44 ⟨h0,⟨fun a ha=>hNB.1 a (List.mem_of_mem_take ha),fun a ha=>hNB.2.1 a (List.mem_of_mem_take ha),hNB.2.2⟩,⟨pk.take mid,hs22.frame0 h.fr,by rw [qbU,hkeys]⟩,⟨pv.take mid,hs24.frame0 h.fr,by rw [qbU,hvals]⟩,hkid.frame0 h.fr⟩
    ⟨h0,⟨fun a ha=>hNB.1 a (List.mem_of_mem_drop ha),fun a ha=>hNB.2.1 a (List.mem_of_mem_drop ha),hNB.2.2⟩,⟨pk.drop mid,hs29.frame0 h.fr,by rw [qbC,hkeys]⟩,⟨pv.drop mid,hs31.frame0 h.fr,by rw [qbC,hvals]⟩,hkid.frame0 h.fr⟩ ?_ h.fr
   rw [<- hkeys,qco hmid]
   exact (hpk.2 _ (List.getElem_mem hmid)).frame0 h.fr
  ·rw [h0] at hc
   have hnc:¬ n.leaf=true:=by rw [hc]; decide
   unfold MidOk at hm
   rw [if_neg hnc] at hm
   have hH:halvesN n mid=({ n with kids:=n.kids.take mid,keys:=n.keys.take (mid-1) },{ n with kids:=n.kids.drop mid,keys:=n.keys.drop mid },n.keys.getD (mid-1) []):=by unfold halvesN; rw [if_neg hnc]
   rw [hH] at kk
   have em:IntKind.wrap .i64 ((mid:Int)-1)=((mid-1:Nat):Int):=by rw [wi' _ (by omega)]; omega
   have h:=Own.drew h
   refine Own.ld (c:=.slice) h 4 rfl x.2.2.2 rfl ?_
   refine Rds.part3 hkid mid rfl (by omega) fun s50 hs50=>?_
   refine Own.ld (c:=.slice) h 4 rfl x.2.1 rfl ?_
   refine RdK.take3 hpk (mid-1) em (by omega) fun s52 hs52=>?_
   refine Own.st' h 1 rfl (ndV (x.1,x.2.1,x.2.2.1,s50)) rfl rfl (Nat.le_of_ble_eq_true rfl) fun w53 h f=>?_
   refine qah (h.cell 4 rfl rfl) ?_
   refine Own.st' h 1 rfl (ndV (x.1,s52,x.2.2.1,s50)) rfl rfl (Nat.le_of_ble_eq_true rfl) fun w55 h f=>?_
   have h:=Own.drew h
   refine Own.ld (c:=.slice) h 4 rfl x.2.2.2 rfl ?_
   refine Rds.from1 hkid mid rfl (by omega) fun s57 hs57=>?_
   refine Own.ld (c:=.slice) h 4 rfl x.2.1 rfl ?_
   refine RdK.from hpk mid rfl (by omega) fun s59 hs59=>?_
   refine Own.st' h 0 rfl (ndV (x.1,x.2.1,x.2.2.1,s57)) rfl rfl (Nat.le_of_ble_eq_true rfl) fun w60 h f=>?_
   refine qah (h.cell 4 rfl rfl) ?_
   refine Own.st' h 0 rfl (ndV (x.1,s59,x.2.2.1,s57)) rfl rfl (Nat.le_of_ble_eq_true rfl) fun w62 h f=>?_
   have h:=Own.drew h
   refine Own.ldA (cl:=qaa) h 1 rfl (x.1,s52,x.2.2.1,s50) rfl ?_
   refine Own.ldA (cl:=qaa) h 0 rfl (x.1,s59,x.2.2.1,s57) rfl ?_
   refine Own.ld (c:=.slice) h 4 rfl x.2.1 rfl ?_
   have hmid:mid-1<pk.length:=by omega
   refine RdK.get' (hpk.frame0 h.fr) (mid-1) em hmid fun a66 ha hh=>?_
   refine Own.st' h 3 rfl (ndV (x.1,s52,x.2.2.1,s50)) rfl rfl (Nat.le_of_ble_eq_true rfl) fun w68 h f=>?_
   refine qao (hh _ (hpk.frame0 h.fr)) (h.cell 4 rfl rfl) (h.cells 0 rfl rfl) ?_
   refine Own.st' h 2 rfl (ndV (x.1,s59,x.2.2.1,s57)) rfl rfl (Nat.le_of_ble_eq_true rfl) fun w72 h f=>?_
   refine qap (hh _ (hpk.frame0 h.fr)) (h.cell 4 rfl rfl) ?_
   refine Own.ldA (cl:=qaa) h 3 rfl (x.1,s52,x.2.2.1,s50) rfl ?_
   refine Own.ldA (cl:=qaa) h 2 rfl (x.1,s59,x.2.2.1,s57) rfl ?_
   refine kk _ _ _ w72 ⟨h0,⟨fun a ha=>hNB.1 a (List.mem_of_mem_take ha),hNB.2.1,fun a ha=>hNB.2.2 a (List.mem_of_mem_take ha)⟩,⟨pk.take (mid-1),hs52.frame0 h.fr,by rw [qbU,hkeys]⟩,⟨pv,hpv.frame0 h.fr,hvals⟩,hs50.frame0 h.fr⟩
    ⟨h0,⟨fun a ha=>hNB.1 a (List.mem_of_mem_drop ha),hNB.2.1,fun a ha=>hNB.2.2 a (List.mem_of_mem_drop ha)⟩,⟨pk.drop mid,hs59.frame0 h.fr,by rw [qbC,hkeys]⟩,⟨pv,hpv.frame0 h.fr,hvals⟩,hs57.frame0 h.fr⟩ ?_ h.fr
   rw [<- hkeys,qco hmid]
   exact (hpk.2 _ (List.getElem_mem hmid)).frame0 h.fr
end
end
section
structure Sg (S0:List Nat) (w0 wa:World) (F T:List Nat):Prop where
 tot:Fr S0 w0 wa
 new:∀ b∈F,b∈S0\/w0.heap.size<=b
 own:∀ b∈T,b∈S0\/w0.heap.size<=b
abbrev bks (L:List (Nat×Obj)):List Nat:=L.map (·.1)
section
variable {dbk pb j:Nat} {FD S0 Y Y0 F0 F F' T:List Nat} {D:DiskM} {w0 wa w w':World} {M M':PgM} {L:List (Nat×Obj)}
theorem Sg.start (F:List Nat) (w:World):Sg F w w F []:=⟨.refl _ _,fun b hb=>.inl hb,fun _ h=>nomatch h⟩
theorem Sg.fr (g:Sg S0 w0 wa F T) (h:Own T wa w L):Fr S0 w0 w:=g.tot.trans' h.fr g.own
theorem Sg.bks (g:Sg S0 w0 wa F T) (h:Own T wa w L):∀ b∈bks L,b∈S0\/w0.heap.size<=b:=fun b hb=>by
 obtain ⟨q,hq,rfl⟩:=List.mem_map.1 hb
 rcases h.own q hq with h1 | h1
 ·exact g.own _ h1
 ·exact .inr (Nat.le_trans g.tot.size h1)
theorem qgY (h:Own T wa w L):∀ b∈bks L,b<w.heap.size:=fun b hb=>by
 obtain ⟨q,hq,rfl⟩:=List.mem_map.1 hb
 exact qac (h.blk q hq)
theorem TW.now (hT:TW dbk pb FD D j wa (T++Y) F M) (h:Own T wa w L):TW dbk pb FD D j w (bks L++Y) F M:=
 hT.frameY (h.fr.mono fun b hb _=>by simp [hb]) (fun b hb=>(List.mem_append.1 hb).elim (qgY h b) fun hb=>Nat.lt_of_lt_of_le (hT.ylt b (by simp [hb])) h.fr.size) fun b hb=>(List.mem_append.1 hb).elim (fun hb=>by
  obtain ⟨q,hq,rfl⟩:=List.mem_map.1 hb
  exact (h.own q hq).imp (fun h=>List.mem_append_left _ h) id) fun hb=>.inl (List.mem_append_right _ hb)
theorem TW.now0 (hT:TW dbk pb FD D j wa Y F M) (h:Own [] wa w L):TW dbk pb FD D j w (bks L++Y) F M:=TW.now (T:=[]) hT h
theorem qaH {S:List Nat} (h:Own T wa w L) (f:Fr S w w') (hd:∀ b∈bks L,b∉S):Own (bks L) w' w' L:=
 ⟨fun q hq=>by rw [f.block q.1 (qac (h.blk q hq)) (hd _ (List.mem_map_of_mem hq))]; exact h.blk q hq,h.nodup,.refl _ _,fun q hq=>.inl (List.mem_map_of_mem hq)⟩
theorem TW.own (hT:TW dbk pb FD D j w (bks L++Y) F M) (h:Own T wa w L) (f:Fr F w w'):Own (bks L) w' w' L:=qaH h f fun b hb=>hT.yf b (by simp [hb])
theorem Sg.next (g:Sg S0 w0 wa F T) (h:Own T wa w L) (f:Fr F w w') (n:∀ b∈F',b∈F\/w.heap.size<=b):Sg S0 w0 w' F' (Go.Proofs.YtmmkegapckbomaaGreatDoor.bks L):=
 ⟨(g.fr h).trans' f g.new,fun b hb=>(n b hb).elim (g.new b) fun h1=>.inr (Nat.le_trans (g.fr h).size h1),g.bks h⟩
theorem Sg.next0 (g:Sg S0 w0 wa F T) (h:Own T wa w L) (f:Fr [] w w'):Sg S0 w0 w' F (Go.Proofs.YtmmkegapckbomaaGreatDoor.bks L):=
 ⟨(g.fr h).trans' f fun _ h=>(nomatch h),g.new,g.bks h⟩
theorem qj5 (h:Own T wa w L):∀ b∈Zo FD (Go.Proofs.YtmmkegapckbomaaGreatDoor.bks L++Y) F,b∈Zo FD (T++Y) F\/wa.heap.size<=b:=fun b hb=>by
 rcases List.mem_append.1 hb with hb | hb
 ·rcases List.mem_append.1 hb with hb | hb
  ·exact .inl (by simp [hb])
  ·rcases List.mem_cons.1 hb with hb | hb
   ·exact .inl (by simp [hb])
   ·rcases List.mem_append.1 hb with hb | hb
    ·obtain ⟨q,hq,rfl⟩:=List.mem_map.1 hb
     exact (h.own q hq).imp (fun h=>by simp [h]) id
    ·exact .inl (by simp [hb])
 ·exact .inl (by simp [hb])
theorem qde {S:List Nat}:∀ b∈Zo FD Y F,b∈Zo FD (S++Y) F:=fun b hb=>by
 simp only [Zo,List.mem_append,List.mem_cons] at hb ⊢
 rcases hb with (hb | hb | hb) | hb <;> simp [hb]
theorem zoF {b:Nat} (h:b∈F):b∈Zo FD Y F:=List.mem_append_right _ h
theorem NodeR.now {x:NdC} {n:NodeM} (hx:NodeR (Zo FD (T++Y) F) wa x n) (h:Own T wa w L):NodeR (Zo FD (bks L++Y) F) w x n:=hx.frame (h.fr.mono fun b hb _=>by simp [hb]) (qj5 h)
theorem NodeR.now0 {x:NdC} {n:NodeM} (hx:NodeR (Zo FD Y F) wa x n) (h:Own [] wa w L):NodeR (Zo FD (bks L++Y) F) w x n:=NodeR.now (T:=[]) hx h
theorem NodeR.next {x:NdC} {n:NodeM} (hx:NodeR (Zo FD Y F) w x n) (f:Fr F w w') (nw:∀ b∈F',b∈F\/w.heap.size<=b):NodeR (Zo FD Y F') w' x n:=hx.frame (f.mono fun b hb _=>zoF hb) (TW.znew nw)
theorem qaD {s:Sl} {l:Key} (hx:RdB (Zo FD (T++Y) F) wa s l) (h:Own T wa w L):RdB (Zo FD (bks L++Y) F) w s l:=hx.frame (h.fr.mono fun b hb _=>by simp [hb]) (qj5 h)
theorem qbq {s:Sl} {l:Key} (hx:RdB (Zo FD Y F) wa s l) (h:Own [] wa w L):RdB (Zo FD (bks L++Y) F) w s l:=qaD (T:=[]) hx h
theorem qnK {s:Sl} {l:Key} (hx:RdB (Zo FD Y F) w s l) (f:Fr F w w') (nw:∀ b∈F',b∈F\/w.heap.size<=b):RdB (Zo FD Y F') w' s l:=hx.frame (f.mono fun b hb _=>zoF hb) (TW.znew nw)
theorem qje {S:List Nat} {s:Sl} {l:Key} (hx:RdB (Zo FD (S++Y) F) w s l):RdB (Zo FD Y F) w s l:=hx.frame (.refl _ _) fun b hb=>.inl (qde b hb)
theorem TW.drop0 (hT:TW dbk pb FD D j w (T++Y) F M):TW dbk pb FD D j w Y F M:=hT.weakY fun b hb=>List.mem_append_right _ hb
abbrev GrC:=Int×Bool×Sl×Int
def grX (g:Grown) (ks:Sl):GrC:=(g.page,g.fresh,ks,g.other)
abbrev GR:TypeId:=192
def grV (x:GrC):Array Value:=#[.int .u32 x.1,.bool x.2.1,.slice x.2.2.1.a x.2.2.1.len x.2.2.1.cap,.int .u32 x.2.2.2]
theorem qcz:U32 0:=⟨by decide,by decide⟩
theorem qnz {k:Int} {b:List Int} (hW:M.Wf):U32 (makeV M k b).1.1:=by
 unfold makeV
 split
 ·exact qcz
 ·split
  ·exact qcz
  ·split
   ·exact qcz
   ·rename_i n r hf
    have:=hW.range n (by rw [hf]; simp)
    have:=hW.n4
    exact ⟨by dsimp only; omega,by dsimp only; omega⟩
theorem qa6 {k v:Nat} {p:Int} {n:NodeM} (hW:M.Wf) (hp:U32 p):U32 (storeN k v M p n).1.1:=by
 unfold storeN
 split
 ·exact qcz
 ·split
  ·exact hp
  ·split
   ·exact qnz hW
   ·exact qnz hW
structure GOk (g:Grown):Prop where
 page:U32 g.page
 other:U32 g.other
 key:IsB g.key
theorem IsB.nil:IsB []:=fun _ h=>nomatch h
theorem qiH:GOk zeroG:=⟨⟨by decide,by decide⟩,⟨by decide,by decide⟩,.nil⟩
theorem qaW {l:List Key} (h:∀ a∈l,IsB a) (i:Nat):IsB (l.getD i []):=by
 rw [List.getD_eq_getElem?_getD]
 cases e:l[i]? with
 | none=>exact .nil
 | some a=>exact h a (List.mem_of_getElem? e)
theorem qln {x:NdC} {n:NodeM} {p:Int} {k v:Nat} {t:Int} {fresh:Bool} {K:GrC×Int->World->Prop} (hT:TW dbk pb FD D j w0 Y F M) (hx:NodeR (Zo FD Y F) w0 x n) (h1:n.keys.length<=100000) (h2:n.vals.length<=100000) (h3:n.kids.length<=100000)
  (hm:(sizeN n k v).1>(sizeN n k v).2->MidOk n ((sizeN n k v).1 / 2)) (hp:U32 p)
  (kk:∀ ks F' w',GOk (splitN k v M p n fresh).1.1->TW dbk pb FD D j w' Y F' (splitN k v M p n fresh).2->RdB (Zo FD Y F') w' ks (splitN k v M p n fresh).1.1.key->Fr F w0 w'->(∀ b∈F',b∈F\/w0.heap.size<=b)->K (grX (splitN k v M p n fresh).1.1 ks,(splitN k v M p n fresh).1.2) w') :
  call Tryz.prog 139 [.agg (wkV (wkX k v pb t)),.int .u32 p,.agg (ndV x),.bool fresh] [.agg qaF,.one (.int .i64)] w0 K:=by
 refine qgj (w_0:=(wkX k v pb t).1) (w_1:=(wkX k v pb t).2.1) (w_2:=(wkX k v pb t).2.2.1) (w_3:=(wkX k v pb t).2.2.2.1) (w_4:=(wkX k v pb t).2.2.2.2.1) (w_5:=(wkX k v pb t).2.2.2.2.2) (at_:=p) (n0:=x.1) (n1:=x.2.1) (n2:=x.2.2.1) (n3:=x.2.2.2) (fresh:=fresh) ?_
 unfold qdl
 have h:=Own.start [] w0
 have g:=Sg.start F w0
 have hl:=hx.lens
 have hsz:(sizeN n k v).1<=100000:=by unfold sizeN; split <;> assumption
 refine Own.new' h fun r1 w2 _ f h=>?_
 refine Own.new' h fun r3 w4 _ f h=>?_
 refine Own.new' h fun r5 w6 _ f h=>?_
 refine Own.new' h fun r7 w8 _ f h=>?_
 refine Own.st' h 0 rfl (grV (0,fresh,⟨none,0,0⟩,0)) rfl rfl (Nat.le_of_ble_eq_true rfl) fun w9 h f=>?_
 refine Own.ldA (cl:=qa2) h 3 rfl (shX k v) rfl ?_
 refine Own.ldA (cl:=qaa) h 2 rfl x rfl ?_
 refine qlc (k:=k) (v:=v) hl fun w13 f13=>?_
 have h:=h.frame0 f13
 refine qag (fun _ w'=>∃ (x':NdC) (n':NodeM) (ks:Sl) (key:Key) (o:Int) (F' T:List Nat) (wa:World) (M':PgM),Sg F w0 wa F' T/\TW dbk pb FD D j wa (T++Y) F' M'/\Own T wa w' [(r7,.cells (grV (0,fresh,ks,o)) GR (0,0)),(r5,.cells (grV (0,false,⟨none,0,0⟩,0)) GR (0,0)),(r3,.cells (ndV x') ND (0,0)),(r1,.cells (wkV (wkX k v pb t)) WK (0,0))]/\
   NodeR (Zo FD (T++Y) F') wa x' n'/\RdB (Zo FD (T++Y) F') wa ks key/\n'.keys.length<=100000/\n'.vals.length<=100000/\n'.kids.length<=100000/\U32 o/\IsB key/\splitN k v M p n fresh=((⟨(storeN k v M' p n').1.1,fresh,key,o⟩,(storeN k v M' p n').1.2),(storeN k v M' p n').2)) ?_ ?_
 ·refine qab (fun hc=>?_) (fun hc=>?_)
  ·have hc:(sizeN n k v).1>(sizeN n k v).2:=by have:=of_decide_eq_true hc; dsimp only at this; omega
   have hmo:=hm hc
   have emid:IntKind.wrap .i64 (Int.tdiv ((sizeN n k v).1:Int) 2)=(((sizeN n k v).1 / 2:Nat):Int):=by rw [Int.tdiv_eq_ediv_of_nonneg (by omega),wi' _ (by omega)]; rfl
   generalize hmd:(sizeN n k v).1 / 2=mid at hmo emid
   refine Own.ldA (cl:=qaa) h 2 rfl x rfl ?_
   dsimp only
   rw [emid]
   have hT1:=hT.now0 h
   refine qrB (hx.now0 h) hmo (by omega) fun xl xr ks w17 hxl hxr hks f17=>?_
   have hT17:=hT1.frame0 f17
   have g:=g.next0 h f17
   have h:=qaH h f17 fun _ _ h=>nomatch h
   refine Own.new' h fun r18 w19 _ f h=>?_
   refine Own.new' h fun r20 w21 _ f h=>?_
   refine Own.st' h 1 rfl (ndV xl) rfl rfl (Nat.le_of_ble_eq_true rfl) fun w22 h f=>?_
   refine Own.st' h 0 rfl (ndV xr) rfl rfl (Nat.le_of_ble_eq_true rfl) fun w23 h f=>?_
   refine Own.ldA (cl:=qaf) h 5 rfl (wkX k v pb t) rfl ?_
   refine Own.ldA (cl:=qaa) h 0 rfl xr rfl ?_
   have hH:(halvesN n mid).1.keys.length<=100000/\(halvesN n mid).1.vals.length<=100000/\(halvesN n mid).1.kids.length<=100000/\(halvesN n mid).2.1.keys.length<=100000/\(halvesN n mid).2.1.vals.length<=100000/\(halvesN n mid).2.1.kids.length<=100000:=by
    unfold halvesN
    split <;> simp only [List.length_take,List.length_drop] <;> omega
   refine qa7 (hT17.now h) (hxr.now h) (by omega) (by omega) (by omega) fun F1 w27 hT27 f27 n27=>?_
   have hxl27:=(hxl.now h).next f27 n27
   have hks27:=qnK (qaD hks h) f27 n27
   have g:=g.next h f27 n27
   have h:=(hT17.now h).own h f27
   refine qab (fun hc2=>?_) (fun hc2=>?_)
   ·have hne:(storeN k v M 0 (halvesN n mid).2.1).1.2≠0:=by
     rw [Bool.not_eq_true'] at hc2
     exact beq_eq_false_iff_ne.1 hc2
    have e:splitN k v M p n fresh=((zeroG,(storeN k v M 0 (halvesN n mid).2.1).1.2),(storeN k v M 0 (halvesN n mid).2.1).2):=by
     unfold splitN
     rw [if_pos hc,hmd,if_pos hne]
    rw [e] at kk
    refine Own.st' h 3 rfl (grV (0,false,⟨none,0,0⟩,0)) rfl rfl (Nat.le_of_ble_eq_true rfl) fun w28 h f=>?_
    refine Own.ldA (cl:=qaF) h 3 rfl (0,false,⟨none,0,0⟩,0) rfl ?_
    exact kk ⟨none,0,0⟩ F1 w28 qiH (hT27.now h).drop0 (.nil _ _ _ _) (g.fr h) g.new
   ·have he:¬ (storeN k v M 0 (halvesN n mid).2.1).1.2≠0:=fun e=>by
     rw [Bool.not_eq_false',beq_iff_eq] at hc2
     exact e hc2
    refine Own.ldA (cl:=qaa) h 1 rfl xl rfl ?_
    refine Own.st' h 4 rfl (ndV xl) rfl rfl (Nat.le_of_ble_eq_true rfl) fun w31 h f=>?_
    refine Own.st' h 2 rfl (grV (0,fresh,⟨none,0,0⟩,(storeN k v M 0 (halvesN n mid).2.1).1.1)) rfl rfl (Nat.le_of_ble_eq_true rfl) fun w32 h f=>?_
    refine Own.st' h 2 rfl (grV (0,fresh,ks,(storeN k v M 0 (halvesN n mid).2.1).1.1)) rfl rfl (Nat.le_of_ble_eq_true rfl) fun w33 h f=>?_
    refine ⟨xl,(halvesN n mid).1,ks,(halvesN n mid).2.2,_,F1,_,w27,_,g,hT27,h.sub (.cons _ (.cons _ (.refl _))),hxl27,hks27,hH.1,hH.2.1,hH.2.2.1,qa6 hT.wf ⟨by decide,by decide⟩,?_,?_⟩
    ·unfold halvesN
     split
     ·exact qaW hx.2.1.1 _
     ·exact qaW hx.2.1.1 _
    unfold splitN
    rw [if_pos hc,hmd,if_neg he]
  ·have hc:¬ (sizeN n k v).1>(sizeN n k v).2:=by have:=of_decide_eq_false hc; dsimp only at this; omega
   refine ⟨x,n,⟨none,0,0⟩,[],0,F,[],w0,M,g,hT,h,hx,.nil _ _ _ _,h1,h2,h3,⟨by decide,by decide⟩,.nil,?_⟩
   unfold splitN
   rw [if_neg hc]
 ·rintro x34 w35 ⟨x',n',ks,key,o,F1,T,wa,M',g,hT1,h,hx1,hk1,l1,l2,l3,uo,bk,e⟩
  rw [e] at kk
  refine Own.ldA (cl:=qaf) h 3 rfl (wkX k v pb t) rfl ?_
  refine Own.ldA (cl:=qaa) h 2 rfl x' rfl ?_
  refine qa7 (hT1.now h) (hx1.now h) (by omega) (by omega) (by omega) fun F2 w39 hT39 f39 n39=>?_
  have hks:=qnK (qaD hk1 h) f39 n39
  have g:=g.next h f39 n39
  have h:=(hT1.now h).own h f39
  refine Own.st' h 0 rfl (grV ((storeN k v M' p n').1.1,fresh,ks,o)) rfl rfl (Nat.le_of_ble_eq_true rfl) fun w40 h f=>?_
  refine Own.ldA (cl:=qaF) h 0 rfl ((storeN k v M' p n').1.1,fresh,ks,o) rfl ?_
  refine Own.st' h 1 rfl (grV ((storeN k v M' p n').1.1,fresh,ks,o)) rfl rfl (Nat.le_of_ble_eq_true rfl) fun w42 h f=>?_
  refine Own.ldA (cl:=qaF) h 1 rfl ((storeN k v M' p n').1.1,fresh,ks,o) rfl ?_
  exact kk ks F2 w42 ⟨qa6 hT1.wf hp,uo,bk⟩ (hT39.now h).drop0 (qje (qaD hks h)) (g.fr h) g.new
end
end
section
section
variable {Z:List Nat} {w w':World} {s:Sl} {l:List Key} {B:List Nat}
theorem qlG {α β:Type} (f:α->β) (l:List α) (i:Nat) (x:α):(insAt l i x).map f=insAt (l.map f) i (f x):=by unfold insAt; rw [List.map_append,List.map_append,List.map_take,List.map_drop]; rfl
theorem qlj {α β:Type} (f:α->β) (l:List α) (i:Nat):(delAt l i).map f=delAt (l.map f) i:=by unfold delAt; rw [List.map_append,List.map_take,List.map_drop]
theorem qdQ {α:Type} {l:List α} {i:Nat} {y:α} (h:y∈delAt l i):y∈l:=by
 unfold delAt at h
 exact (List.mem_append.1 h).elim List.mem_of_mem_take List.mem_of_mem_drop
abbrev NewZ (Z:List Nat) (w:World) (Z':List Nat):Prop:=∀ b∈Z',b∈Z\/w.heap.size<=b
theorem qeg {pk pk':Kps} {Z':List Nat} {s':Sl} {B':List Nat} {l':List Key} (hp:∀ p∈pk,RdB Z w p.1 p.2) (hb:Buf encSl 1 w' s' (slsP pk') B') (e:keyP pk'=l') (f:Fr B w w') (hBZ:∀ b∈B,b∈Z) (hZ:NewZ Z w Z') (hm:∀ p∈pk',p∈pk\/RdB Z w p.1 p.2):BufK Z' w' s' l' B':=
 ⟨pk',hb,e,fun p h=>((hm p h).elim (hp p) id).frame (f.mono fun b hb _=>hBZ b hb) hZ⟩
theorem BufK.ins {i:Nat} {ii:Int} {ks:Sl} {key:Key} {vb:Nat} {T':TypeId} {K:Sl->World->Prop} (h:BufK Z w s l B) (hBZ:∀ b∈B,b∈Z) (hi:i<=l.length) (he:ii=i) (hl:l.length<=100000) (hv:w.heap[vb]?=some (.cells #[elSl ks] T' (0,0))) (hvB:vb∉B) (hk:RdB Z w ks key)
  (kk:∀ s' B' w',(∀ Z',NewZ Z w Z'->BufK Z' w' s' (insAt l i key) B')->Fr B w w'->(∀ b∈B',b∈B\/w.heap.size<=b)->K s' w') :
  call Tryz.prog 138 [.slice s.a s.len s.cap,.int .i64 ii,.slice (some ⟨vb,0,none⟩) 1 1] [.one .slice] w K:=by
 obtain ⟨pk,hb,rfl,hp⟩:=h
 rw [List.length_map] at hi hl
 refine qqa hb (by rw [List.length_map]; exact hi) he (by rw [List.length_map]; exact hl) hv hvB fun s' B' w' b' f n=>kk s' B' w' (fun Z' hZ=>qeg (pk':=insAt pk i (ks,key)) hp (by rw [show slsP (insAt pk i (ks,key))=insAt (slsP pk) i ks from qlG _ _ _ _]; exact b') (qlG _ _ _ _) f hBZ hZ fun p hp=>?_) f n
 rcases qd4 hp with rfl | h
 ·exact .inr hk
 ·exact .inl h
theorem BufK.del {i:Nat} {ii jj:Int} {K:Sl->World->Prop} (h:BufK Z w s l B) (hBZ:∀ b∈B,b∈Z) (hi:i<l.length) (he:ii=i) (hj:jj=((i+1:Nat):Int)) (hl:l.length<=100000)
  (kk:∀ s' w',(∀ Z',NewZ Z w Z'->BufK Z' w' s' (delAt l i) B)->Fr B w w'->K s' w') :
  call Tryz.prog 141 [.slice s.a s.len s.cap,.int .i64 ii,.int .i64 jj] [.one .slice] w K:=by
 obtain ⟨pk,hb,rfl,hp⟩:=h
 rw [List.length_map] at hi hl
 exact qpX hb (by rw [List.length_map]; exact hi) he hj (by rw [List.length_map]; exact hl) fun s' w' b' f=>kk s' w' (fun Z' hZ=>qeg (pk':=delAt pk i) hp (by rw [show slsP (delAt pk i)=delAt (slsP pk) i from qlj _ _ _]; exact b') (qlj _ _ _) f hBZ hZ fun p hp=>.inl (qdQ hp)) f
theorem BufK.set {i:Nat} {ii:Int} {ks:Sl} {key:Key} {K:World->Prop} (h:BufK Z w s l B) (hBZ:∀ b∈B,b∈Z) (hi:i<l.length) (he:ii=i) (hk:RdB Z w ks key)
  (kk:∀ w',(∀ Z',NewZ Z w Z'->BufK Z' w' s (l.set i key) B)->Fr B w w'->K w'):idx s ii 1 fun a=>st a [.slice ks.a ks.len ks.cap] w K:=by
 obtain ⟨pk,hb,rfl,hp⟩:=h
 rw [List.length_map] at hi
 refine Buf.idxAt hb he (by rw [List.length_map]; exact hi) fun b hB=>?_
 subst hB
 refine Buf.stAt (e:=elSl) (x:=ks) (fun _=>rfl) hb (by rw [List.length_map]; exact hi) rfl rfl fun w' b' f=>kk w' (fun Z' hZ=>qeg (pk':=pk.set i (ks,key)) hp (by rw [show slsP (pk.set i (ks,key))=(slsP pk).set i ks from List.map_set]; exact b') (List.map_set) f hBZ hZ fun p hp=>?_) f
 rcases List.mem_or_eq_of_mem_set hp with h | rfl
 ·exact .inl h
 ·exact .inr hk
theorem BufK.app1 {ks:Sl} {key:Key} {vb:Nat} {T':TypeId} {K:Sl->World->Prop} (h:BufK Z w s l B) (hBZ:∀ b∈B,b∈Z) (hl:l.length<=100000) (hv:w.heap[vb]?=some (.cells #[elSl ks] T' (0,0))) (hk:RdB Z w ks key)
  (kk:∀ s' B' w',(∀ Z',NewZ Z w Z'->BufK Z' w' s' (l++[key]) B')->Fr B w w'->(∀ b∈B',b∈B\/w.heap.size<=b)->K s' w') :
  Pt.run [Ty1.one Cell.slice] ((Builtin.append_ #[22,22] 22 #[.slice s.a s.len s.cap,.slice (some ⟨vb,0,none⟩) 1 1]).run Tryz.prog w) K:=by
 obtain ⟨pk,hb,rfl,hp⟩:=h
 rw [List.length_map] at hl
 refine appK hb (by rw [List.length_map]; exact hl) hv fun s' B' w' b' f n=>kk s' B' w' (fun Z' hZ=>qeg (pk':=pk++[(ks,key)]) hp (by rw [show slsP (pk++[(ks,key)])=slsP pk++[ks] by simp]; exact b') (by simp) f hBZ hZ fun p hp=>?_) f n
 rcases List.mem_append.1 hp with h | h
 ·exact .inl h
 ·rw [List.mem_singleton.1 h]; exact .inr hk
theorem BufK.appAll {S:List Nat} {src:Sl} {ps:Kps} {K:Sl->World->Prop} (h:BufK Z w s l B) (hBZ:∀ b∈B,b∈Z) (hl:l.length+ps.length<=100000) (hs:Rds encSl 1 S w src (slsP ps)) (hps:∀ p∈ps,RdB Z w p.1 p.2)
  (kk:∀ s' B' w',(∀ Z',NewZ Z w Z'->BufK Z' w' s' (l++keyP ps) B')->Fr B w w'->(∀ b∈B',b∈B\/w.heap.size<=b)->K s' w') :
  Pt.run [Ty1.one Cell.slice] ((Builtin.append_ #[22,22] 22 #[.slice s.a s.len s.cap,.slice src.a src.len src.cap]).run Tryz.prog w) K:=by
 obtain ⟨pk,hb,rfl,hp⟩:=h
 rw [List.length_map] at hl
 obtain ⟨inf,hi1,hz,hsz,hby⟩:=qjt
 refine Buf.appSrc (ys:=slsP ps) (e:=23) hb qb0 (by kernel_rfl) hi1 hz hsz rfl (qdc (e':=23) hs qb0 qqQ (by kernel_rfl)) hs.1 (by rw [hby,List.length_map,hs.1,List.length_map]; omega) (by rw [List.length_map,hs.1,List.length_map]; omega) fun s' B' w' b' f n _=>kk s' B' w' (fun Z' hZ=>qeg (pk':=pk++ps) hp (by rw [show slsP (pk++ps)=slsP pk++slsP ps by simp]; exact b') (by simp) f hBZ hZ fun p hp=>?_) f n
 rcases List.mem_append.1 hp with h | h
 ·exact .inl h
 ·exact .inr (hps p h)
theorem qtZ {S:List Nat} {src:Sl} {l ys:List Int} {K:Sl->World->Prop} (h:Buf encU 1 w s l B) (hl:l.length+ys.length<=100000) (hs:Rds encU 1 S w src ys)
  (kk:∀ s' B' w',Buf encU 1 w' s' (l++ys) B'->Fr B w w'->(∀ b∈B',b∈B\/w.heap.size<=b)->K s' w') :
  Pt.run [Ty1.one Cell.slice] ((Builtin.append_ #[92,92] 92 #[.slice s.a s.len s.cap,.slice src.a src.len src.cap]).run Tryz.prog w) K:=by
 obtain ⟨inf,hi1,hz,hsz,hby⟩:=qdq
 exact Buf.appSrc (ys:=ys) (e:=37) h qaT (by kernel_rfl) hi1 hz hsz rfl (qdc (e':=37) hs qaT (fun x u hu=>by rw [List.mem_singleton.1 hu]; rfl) (by kernel_rfl)) hs.1 (by rw [hby,hs.1]; omega) (by rw [hs.1]; omega) fun s' B' w' b' f n _=>kk s' B' w' b' f n
theorem quA {l:List Int} {i:Nat} {ii x:Int} {K:World->Prop} (h:Buf encU 1 w s l B) (hi:i<l.length) (he:ii=i) (kk:∀ w',Buf encU 1 w' s (l.set i x) B->Fr B w w'->K w'):idx s ii 1 fun a=>st a [.int .u32 x] w K:=by
 refine Buf.idxAt h he hi fun b hB=>?_
 subst hB
 exact Buf.stAt (e:=elU) (x:=x) (fun _=>rfl) h hi rfl rfl kk
end
section
variable {Z:List Nat} {w:World} {x:NdC} {n:NodeM} {B:List Nat}
theorem NodeB.keysL (h:NodeB Z w x n B):∃ Bk,BufK Z w x.2.1 n.keys Bk/\(∀ b∈Bk,b∈B)/\∀ s' l' Bk' w',Fr Bk w w'->(∀ b∈Bk,b∈Z)->(∀ b∈Bk',b∈Bk\/w.heap.size<=b)->(∀ a∈l',IsB a)->
  ∃ B',(∀ b∈B',b∈B\/w.heap.size<=b)/\∀ Z',NewZ Z w Z'->BufK Z' w' s' l' Bk'->NodeB Z' w' (x.1,s',x.2.2) { n with keys:=l' } B':=by
 obtain ⟨h0,hNB,Bk,Bv,Bi,rfl,hnd,hk,hv,hi⟩:=h
 obtain ⟨n1,n2,n3⟩:=List.nodup_append.1 hnd
 refine ⟨Bk,hk,fun b hb=>by simp [hb],fun s' l' Bk' w' f hz nk hl=>⟨Bk'++(Bv++Bi),fun b hb=>?_,fun Z' hZ hk'=>⟨h0,⟨hl,hNB.2⟩,Bk',Bv,Bi,rfl,?_,hk',hv.frame f (fun b hb hm=>n3 b hm b (by simp [hb]) rfl) (fun b hb=>.inl (hz b hb)) hZ,hi.frame f fun b hb hm=>n3 b hm b (by simp [hb]) rfl⟩⟩⟩
 ·rcases List.mem_append.1 hb with hb | hb
  ·exact (nk b hb).imp (fun h=>by simp [h]) id
  ·exact .inl (List.mem_append_right _ hb)
 ·have hnk:Bk'.Nodup:=by obtain ⟨_,hb,_⟩:=hk'; exact qb2 hb
  refine List.nodup_append.2 ⟨hnk,n2,fun a ha b hb e=>?_⟩
  subst e
  rcases nk a ha with h1 | h1
  ·exact n3 a h1 a hb rfl
  ·rcases List.mem_append.1 hb with hb | hb
   ·have:=hv.lt a hb; omega
   ·have:=hi.lt a hb; omega
theorem NodeB.valsL (h:NodeB Z w x n B):∃ Bv,BufK Z w x.2.2.1 n.vals Bv/\(∀ b∈Bv,b∈B)/\∀ s' l' Bv' w',Fr Bv w w'->(∀ b∈Bv,b∈Z)->(∀ b∈Bv',b∈Bv\/w.heap.size<=b)->(∀ a∈l',IsB a)->
  ∃ B',(∀ b∈B',b∈B\/w.heap.size<=b)/\∀ Z',NewZ Z w Z'->BufK Z' w' s' l' Bv'->NodeB Z' w' (x.1,x.2.1,s',x.2.2.2) { n with vals:=l' } B':=by
 obtain ⟨h0,hNB,Bk,Bv,Bi,rfl,hnd,hk,hv,hi⟩:=h
 obtain ⟨n1,n2,n3⟩:=List.nodup_append.1 hnd
 obtain ⟨m1,m2,m3⟩:=List.nodup_append.1 n2
 refine ⟨Bv,hv,fun b hb=>by simp [hb],fun s' l' Bv' w' f hz nv hl=>⟨Bk++(Bv'++Bi),fun b hb=>?_,fun Z' hZ hv'=>⟨h0,⟨hNB.1,hl,hNB.2.2⟩,Bk,Bv',Bi,rfl,?_,hk.frame f (fun b hb hm=>n3 b hb b (by simp [hm]) rfl) (fun b hb=>.inl (hz b hb)) hZ,hv',hi.frame f fun b hb hm=>m3 b hm b hb rfl⟩⟩⟩
 ·simp only [List.mem_append] at hb ⊢
  rcases hb with hb | hb | hb
  ·exact .inl (.inl hb)
  ·exact (nv b hb).imp (fun h=>.inr (.inl h)) id
  ·exact .inl (.inr (.inr hb))
 ·have hnv:Bv'.Nodup:=by obtain ⟨_,hb,_⟩:=hv'; exact qb2 hb
  refine List.nodup_append.2 ⟨n1,List.nodup_append.2 ⟨hnv,m2,fun a ha b hb e=>?_⟩,fun a ha b hb e=>?_⟩
  ·subst e
   rcases nv a ha with h1 | h1
   ·exact m3 a h1 a hb rfl
   ·have:=hi.lt a hb; omega
  ·subst e
   rcases List.mem_append.1 hb with hb | hb
   ·rcases nv a hb with h1 | h1
    ·exact n3 a ha a (by simp [h1]) rfl
    ·have:=hk.lt a ha; omega
   ·exact n3 a ha a (by simp [hb]) rfl
theorem NodeB.kidsL (h:NodeB Z w x n B):∃ Bi,Buf encU 1 w x.2.2.2 n.kids Bi/\(∀ b∈Bi,b∈B)/\∀ s' l' Bi' w',Fr Bi w w'->(∀ b∈Bi,b∈Z)->(∀ b∈Bi',b∈Bi\/w.heap.size<=b)->(∀ a∈l',U32 a)->
  ∃ B',(∀ b∈B',b∈B\/w.heap.size<=b)/\∀ Z',NewZ Z w Z'->Buf encU 1 w' s' l' Bi'->NodeB Z' w' (x.1,x.2.1,x.2.2.1,s') { n with kids:=l' } B':=by
 obtain ⟨h0,hNB,Bk,Bv,Bi,rfl,hnd,hk,hv,hi⟩:=h
 obtain ⟨n1,n2,n3⟩:=List.nodup_append.1 hnd
 obtain ⟨m1,m2,m3⟩:=List.nodup_append.1 n2
 refine ⟨Bi,hi,fun b hb=>by simp [hb],fun s' l' Bi' w' f hz ni hl=>⟨Bk++(Bv++Bi'),fun b hb=>?_,fun Z' hZ hi'=>⟨h0,⟨hNB.1,hNB.2.1,hl⟩,Bk,Bv,Bi',rfl,?_,hk.frame f (fun b hb hm=>n3 b hb b (by simp [hm]) rfl) (fun b hb=>.inl (hz b hb)) hZ,hv.frame f (fun b hb hm=>m3 b hb b hm rfl) (fun b hb=>.inl (hz b hb)) hZ,hi'⟩⟩⟩
 ·simp only [List.mem_append] at hb ⊢
  rcases hb with hb | hb | hb
  ·exact .inl (.inl hb)
  ·exact .inl (.inr (.inl hb))
  ·exact (ni b hb).imp (fun h=>.inr (.inr h)) id
 ·refine List.nodup_append.2 ⟨n1,List.nodup_append.2 ⟨m1,qb2 hi',fun a ha b hb e=>?_⟩,fun a ha b hb e=>?_⟩
  ·subst e
   rcases ni a hb with h1 | h1
   ·exact m3 a ha a h1 rfl
   ·have:=hv.lt a ha; omega
  ·subst e
   rcases List.mem_append.1 hb with hb | hb
   ·exact n3 a ha a (by simp [hb]) rfl
   ·rcases ni a hb with h1 | h1
    ·exact n3 a ha a (by simp [h1]) rfl
    ·have:=hk.lt a ha; omega
end
structure Ed (dbk pb:Nat) (FD:List Nat) (D:DiskM) (j:Nat) (S0 N0:List Nat) (w0 wa:World) (T Y F:List Nat) (M:PgM) (x:NdC) (n:NodeM) (B:List Nat):Prop where
 sg:Sg S0 w0 wa F T
 tw:TW dbk pb FD D j wa (T++(B++Y)) F M
 node:NodeB (Zo FD (T++(B++Y)) F) wa x n B
 sep:∀ b∈T,b∉B
 bnew:∀ b∈B,b∈N0\/w0.heap.size<=b
 nsub:∀ b∈N0,b∈S0
 ysep:∀ b∈B,b∉Y
section
variable {dbk pb j:Nat} {FD S0 N0 Y F F' T B B':List Nat} {D:DiskM} {w0 wa w w':World} {M M':PgM} {L:List (Nat×Obj)} {x x':NdC} {n n':NodeM}
theorem Ed.now (e:Ed dbk pb FD D j S0 N0 w0 wa T Y F M x n B) (h:Own T wa w L):Ed dbk pb FD D j S0 N0 w0 w (bks L) Y F M x n B where
 sg:=⟨e.sg.fr h,e.sg.new,e.sg.bks h⟩
 tw:=e.tw.now h
 node:=e.node.frame h.fr (fun b hb hm=>e.sep b hm hb) (fun b hb=>.inl (by simp [hb])) (qj5 h)
 sep:=fun b hb hm=>by
  obtain ⟨q,hq,rfl⟩:=List.mem_map.1 hb
  rcases h.own q hq with h1 | h1
  ·exact e.sep _ h1 hm
  ·have:=e.node.lt _ hm; omega
 bnew:=e.bnew
 nsub:=e.nsub
 ysep:=e.ysep
theorem Ed.rd (e:Ed dbk pb FD D j S0 N0 w0 wa T Y F M x n B):∀ b∈B,b∈Zo FD (T++(B++Y)) F:=fun b hb=>by simp [hb]
theorem Ed.edit {Bk:List Nat} (e:Ed dbk pb FD D j S0 N0 w0 w (bks L) Y F M x n B) (h:Own T wa w L) (hk:∀ b∈Bk,b∈B) (f:Fr Bk w w') (hn:NodeB (Zo FD (bks L++(B'++Y)) F) w' x' n' B') (nB:∀ b∈B',b∈B\/w.heap.size<=b):Ed dbk pb FD D j S0 N0 w0 w' (bks L) Y F M x' n' B'/\Own (bks L) w' w' L:=by
 refine ⟨⟨⟨e.sg.tot.trans' f fun b hb=>(e.bnew b (hk b hb)).imp (e.nsub b) id,e.sg.new,e.sg.own⟩,e.tw.frameY (f.mono fun b hb _=>by simp [hk b hb]) (fun b hb=>?_) (fun b hb=>?_),hn,fun b hb hm=>?_,fun b hb=>(nB b hb).elim (e.bnew b) fun h1=>.inr (Nat.le_trans e.sg.tot.size h1),e.nsub,fun b hb hy=>?_⟩,qaH h f fun b hb hm=>e.sep b hb (hk b hm)⟩
 ·rcases List.mem_append.1 hb with hb | hb
  ·exact Nat.lt_of_lt_of_le (e.tw.ylt b (by simp [hb])) f.size
  ·rcases List.mem_append.1 hb with hb | hb
   ·exact hn.lt b hb
   ·exact Nat.lt_of_lt_of_le (e.tw.ylt b (by simp [hb])) f.size
 ·rcases List.mem_append.1 hb with hb | hb
  ·exact .inl (by simp [hb])
  ·rcases List.mem_append.1 hb with hb | hb
   ·exact (nB b hb).imp (fun h=>by simp [h]) id
   ·exact .inl (by simp [hb])
 ·rcases nB b hm with h1 | h1
  ·exact e.sep b hb h1
  ·have:=e.tw.ylt b (by simp [hb]); omega
 ·rcases nB b hb with h1 | h1
  ·exact e.ysep b h1 hy
  ·have:=e.tw.ylt b (by simp [hy]); omega
theorem Ed.newZ (e:Ed dbk pb FD D j S0 N0 w0 w T Y F M x n B) (nB:∀ b∈B',b∈B\/w.heap.size<=b):NewZ (Zo FD (T++(B++Y)) F) w (Zo FD (T++(B'++Y)) F):=fun b hb=>by
 simp only [Zo,List.mem_append,List.mem_cons] at hb ⊢
 rcases hb with (hb | hb | hb | hb | hb) | hb
 ·simp [hb]
 ·simp [hb]
 ·simp [hb]
 ·exact (nB b hb).imp (fun h=>by simp [h]) id
 ·simp [hb]
 ·simp [hb]
theorem Ed.next (e:Ed dbk pb FD D j S0 N0 w0 w (bks L) Y F M x n B) (h:Own T wa w L) (hT:TW dbk pb FD D j w' (bks L++(B++Y)) F' M') (f:Fr F w w') (nw:∀ b∈F',b∈F\/w.heap.size<=b):Ed dbk pb FD D j S0 N0 w0 w' (bks L) Y F' M' x n B/\Own (bks L) w' w' L:=by
 have hl:∀ b∈bks L,b∉F:=fun b hb=>e.tw.yf b (by simp [hb])
 refine ⟨⟨⟨e.sg.tot.trans' f e.sg.new,fun b hb=>(nw b hb).elim (e.sg.new b) fun h1=>.inr (Nat.le_trans e.sg.tot.size h1),e.sg.own⟩,hT,e.node.frame f (fun b hb=>e.tw.yf b (by simp [hb])) (fun b hb=>.inl (zoF hb)) (TW.znew nw),e.sep,e.bnew,e.nsub,e.ysep⟩,qaH h f hl⟩
theorem Ed.next0 (e:Ed dbk pb FD D j S0 N0 w0 w (bks L) Y F M x n B) (h:Own T wa w L) (f:Fr [] w w'):Ed dbk pb FD D j S0 N0 w0 w' (bks L) Y F M x n B/\Own (bks L) w' w' L:=
 e.next h (e.tw.frame0 f) (f.mono fun _ h=>nomatch h) fun b hb=>.inl hb
theorem Ed.nodeR (e:Ed dbk pb FD D j S0 N0 w0 w T Y F M x n B):NodeR (Zo FD (T++Y) F) w x n:=
 e.node.rd (fun b hb hm=>by
  simp only [Zo,List.mem_append,List.mem_cons] at hm
  have hs:=e.tw.sep b (by simp [hb])
  rcases hm with (hm | hm | hm | hm) | hm
  ·exact hs.1 hm
  ·exact hs.2 hm
  ·exact e.sep b hm hb
  ·exact e.ysep b hb hm
  ·exact e.tw.yf b (by simp [hb]) hm) fun b hb=>.inl (by
  simp only [Zo,List.mem_append,List.mem_cons] at hb ⊢
  rcases hb with (hb | hb | hb | hb) | hb <;> simp [hb])
theorem Ed.tw' (e:Ed dbk pb FD D j S0 N0 w0 w T Y F M x n B):TW dbk pb FD D j w (T++Y) F M:=e.tw.weakY fun b hb=>(List.mem_append.1 hb).elim (fun h=>by simp [h]) fun h=>by simp [h]
end
end
section
section
variable {dbk pb j:Nat} {FD S0 N0 Y F F' F0 T T1 B B' Bk Bk':List Nat} {D:DiskM} {w0 wa w w':World} {M M':PgM} {L:List (Nat×Obj)} {x x':NdC} {n n':NodeM} {i q:Nat} {ii jj:Int} {ks:Sl} {key:Key} {vb:Nat} {T':TypeId}
structure Keep (FD Y F B B':List Nat) (T:List Nat) (w w':World):Prop where
 rdb:∀ s l,RdB (Zo FD (T++(B++Y)) F) w s l->RdB (Zo FD (T++(B'++Y)) F) w' s l
 node:∀ x n,NodeR (Zo FD (T++(B++Y)) F) w x n->NodeR (Zo FD (T++(B'++Y)) F) w' x n
theorem Ed.keep (e:Ed dbk pb FD D j S0 N0 w0 w T Y F M x n B) (hk:∀ b∈Bk,b∈B) (f:Fr Bk w w') (nB:∀ b∈B',b∈B\/w.heap.size<=b):Keep FD Y F B B' T w w':=⟨fun s l h=>h.frame (f.mono fun b hb _=>by simp [hk b hb]) (e.newZ nB),fun x n h=>h.frame (f.mono fun b hb _=>by simp [hk b hb]) (e.newZ nB)⟩
theorem Ed.rdb {s:Sl} {l:Key} (e:Ed dbk pb FD D j F0 N0 w0 w T Y F M x n B) (hx:RdB (Zo FD Y F0) w0 s l):RdB (Zo FD (T++(B++Y)) F) w s l:=
 hx.frame (e.sg.tot.mono fun b hb _=>zoF hb) fun b hb=>by
  rcases List.mem_append.1 hb with hb | hb
  ·rcases List.mem_append.1 hb with hb | hb
   ·exact .inl (by simp [hb])
   ·rcases List.mem_cons.1 hb with hb | hb
    ·exact .inl (by simp [hb])
    ·rcases List.mem_append.1 hb with hb | hb
     ·exact (e.sg.own b hb).imp (fun h=>zoF h) id
     ·rcases List.mem_append.1 hb with hb | hb
      ·exact (e.bnew b hb).imp (fun h=>zoF (e.nsub b h)) id
      ·exact .inl (by simp [hb])
  ·exact (e.sg.new b hb).imp (fun h=>zoF h) id
theorem Ed.sub (e:Ed dbk pb FD D j S0 N0 w0 w T Y F M x n B) (hs:∀ b∈T1,b∈T):Ed dbk pb FD D j S0 N0 w0 w T1 Y F M x n B where
 sg:=⟨e.sg.tot,e.sg.new,fun b hb=>e.sg.own b (hs b hb)⟩
 tw:=e.tw.weakY fun b hb=>(List.mem_append.1 hb).elim (fun h=>List.mem_append_left _ (hs b h)) fun h=>List.mem_append_right _ h
 node:=e.node.weak fun b hb=>.inl (by
  simp only [Zo,List.mem_append,List.mem_cons] at hb ⊢
  rcases hb with (hb | hb | hb | hb) | hb
  ·simp [hb]
  ·simp [hb]
  ·simp [hs b hb]
  ·simp [hb]
  ·simp [hb])
 sep:=fun b hb=>e.sep b (hs b hb)
 bnew:=e.bnew
 nsub:=e.nsub
 ysep:=e.ysep
theorem qk3 {L:List (Nat×Obj)} {q vb:Nat} {o:Obj} (h:L[q]?=some (vb,o)):vb∈bks L:=List.mem_map.2 ⟨_,List.mem_of_getElem? h,rfl⟩
theorem Ed.insK {K:Sl->World->Prop} (e:Ed dbk pb FD D j S0 N0 w0 w (bks L) Y F M x n B) (h:Own T wa w L) (hi:i<=n.keys.length) (he:ii=i) (hl:n.keys.length<=100000) (q:Nat) (hv:L[q]?=some (vb,.cells #[elSl ks] T' (0,0))) (hk:RdB (Zo FD (bks L++(B++Y)) F) w ks key) (hB:IsB key)
  (kk:∀ s' B' w',Ed dbk pb FD D j S0 N0 w0 w' (bks L) Y F M (x.1,s',x.2.2) { n with keys:=insAt n.keys i key } B'->Own (bks L) w' w' L->Keep FD Y F B B' (bks L) w w'->K s' w') :
  call Tryz.prog 138 [.slice x.2.1.a x.2.1.len x.2.1.cap,.int .i64 ii,.slice (some ⟨vb,0,none⟩) 1 1] [.one .slice] w K:=by
 obtain ⟨Bk,hb,hkB,put⟩:=e.node.keysL
 refine hb.ins (fun b hb=>e.rd b (hkB b hb)) hi he hl (h.at hv) (fun hm=>e.sep vb (qk3 hv) (hkB vb hm)) hk fun s' Bk' w' hz f nk=>?_
 obtain ⟨B',nB,hN⟩:=put s' _ Bk' w' f (fun b hb=>e.rd b (hkB b hb)) nk fun a ha=>(qd4 ha).elim (fun h=>by rw [h]; exact hB) (e.node.2.1.1 a)
 obtain ⟨e',h'⟩:=e.edit h hkB f (hN _ (e.newZ nB) (hz _ (e.newZ nB))) nB
 exact kk s' B' w' e' h' (e.keep hkB f nB)
theorem Ed.insV {K:Sl->World->Prop} (e:Ed dbk pb FD D j S0 N0 w0 w (bks L) Y F M x n B) (h:Own T wa w L) (hi:i<=n.vals.length) (he:ii=i) (hl:n.vals.length<=100000) (q:Nat) (hv:L[q]?=some (vb,.cells #[elSl ks] T' (0,0))) (hk:RdB (Zo FD (bks L++(B++Y)) F) w ks key) (hB:IsB key)
  (kk:∀ s' B' w',Ed dbk pb FD D j S0 N0 w0 w' (bks L) Y F M (x.1,x.2.1,s',x.2.2.2) { n with vals:=insAt n.vals i key } B'->Own (bks L) w' w' L->Keep FD Y F B B' (bks L) w w'->K s' w') :
  call Tryz.prog 138 [.slice x.2.2.1.a x.2.2.1.len x.2.2.1.cap,.int .i64 ii,.slice (some ⟨vb,0,none⟩) 1 1] [.one .slice] w K:=by
 obtain ⟨Bk,hb,hkB,put⟩:=e.node.valsL
 refine hb.ins (fun b hb=>e.rd b (hkB b hb)) hi he hl (h.at hv) (fun hm=>e.sep vb (qk3 hv) (hkB vb hm)) hk fun s' Bk' w' hz f nk=>?_
 obtain ⟨B',nB,hN⟩:=put s' _ Bk' w' f (fun b hb=>e.rd b (hkB b hb)) nk fun a ha=>(qd4 ha).elim (fun h=>by rw [h]; exact hB) (e.node.2.1.2.1 a)
 obtain ⟨e',h'⟩:=e.edit h hkB f (hN _ (e.newZ nB) (hz _ (e.newZ nB))) nB
 exact kk s' B' w' e' h' (e.keep hkB f nB)
theorem Ed.insI {yk:Int} {K:Sl->World->Prop} (e:Ed dbk pb FD D j S0 N0 w0 w (bks L) Y F M x n B) (h:Own T wa w L) (hi:i<=n.kids.length) (he:ii=i) (hl:n.kids.length<=100000) (q:Nat) (hv:L[q]?=some (vb,.cells #[.int .u32 yk] T' (0,0))) (hB:U32 yk)
  (kk:∀ s' B' w',Ed dbk pb FD D j S0 N0 w0 w' (bks L) Y F M (x.1,x.2.1,x.2.2.1,s') { n with kids:=insAt n.kids i yk } B'->Own (bks L) w' w' L->Keep FD Y F B B' (bks L) w w'->K s' w') :
  call Tryz.prog 140 [.slice x.2.2.2.a x.2.2.2.len x.2.2.2.cap,.int .i64 ii,.slice (some ⟨vb,0,none⟩) 1 1] [.one .slice] w K:=by
 obtain ⟨Bk,hb,hkB,put⟩:=e.node.kidsL
 refine qqs hb hi he hl (h.at hv) (fun hm=>e.sep vb (qk3 hv) (hkB vb hm)) fun s' Bk' w' hz f nk=>?_
 obtain ⟨B',nB,hN⟩:=put s' _ Bk' w' f (fun b hb=>e.rd b (hkB b hb)) nk fun a ha=>(qd4 ha).elim (fun h=>by rw [h]; exact hB) (e.node.2.1.2.2 a)
 obtain ⟨e',h'⟩:=e.edit h hkB f (hN _ (e.newZ nB) hz) nB
 exact kk s' B' w' e' h' (e.keep hkB f nB)
theorem Ed.delK {K:Sl->World->Prop} (e:Ed dbk pb FD D j S0 N0 w0 w (bks L) Y F M x n B) (h:Own T wa w L) (hi:i<n.keys.length) (he:ii=i) (hj:jj=((i+1:Nat):Int)) (hl:n.keys.length<=100000)
  (kk:∀ s' B' w',Ed dbk pb FD D j S0 N0 w0 w' (bks L) Y F M (x.1,s',x.2.2) { n with keys:=delAt n.keys i } B'->Own (bks L) w' w' L->Keep FD Y F B B' (bks L) w w'->K s' w') :
  call Tryz.prog 141 [.slice x.2.1.a x.2.1.len x.2.1.cap,.int .i64 ii,.int .i64 jj] [.one .slice] w K:=by
 obtain ⟨Bk,hb,hkB,put⟩:=e.node.keysL
 refine hb.del (fun b hb=>e.rd b (hkB b hb)) hi he hj hl fun s' w' hz f=>?_
 obtain ⟨B',nB,hN⟩:=put s' _ Bk w' f (fun b hb=>e.rd b (hkB b hb)) (fun b hb=>.inl hb) fun a ha=>e.node.2.1.1 a (qdQ ha)
 obtain ⟨e',h'⟩:=e.edit h hkB f (hN _ (e.newZ nB) (hz _ (e.newZ nB))) nB
 exact kk s' B' w' e' h' (e.keep hkB f nB)
theorem Ed.delV {K:Sl->World->Prop} (e:Ed dbk pb FD D j S0 N0 w0 w (bks L) Y F M x n B) (h:Own T wa w L) (hi:i<n.vals.length) (he:ii=i) (hj:jj=((i+1:Nat):Int)) (hl:n.vals.length<=100000)
  (kk:∀ s' B' w',Ed dbk pb FD D j S0 N0 w0 w' (bks L) Y F M (x.1,x.2.1,s',x.2.2.2) { n with vals:=delAt n.vals i } B'->Own (bks L) w' w' L->Keep FD Y F B B' (bks L) w w'->K s' w') :
  call Tryz.prog 141 [.slice x.2.2.1.a x.2.2.1.len x.2.2.1.cap,.int .i64 ii,.int .i64 jj] [.one .slice] w K:=by
 obtain ⟨Bk,hb,hkB,put⟩:=e.node.valsL
 refine hb.del (fun b hb=>e.rd b (hkB b hb)) hi he hj hl fun s' w' hz f=>?_
 obtain ⟨B',nB,hN⟩:=put s' _ Bk w' f (fun b hb=>e.rd b (hkB b hb)) (fun b hb=>.inl hb) fun a ha=>e.node.2.1.2.1 a (qdQ ha)
 obtain ⟨e',h'⟩:=e.edit h hkB f (hN _ (e.newZ nB) (hz _ (e.newZ nB))) nB
 exact kk s' B' w' e' h' (e.keep hkB f nB)
theorem Ed.delI {K:Sl->World->Prop} (e:Ed dbk pb FD D j S0 N0 w0 w (bks L) Y F M x n B) (h:Own T wa w L) (hi:i<n.kids.length) (he:ii=i) (hj:jj=((i+1:Nat):Int)) (hl:n.kids.length<=100000)
  (kk:∀ s' B' w',Ed dbk pb FD D j S0 N0 w0 w' (bks L) Y F M (x.1,x.2.1,x.2.2.1,s') { n with kids:=delAt n.kids i } B'->Own (bks L) w' w' L->Keep FD Y F B B' (bks L) w w'->K s' w') :
  call Tryz.prog 214 [.slice x.2.2.2.a x.2.2.2.len x.2.2.2.cap,.int .i64 ii,.int .i64 jj] [.one .slice] w K:=by
 obtain ⟨Bk,hb,hkB,put⟩:=e.node.kidsL
 refine qpm hb hi he hj hl fun s' w' hz f=>?_
 obtain ⟨B',nB,hN⟩:=put s' _ Bk w' f (fun b hb=>e.rd b (hkB b hb)) (fun b hb=>.inl hb) fun a ha=>e.node.2.1.2.2 a (qdQ ha)
 obtain ⟨e',h'⟩:=e.edit h hkB f (hN _ (e.newZ nB) hz) nB
 exact kk s' B' w' e' h' (e.keep hkB f nB)
theorem Ed.setK {K:World->Prop} (e:Ed dbk pb FD D j S0 N0 w0 w (bks L) Y F M x n B) (h:Own T wa w L) (hi:i<n.keys.length) (he:ii=i) (hk:RdB (Zo FD (bks L++(B++Y)) F) w ks key) (hB:IsB key)
  (kk:∀ B' w',Ed dbk pb FD D j S0 N0 w0 w' (bks L) Y F M (x.1,x.2.1,x.2.2) { n with keys:=n.keys.set i key } B'->Own (bks L) w' w' L->Keep FD Y F B B' (bks L) w w'->K w') :
  idx x.2.1 ii 1 fun a=>st a [.slice ks.a ks.len ks.cap] w K:=by
 obtain ⟨Bk,hb,hkB,put⟩:=e.node.keysL
 refine hb.set (fun b hb=>e.rd b (hkB b hb)) hi he hk fun w' hz f=>?_
 obtain ⟨B',nB,hN⟩:=put x.2.1 _ Bk w' f (fun b hb=>e.rd b (hkB b hb)) (fun b hb=>.inl hb) fun a ha=>(List.mem_or_eq_of_mem_set ha).elim (e.node.2.1.1 a) fun h=>by rw [h]; exact hB
 obtain ⟨e',h'⟩:=e.edit h hkB f (hN _ (e.newZ nB) (hz _ (e.newZ nB))) nB
 exact kk B' w' e' h' (e.keep hkB f nB)
theorem Ed.setV {K:World->Prop} (e:Ed dbk pb FD D j S0 N0 w0 w (bks L) Y F M x n B) (h:Own T wa w L) (hi:i<n.vals.length) (he:ii=i) (hk:RdB (Zo FD (bks L++(B++Y)) F) w ks key) (hB:IsB key)
  (kk:∀ B' w',Ed dbk pb FD D j S0 N0 w0 w' (bks L) Y F M (x.1,x.2.1,x.2.2.1,x.2.2.2) { n with vals:=n.vals.set i key } B'->Own (bks L) w' w' L->Keep FD Y F B B' (bks L) w w'->K w') :
  idx x.2.2.1 ii 1 fun a=>st a [.slice ks.a ks.len ks.cap] w K:=by
 obtain ⟨Bk,hb,hkB,put⟩:=e.node.valsL
 refine hb.set (fun b hb=>e.rd b (hkB b hb)) hi he hk fun w' hz f=>?_
 obtain ⟨B',nB,hN⟩:=put x.2.2.1 _ Bk w' f (fun b hb=>e.rd b (hkB b hb)) (fun b hb=>.inl hb) fun a ha=>(List.mem_or_eq_of_mem_set ha).elim (e.node.2.1.2.1 a) fun h=>by rw [h]; exact hB
 obtain ⟨e',h'⟩:=e.edit h hkB f (hN _ (e.newZ nB) (hz _ (e.newZ nB))) nB
 exact kk B' w' e' h' (e.keep hkB f nB)
theorem Ed.setI {yk:Int} {K:World->Prop} (e:Ed dbk pb FD D j S0 N0 w0 w (bks L) Y F M x n B) (h:Own T wa w L) (hi:i<n.kids.length) (he:ii=i) (hB:U32 yk)
  (kk:∀ B' w',Ed dbk pb FD D j S0 N0 w0 w' (bks L) Y F M (x.1,x.2.1,x.2.2.1,x.2.2.2) { n with kids:=n.kids.set i yk } B'->Own (bks L) w' w' L->Keep FD Y F B B' (bks L) w w'->K w') :
  idx x.2.2.2 ii 1 fun a=>st a [.int .u32 yk] w K:=by
 obtain ⟨Bk,hb,hkB,put⟩:=e.node.kidsL
 refine quA hb hi he fun w' hz f=>?_
 obtain ⟨B',nB,hN⟩:=put x.2.2.2 _ Bk w' f (fun b hb=>e.rd b (hkB b hb)) (fun b hb=>.inl hb) fun a ha=>(List.mem_or_eq_of_mem_set ha).elim (e.node.2.1.2.2 a) fun h=>by rw [h]; exact hB
 obtain ⟨e',h'⟩:=e.edit h hkB f (hN _ (e.newZ nB) hz) nB
 exact kk B' w' e' h' (e.keep hkB f nB)
theorem Ed.appK {K:Sl->World->Prop} (e:Ed dbk pb FD D j S0 N0 w0 w (bks L) Y F M x n B) (h:Own T wa w L) (hl:n.keys.length<=100000) (q:Nat) (hv:L[q]?=some (vb,.cells #[elSl ks] T' (0,0))) (hk:RdB (Zo FD (bks L++(B++Y)) F) w ks key) (hB:IsB key)
  (kk:∀ s' B' w',Ed dbk pb FD D j S0 N0 w0 w' (bks L) Y F M (x.1,s',x.2.2) { n with keys:=n.keys++[key] } B'->Own (bks L) w' w' L->Keep FD Y F B B' (bks L) w w'->K s' w') :
  Pt.run [Ty1.one Cell.slice] ((Builtin.append_ #[22,22] 22 #[.slice x.2.1.a x.2.1.len x.2.1.cap,.slice (some ⟨vb,0,none⟩) 1 1]).run Tryz.prog w) K:=by
 obtain ⟨Bk,hb,hkB,put⟩:=e.node.keysL
 refine hb.app1 (fun b hb=>e.rd b (hkB b hb)) hl (h.at hv) hk fun s' Bk' w' hz f nk=>?_
 obtain ⟨B',nB,hN⟩:=put s' _ Bk' w' f (fun b hb=>e.rd b (hkB b hb)) nk fun a ha=>(List.mem_append.1 ha).elim (e.node.2.1.1 a) fun h=>by rw [List.mem_singleton.1 h]; exact hB
 obtain ⟨e',h'⟩:=e.edit h hkB f (hN _ (e.newZ nB) (hz _ (e.newZ nB))) nB
 exact kk s' B' w' e' h' (e.keep hkB f nB)
theorem Ed.appV {K:Sl->World->Prop} (e:Ed dbk pb FD D j S0 N0 w0 w (bks L) Y F M x n B) (h:Own T wa w L) (hl:n.vals.length<=100000) (q:Nat) (hv:L[q]?=some (vb,.cells #[elSl ks] T' (0,0))) (hk:RdB (Zo FD (bks L++(B++Y)) F) w ks key) (hB:IsB key)
  (kk:∀ s' B' w',Ed dbk pb FD D j S0 N0 w0 w' (bks L) Y F M (x.1,x.2.1,s',x.2.2.2) { n with vals:=n.vals++[key] } B'->Own (bks L) w' w' L->Keep FD Y F B B' (bks L) w w'->K s' w') :
  Pt.run [Ty1.one Cell.slice] ((Builtin.append_ #[22,22] 22 #[.slice x.2.2.1.a x.2.2.1.len x.2.2.1.cap,.slice (some ⟨vb,0,none⟩) 1 1]).run Tryz.prog w) K:=by
 obtain ⟨Bk,hb,hkB,put⟩:=e.node.valsL
 refine hb.app1 (fun b hb=>e.rd b (hkB b hb)) hl (h.at hv) hk fun s' Bk' w' hz f nk=>?_
 obtain ⟨B',nB,hN⟩:=put s' _ Bk' w' f (fun b hb=>e.rd b (hkB b hb)) nk fun a ha=>(List.mem_append.1 ha).elim (e.node.2.1.2.1 a) fun h=>by rw [List.mem_singleton.1 h]; exact hB
 obtain ⟨e',h'⟩:=e.edit h hkB f (hN _ (e.newZ nB) (hz _ (e.newZ nB))) nB
 exact kk s' B' w' e' h' (e.keep hkB f nB)
theorem Ed.appI {yk:Int} {K:Sl->World->Prop} (e:Ed dbk pb FD D j S0 N0 w0 w (bks L) Y F M x n B) (h:Own T wa w L) (hl:n.kids.length<=100000) (q:Nat) (hv:L[q]?=some (vb,.cells #[.int .u32 yk] T' (0,0))) (hB:U32 yk)
  (kk:∀ s' B' w',Ed dbk pb FD D j S0 N0 w0 w' (bks L) Y F M (x.1,x.2.1,x.2.2.1,s') { n with kids:=n.kids++[yk] } B'->Own (bks L) w' w' L->Keep FD Y F B B' (bks L) w w'->K s' w') :
  Pt.run [Ty1.one Cell.slice] ((Builtin.append_ #[92,92] 92 #[.slice x.2.2.2.a x.2.2.2.len x.2.2.2.cap,.slice (some ⟨vb,0,none⟩) 1 1]).run Tryz.prog w) K:=by
 obtain ⟨Bk,hb,hkB,put⟩:=e.node.kidsL
 refine qo0 hb hl (h.at hv) fun s' Bk' w' hz f nk=>?_
 obtain ⟨B',nB,hN⟩:=put s' _ Bk' w' f (fun b hb=>e.rd b (hkB b hb)) nk fun a ha=>(List.mem_append.1 ha).elim (e.node.2.1.2.2 a) fun h=>by rw [List.mem_singleton.1 h]; exact hB
 obtain ⟨e',h'⟩:=e.edit h hkB f (hN _ (e.newZ nB) hz) nB
 exact kk s' B' w' e' h' (e.keep hkB f nB)
theorem Ed.appAllK {src:Sl} {ps:Kps} {S:List Nat} {K:Sl->World->Prop} (e:Ed dbk pb FD D j S0 N0 w0 w (bks L) Y F M x n B) (h:Own T wa w L) (hl:n.keys.length+ps.length<=100000) (hs:Rds encSl 1 S w src (slsP ps)) (hps:∀ p∈ps,RdB (Zo FD (bks L++(B++Y)) F) w p.1 p.2) (hB:∀ a∈keyP ps,IsB a)
  (kk:∀ s' B' w',Ed dbk pb FD D j S0 N0 w0 w' (bks L) Y F M (x.1,s',x.2.2) { n with keys:=n.keys++keyP ps } B'->Own (bks L) w' w' L->Keep FD Y F B B' (bks L) w w'->K s' w') :
  Pt.run [Ty1.one Cell.slice] ((Builtin.append_ #[22,22] 22 #[.slice x.2.1.a x.2.1.len x.2.1.cap,.slice src.a src.len src.cap]).run Tryz.prog w) K:=by
 obtain ⟨Bk,hb,hkB,put⟩:=e.node.keysL
 refine hb.appAll (fun b hb=>e.rd b (hkB b hb)) hl hs hps fun s' Bk' w' hz f nk=>?_
 obtain ⟨B',nB,hN⟩:=put s' _ Bk' w' f (fun b hb=>e.rd b (hkB b hb)) nk fun a ha=>(List.mem_append.1 ha).elim (e.node.2.1.1 a) (hB a)
 obtain ⟨e',h'⟩:=e.edit h hkB f (hN _ (e.newZ nB) (hz _ (e.newZ nB))) nB
 exact kk s' B' w' e' h' (e.keep hkB f nB)
theorem Ed.appAllV {src:Sl} {ps:Kps} {S:List Nat} {K:Sl->World->Prop} (e:Ed dbk pb FD D j S0 N0 w0 w (bks L) Y F M x n B) (h:Own T wa w L) (hl:n.vals.length+ps.length<=100000) (hs:Rds encSl 1 S w src (slsP ps)) (hps:∀ p∈ps,RdB (Zo FD (bks L++(B++Y)) F) w p.1 p.2) (hB:∀ a∈keyP ps,IsB a)
  (kk:∀ s' B' w',Ed dbk pb FD D j S0 N0 w0 w' (bks L) Y F M (x.1,x.2.1,s',x.2.2.2) { n with vals:=n.vals++keyP ps } B'->Own (bks L) w' w' L->Keep FD Y F B B' (bks L) w w'->K s' w') :
  Pt.run [Ty1.one Cell.slice] ((Builtin.append_ #[22,22] 22 #[.slice x.2.2.1.a x.2.2.1.len x.2.2.1.cap,.slice src.a src.len src.cap]).run Tryz.prog w) K:=by
 obtain ⟨Bk,hb,hkB,put⟩:=e.node.valsL
 refine hb.appAll (fun b hb=>e.rd b (hkB b hb)) hl hs hps fun s' Bk' w' hz f nk=>?_
 obtain ⟨B',nB,hN⟩:=put s' _ Bk' w' f (fun b hb=>e.rd b (hkB b hb)) nk fun a ha=>(List.mem_append.1 ha).elim (e.node.2.1.2.1 a) (hB a)
 obtain ⟨e',h'⟩:=e.edit h hkB f (hN _ (e.newZ nB) (hz _ (e.newZ nB))) nB
 exact kk s' B' w' e' h' (e.keep hkB f nB)
theorem Ed.appAllI {src:Sl} {ys:List Int} {S:List Nat} {K:Sl->World->Prop} (e:Ed dbk pb FD D j S0 N0 w0 w (bks L) Y F M x n B) (h:Own T wa w L) (hl:n.kids.length+ys.length<=100000) (hs:Rds encU 1 S w src ys) (hB:∀ y∈ys,U32 y)
  (kk:∀ s' B' w',Ed dbk pb FD D j S0 N0 w0 w' (bks L) Y F M (x.1,x.2.1,x.2.2.1,s') { n with kids:=n.kids++ys } B'->Own (bks L) w' w' L->Keep FD Y F B B' (bks L) w w'->K s' w') :
  Pt.run [Ty1.one Cell.slice] ((Builtin.append_ #[92,92] 92 #[.slice x.2.2.2.a x.2.2.2.len x.2.2.2.cap,.slice src.a src.len src.cap]).run Tryz.prog w) K:=by
 obtain ⟨Bk,hb,hkB,put⟩:=e.node.kidsL
 refine qtZ hb hl hs fun s' Bk' w' hz f nk=>?_
 obtain ⟨B',nB,hN⟩:=put s' _ Bk' w' f (fun b hb=>e.rd b (hkB b hb)) nk fun a ha=>(List.mem_append.1 ha).elim (e.node.2.1.2.2 a) (hB a)
 obtain ⟨e',h'⟩:=e.edit h hkB f (hN _ (e.newZ nB) hz) nB
 exact kk s' B' w' e' h' (e.keep hkB f nB)
end
end
section
theorem qc8 {D:DiskM} {M:PgM} {k v:Nat} {p:Int} {n:NodeM} (h:loadN D M k v p=(n,0)):rightV n k v:=by
 unfold loadN at h
 split at h
 ·rename_i hne
  exact absurd (congrArg (·.2) h) hne
 ·have:=qnS (kind:=(pagerReadM D M p).1) (b:=(pagerReadM D M p).2.1) (k:=k) (v:=v) (by rw [h])
  rw [h] at this
  exact this
theorem qc4 {n:NodeM} {k v:Nat} (h:rightV n k v):n.keys.length<=498/\n.vals.length<=498/\n.kids.length<=498/\(n.leaf=true->n.vals.length=n.keys.length/\n.keys.length<=(capsV k v).1)/\(n.leaf=false->n.keys.length+1=n.kids.length/\n.kids.length<=(capsV k v).2/\2<=n.kids.length):=by
 have hc:=qer (k:=k) (v:=v)
 obtain ⟨_,_,_,h4⟩:=h
 cases hl:n.leaf with
 | true=>
  rw [hl,if_pos rfl] at h4
  obtain ⟨h5,h6,h7,h8⟩:=h4
  rw [h5]
  exact ⟨by omega,by omega,by simp,fun _=>⟨h8,h7⟩,fun h=>nomatch h⟩
 | false=>
  rw [hl,if_neg (by decide)] at h4
  obtain ⟨_,h5,h6,h7,h8⟩:=h4
  rw [h5]
  exact ⟨by omega,by simp,by omega,fun h=>(nomatch h),fun _=>⟨h8,h7,h6⟩⟩
section
variable {D:DiskM} {M M1:PgM} {k v f:Nat} {key val:Key} {p e0 e1:Int} {n:NodeM} {g:Grown}
theorem qs5 (h:loadN D M k v p=(n,e0)) (he:e0≠0):putN D k v key val (f+1) M p=((zeroG,e0),M):=by
 unfold putN; rw [h,if_pos he]
theorem qsF (h:loadN D M k v p=(n,0)) (hl:n.leaf=true) (hk:n.keys[placeV n.keys key]?=some key):putN D k v key val (f+1) M p=splitN k v M p { n with vals:=n.vals.set (placeV n.keys key) val } false:=by
 unfold putN; rw [h,if_neg (fun h=>h rfl),if_pos hl,if_pos hk]
theorem qrH (h:loadN D M k v p=(n,0)) (hl:n.leaf=true) (hk:¬ n.keys[placeV n.keys key]?=some key):putN D k v key val (f+1) M p=splitN k v M p { n with keys:=insAt n.keys (placeV n.keys key) key,vals:=insAt n.vals (placeV n.keys key) val } true:=by
 unfold putN; rw [h,if_neg (fun h=>h rfl),if_pos hl,if_neg hk]
theorem qlh (h:loadN D M k v p=(n,0)) (hl:¬ n.leaf=true) (hp:putN D k v key val f M (n.kids.getD (kidV n.keys key) 0)=((g,e1),M1)) (he:e1≠0):putN D k v key val (f+1) M p=((zeroG,e1),M1):=by
 unfold putN; rw [h,if_neg (fun h=>h rfl),if_neg hl]; dsimp only; rw [hp,if_pos he]
theorem qq8 (h:loadN D M k v p=(n,0)) (hl:¬ n.leaf=true) (hp:putN D k v key val f M (n.kids.getD (kidV n.keys key) 0)=((g,0),M1)) (hs:g.page=n.kids.getD (kidV n.keys key) 0/\g.other=0):putN D k v key val (f+1) M p=((⟨p,g.fresh,[],0⟩,0),M1):=by
 unfold putN; rw [h,if_neg (fun h=>h rfl),if_neg hl]; dsimp only; rw [hp,if_neg (fun h=>h rfl),if_pos hs]
theorem qtW (h:loadN D M k v p=(n,0)) (hl:¬ n.leaf=true) (hp:putN D k v key val f M (n.kids.getD (kidV n.keys key) 0)=((g,0),M1)) (hs:¬ (g.page=n.kids.getD (kidV n.keys key) 0/\g.other=0)):putN D k v key val (f+1) M p=splitN k v M1 p (grownN n (kidV n.keys key) g) g.fresh:=by
 unfold putN; rw [h,if_neg (fun h=>h rfl),if_neg hl]; dsimp only; rw [hp,if_neg (fun h=>h rfl),if_neg hs]
end
theorem qsB {n:NodeM} {k v:Nat} (hl:n.leaf=true) (hv:n.vals.length=n.keys.length):(sizeN n k v).1>(sizeN n k v).2->MidOk n ((sizeN n k v).1 / 2):=fun h=>by
 unfold MidOk
 have e:(sizeN n k v).1=n.keys.length:=by unfold sizeN; rw [if_pos hl]
 rw [if_pos hl,hv]
 rw [e] at h ⊢
 omega
theorem qqB {n:NodeM} {k v:Nat} (hl:¬ n.leaf=true) (hv:n.keys.length+1=n.kids.length) (h2:2<=n.kids.length):(sizeN n k v).1>(sizeN n k v).2->MidOk n ((sizeN n k v).1 / 2):=fun h=>by
 unfold MidOk
 have e:(sizeN n k v).1=n.kids.length:=by unfold sizeN; rw [if_neg hl]
 rw [if_neg hl]
 rw [e] at h ⊢
 omega
theorem qcI {α:Type} {l:List α} {i:Nat} {x:α} (h:i<=l.length):(insAt l i x).length=l.length+1:=by unfold insAt; simp; omega
theorem Rds.getU {S:List Nat} {w:World} {s:Sl} {l:List Int} {i:Int} {K:Addr->Int->Prop} (h:Rds encU 1 S w s l) (n:Nat) (hi:i=n) (hn:n<l.length) (kk:∀ a,(∀ S' w',Rds encU 1 S' w' s l->w'.cell? a=some (.int .u32 l[n]))->K a l[n]):idx s i 1 fun a=>ld (.int .u32) a w fun y=>K a y:=by
 subst hi
 have hx:l[n]?=some l[n]:=List.getElem?_eq_getElem hn
 obtain ⟨hl,b,o,ha,_,cs,T,fr,hb,hc⟩:=h.at n hx
 refine qbk ha ⟨by omega,by omega⟩ ?_
 rw [Int.toNat_natCast]
 have key:∀ S' w',Rds encU 1 S' w' s l->w'.cell? ⟨b,o+n*1,none⟩=some (.int .u32 l[n]):=fun S' w' h'=>by
  obtain ⟨_,b',o',ha',_,cs',T',fr',hb',hc'⟩:=h'.at n hx
  rw [ha] at ha'
  cases ha'
  rw [qai hb']
  have:=congrArg (·[0]?) hc'
  simpa [encU] using this
 exact qc6 (c:=.int .u32) l[n] (key S w h) (kk _ key)
section
variable {dbk pb j:Nat} {FD S0 N0 Y F F' F0 T B:List Nat} {D:DiskM} {w0 wa w w':World} {M M':PgM} {L:List (Nat×Obj)} {x:NdC} {n:NodeM} {k v:Nat} {t:Int}
theorem Ed.load {w7:World} (hN0:∀ b∈N0,b∈S0) (g:Sg S0 w0 wa F T) (h:Own T wa w L) (hT:TW dbk pb FD D j w7 (B++(bks L++Y)) F M) (hN:NodeB (Zo FD (B++(bks L++Y)) F) w7 x n B) (f:Fr [] w w7) (hB:∀ c∈B,w.heap.size<=c) (hY:∀ b∈Y,b<w.heap.size) :
  Ed dbk pb FD D j S0 N0 w0 w7 (bks L) Y F M x n B/\Own (bks L) w7 w7 L:=by
 refine ⟨⟨g.next0 h f,hT.weakY fun b hb=>?_,hN.weak fun b hb=>.inl ?_,fun b hb hm=>?_,fun b hb=>.inr (Nat.le_trans (g.fr h).size (hB b hb)),hN0,fun b hb hy=>?_⟩,qaH h f fun _ _ h=>nomatch h⟩
 ·simp only [List.mem_append] at hb ⊢
  rcases hb with hb | hb | hb <;> simp [hb]
 ·simp only [Zo,List.mem_append,List.mem_cons] at hb ⊢
  rcases hb with (hb | hb | hb | hb | hb) | hb <;> simp [hb]
 ·have:=qgY h b hb; have:=hB b hm; omega
 ·have:=hY b hy; have:=hB b hb; omega
theorem Ed.kidsR (e:Ed dbk pb FD D j S0 N0 w0 w T Y F M x n B):Rds encU 1 (Zo FD (T++Y) F) w x.2.2.2 n.kids:=e.nodeR.2.2.2.2
theorem Ed.fr (e:Ed dbk pb FD D j S0 N0 w0 w T Y F M x n B):Fr S0 w0 w:=e.sg.tot
theorem qal {L':List (Nat×Obj)} (h:Own T wa w L) (hs:L'.Sublist L):Own (bks L') w w L':=(h.sub hs).rebase
theorem qkH {ks vs:Sl} {key val:Key} (hkB:IsB key) (hvB:IsB val):∀ (f:Nat) {Y F:List Nat} {w0:World} {M:PgM} {p:Int} {K:GrC×Int->World->Prop} (hT:TW dbk pb FD D j w0 Y F M) (hp:U32 p) (hk:RdB (Zo FD Y F) w0 ks key) (hv:RdB (Zo FD Y F) w0 vs val) (hne:(putN D k v key val f M p).1.2≠-1)
  (kk:∀ gs F' w',GOk (putN D k v key val f M p).1.1->TW dbk pb FD D j w' Y F' (putN D k v key val f M p).2->RdB (Zo FD Y F') w' gs (putN D k v key val f M p).1.1.key->Fr F w0 w'->(∀ b∈F',b∈F\/w0.heap.size<=b)->K (grX (putN D k v key val f M p).1.1 gs,(putN D k v key val f M p).1.2) w'),
  call Tryz.prog 108 [.agg (wkV (wkX k v pb t)),.int .u32 p,.slice ks.a ks.len ks.cap,.slice vs.a vs.len vs.cap] [.agg qaF,.one (.int .i64)] w0 K
 | 0,_,_,_,_,_,_,_,_,_,_,hne,_=>absurd rfl hne
 | f+1,Y,F,w0,M,p,K,hT,hp,hk,hv,hne,kk=>by
  refine qiT (w_0:=(wkX k v pb t).1) (w_1:=(wkX k v pb t).2.1) (w_2:=(wkX k v pb t).2.2.1) (w_3:=(wkX k v pb t).2.2.2.1) (w_4:=(wkX k v pb t).2.2.2.2.1) (w_5:=(wkX k v pb t).2.2.2.2.2) (at_:=p) (key:=ks) (value:=vs) ?_
  unfold qeT
  have h:=Own.start [] w0
  have g:=Sg.start F w0
  refine Own.new' h fun r1 w2 _ _ h=>?_
  refine Own.new' h fun r3 w4 _ _ h=>?_
  refine Own.ldA (cl:=qaf) h 1 rfl (wkX k v pb t) rfl ?_
  rcases hld:loadN D M k v p with ⟨n,e0⟩
  refine qel (k:=k) (v:=v) (hT.now0 h) hp fun x B w7 hT7 hN7 f7 hB7=>?_
  rw [hld] at hN7 ⊢
  dsimp only at hN7
  obtain ⟨e,h⟩:=Ed.load (N0:=[]) (fun _ h=>nomatch h) g h hT7 hN7 f7 hB7 fun b hb=>Nat.lt_of_lt_of_le (hT.ylt b hb) h.fr.size
  refine Own.new' h fun r8 w9 _ _ h=>?_
  refine Own.st' h 0 rfl (ndV x) rfl rfl (Nat.le_of_ble_eq_true rfl) fun w10 h _=>?_
  refine qab (fun hc=>?_) (fun hc=>?_)
  ·have hne0:e0≠0:=by
    rw [Bool.not_eq_true'] at hc
    exact beq_eq_false_iff_ne.1 hc
   rw [qs5 hld hne0] at kk
   refine Own.st' h 1 rfl (grV (0,false,⟨none,0,0⟩,0)) rfl rfl (Nat.le_of_ble_eq_true rfl) fun w11 h _=>?_
   refine Own.ldA (cl:=qaF) h 1 rfl (0,false,⟨none,0,0⟩,0) rfl ?_
   exact kk ⟨none,0,0⟩ F w11 qiH (e.now h).tw'.drop0 (.nil _ _ _ _) (e.now h).fr (e.now h).sg.new
  have he0:e0=0:=by
   rw [Bool.not_eq_false'] at hc
   exact beq_iff_eq.1 hc
  subst he0
  have hr:=qc8 hld
  obtain ⟨l1,l2,l3,l4,l5⟩:=qc4 hr
  have e:=e.now h
  have h:=qal h (.refl _)
  have hx0:x.1=n.leaf:=e.node.1
  refine Own.ld (c:=.bool) h 0 rfl x.1 rfl ?_
  refine qab (fun hc=>?_) (fun hc=>?_)
  ·rw [hx0] at hc
   obtain ⟨l6,l7⟩:=l4 hc
   refine Own.ldA (cl:=qaa) h 0 rfl x rfl ?_
   refine qiM e.nodeR (e.rdb hk) hkB hr.2.2.1 (by omega) fun w16 f16=>?_
   obtain ⟨e,h⟩:=e.next0 h f16
   have hpl:=qlk n.keys key
   refine qag (fun _ w'=>∃ x' n' B',Own [r8,r3,r1] w' w' [(r8,.cells (ndV x') ND (0,0)),(r3,.cells (grV (0,false,⟨none,0,0⟩,0)) GR (0,0)),(r1,.cells (wkV (wkX k v pb t)) WK (0,0))]/\Ed dbk pb FD D j F [] w0 w' [r8,r3,r1] Y F M x' n' B'/\
    putN D k v key val (f+1) M p=splitN k v M p n' (!decide (n.keys[placeV n.keys key]?=some key))/\n'.leaf=true/\n'.vals.length=n'.keys.length/\n'.keys.length<=1000/\n'.kids.length<=1000) ?_ ?_
   ·refine qab (fun hc2=>?_) (fun hc2=>?_)
    ·have hit:=of_decide_eq_true hc2
     have hlt:=(List.getElem?_eq_some_iff.1 hit).1
     refine Own.ld (c:=.slice) h 0 rfl x.2.2.1 rfl ?_
     refine e.setV h (i:=placeV n.keys key) (by omega) rfl (e.rdb hv) hvB fun B' w20 e h _=>?_
     refine ⟨x,_,B',h,e,?_,hc,by dsimp only; rw [List.length_set]; exact l6,by dsimp only; omega,by dsimp only; omega⟩
     rw [qsF hld hc hit,decide_eq_true hit]
     rfl
    ·have miss:=of_decide_eq_false hc2
     have hput:putN D k v key val (f+1) M p=splitN k v M p { n with keys:=insAt n.keys (placeV n.keys key) key,vals:=insAt n.vals (placeV n.keys key) val } (!decide (n.keys[placeV n.keys key]?=some key)):=by
      rw [qrH hld hc miss,decide_eq_false miss]; rfl
     have hfl1:(insAt n.vals (placeV n.keys key) val).length=(insAt n.keys (placeV n.keys key) key).length:=by rw [qcI (by omega),qcI hpl,l6]
     have hfl2:(insAt n.keys (placeV n.keys key) key).length<=1000:=by rw [qcI hpl]; omega
     refine ⟨?_,?_,?_⟩
     ·have h:=Own.drew h
      refine Own.ld (c:=.slice) h 0 rfl x.2.1 rfl ?_
      refine Own.ld (c:=.slice) h 0 rfl x.2.2.1 rfl ?_
      refine Own.new' h fun r23 w24 _ _ h=>?_
      refine qap (h.cell 1 rfl rfl) (h.cell 1 rfl rfl) ?_
      have e:=e.now h
      refine e.insK h (i:=placeV n.keys key) hpl rfl (by omega) 0 rfl (e.rdb hk) hkB fun s27 B1 w28 e h _=>?_
      refine qah (h.cell 1 rfl rfl) ?_
      refine Own.new' h fun r30 w31 _ _ h=>?_
      refine qap (h.cell 2 rfl rfl) (h.cell 2 rfl rfl) ?_
      have e:=e.now h
      refine e.insV h (i:=placeV n.keys key) (by dsimp only; omega) rfl (by dsimp only; omega) 0 rfl (e.rdb hv) hvB fun s34 B2 w35 e h _=>?_
      refine Own.st' h 2 rfl (ndV (x.1,s27,x.2.2.1,x.2.2.2)) rfl rfl (Nat.le_of_ble_eq_true rfl) fun w36 h _=>?_
      refine Own.st' h 2 rfl (ndV (x.1,s27,s34,x.2.2.2)) rfl rfl (Nat.le_of_ble_eq_true rfl) fun w37 h _=>?_
      exact ⟨_,_,B2,qal h (.cons _ (.cons _ (.refl _))),(e.now h).sub (by simp),hput,hc,hfl1,hfl2,by dsimp only; omega⟩
     ·have h:=Own.drew h
      refine Own.ld (c:=.slice) h 0 rfl x.2.1 rfl ?_
      refine Own.ld (c:=.slice) h 0 rfl x.2.2.1 rfl ?_
      refine Own.new' h fun r40 w41 _ _ h=>?_
      refine qap (h.cell 1 rfl rfl) (h.cell 1 rfl rfl) ?_
      refine Own.new' h fun r44 w45 _ _ h=>?_
      refine qap (h.cell 2 rfl rfl) (h.cell 2 rfl rfl) ?_
      have e:=e.now h
      refine e.insK h (i:=placeV n.keys key) hpl rfl (by omega) 1 rfl (e.rdb hk) hkB fun s27 B1 w28 e h _=>?_
      refine qah (h.cell 2 rfl rfl) ?_
      refine e.insV h (i:=placeV n.keys key) (by dsimp only; omega) rfl (by dsimp only; omega) 0 rfl (e.rdb hv) hvB fun s34 B2 w35 e h _=>?_
      refine Own.st' h 2 rfl (ndV (x.1,s27,x.2.2.1,x.2.2.2)) rfl rfl (Nat.le_of_ble_eq_true rfl) fun w36 h _=>?_
      refine Own.st' h 2 rfl (ndV (x.1,s27,s34,x.2.2.2)) rfl rfl (Nat.le_of_ble_eq_true rfl) fun w37 h _=>?_
      exact ⟨_,_,B2,qal h (.cons _ (.cons _ (.refl _))),(e.now h).sub (by simp),hput,hc,hfl1,hfl2,by dsimp only; omega⟩
     ·have h:=Own.drew h
      refine Own.ld (c:=.slice) h 0 rfl x.2.1 rfl ?_
      refine Own.ld (c:=.slice) h 0 rfl x.2.2.1 rfl ?_
      refine Own.new' h fun r57 w58 _ _ h=>?_
      refine qap (h.cell 1 rfl rfl) (h.cell 1 rfl rfl) ?_
      refine Own.new' h fun r61 w62 _ _ h=>?_
      refine qap (h.cell 2 rfl rfl) (h.cell 2 rfl rfl) ?_
      have e:=e.now h
      refine e.insK h (i:=placeV n.keys key) hpl rfl (by omega) 0 rfl (e.rdb hk) hkB fun s27 B1 w28 e h _=>?_
      refine qah (h.cell 2 rfl rfl) ?_
      refine e.insV h (i:=placeV n.keys key) (by dsimp only; omega) rfl (by dsimp only; omega) 1 rfl (e.rdb hv) hvB fun s34 B2 w35 e h _=>?_
      refine Own.st' h 2 rfl (ndV (x.1,s27,x.2.2.1,x.2.2.2)) rfl rfl (Nat.le_of_ble_eq_true rfl) fun w36 h _=>?_
      refine Own.st' h 2 rfl (ndV (x.1,s27,s34,x.2.2.2)) rfl rfl (Nat.le_of_ble_eq_true rfl) fun w37 h _=>?_
      exact ⟨_,_,B2,qal h (.cons _ (.cons _ (.refl _))),(e.now h).sub (by simp),hput,hc,hfl1,hfl2,by dsimp only; omega⟩
   rintro _ w73 ⟨x',n',B',h,e,hput,m0,m1,m2,m3⟩
   rw [hput] at kk
   refine Own.ldA (cl:=qaf) h 2 rfl (wkX k v pb t) rfl ?_
   refine Own.ldA (cl:=qaa) h 0 rfl x' rfl ?_
   refine qln (Y:=[r8,r3,r1]++Y) e.tw' e.nodeR (by omega) (by omega) (by omega) (qsB m0 m1) hp fun gs F' w77 hG hT77 hgs f77 n77=>?_
   have g:=e.sg.next h f77 n77
   have h:=qaH h f77 fun b hb=>e.tw'.yf b (by simp at hb ⊢; rcases hb with h | h | h <;> simp [h])
   refine Own.st' h 1 rfl (grV (grX (splitN k v M p n' (!decide (n.keys[placeV n.keys key]?=some key))).1.1 gs)) rfl rfl (Nat.le_of_ble_eq_true rfl) fun w78 h _=>?_
   refine Own.ldA (cl:=qaF) h 1 rfl (grX (splitN k v M p n' (!decide (n.keys[placeV n.keys key]?=some key))).1.1 gs) rfl ?_
   exact kk gs F' w78 hG (hT77.now h).drop0 (qje (qaD hgs h)) (g.fr h) g.new
  ·rw [hx0] at hc
   have hnl:¬ n.leaf=true:=by rw [hc]; decide
   obtain ⟨l6,l7,l8⟩:=l5 hc
   refine Own.ldA (cl:=qaa) h 0 rfl x rfl ?_
   refine qne e.nodeR (e.rdb hk) hkB hr.2.2.1 (by omega) fun w82 f82=>?_
   obtain ⟨e,h⟩:=e.next0 h f82
   have hkl:=qhp n.keys key
   generalize hcc:kidV n.keys key=c at hkl ⊢
   have hcl:c<n.kids.length:=by omega
   have hgd:n.kids.getD c 0=n.kids[c]:=by rw [List.getD_eq_getElem?_getD,List.getElem?_eq_getElem hcl]; rfl
   have hu:U32 n.kids[c]:=e.node.2.1.2.2 _ (List.getElem_mem hcl)
   rcases hpn:putN D k v key val f M n.kids[c] with ⟨⟨g1,e1⟩,M1⟩
   have hpn2:putN D k v key val f M (n.kids.getD (kidV n.keys key) 0)=((g1,e1),M1):=by rw [hcc,hgd]; exact hpn
   have hne1:e1≠-1:=fun h1=>by
    rw [h1] at hpn2
    rw [qlh hld hnl hpn2 (by decide)] at hne
    exact hne rfl
   refine ⟨?a,?b⟩
   case' a=>
    have h:=Own.drew h
    have e:=e.now h
    refine Own.ldA (cl:=qaf) h 2 rfl (wkX k v pb t) rfl ?_
    refine Own.ld (c:=.slice) h 0 rfl x.2.2.2 rfl ?_
    refine Rds.getU e.kidsR c rfl hcl fun a85 hh=>?_
    refine qkH hkB hvB f e.tw hu (e.rdb hk) (e.rdb hv) (by rw [hpn]; exact hne1) fun gs F1 w88 hG hT88 hgs f88 n88=>?_
    rw [hpn] at hG hT88 hgs ⊢
    obtain ⟨e,h⟩:=e.next h hT88 f88 n88
    refine Own.new' h fun r89 w90 _ _ h=>?_
    refine qao (hh _ _ (e.now h).kidsR) (h.cell 1 rfl rfl) (h.cells 3 rfl rfl) ?_
    refine Own.st' h 0 rfl (grV (grX g1 gs)) rfl rfl (Nat.le_of_ble_eq_true rfl) fun w94 h _=>?_
    have hgs:=qaD hgs h
    have e:=e.now h
    have h:=qal h (.refl _)
   case' b=>
    have h:=Own.drew h
    have e:=e.now h
    have h:=qal h (.refl _)
    refine Own.ldA (cl:=qaf) h 2 rfl (wkX k v pb t) rfl ?_
    refine Own.ld (c:=.slice) h 0 rfl x.2.2.2 rfl ?_
    refine Rds.getU e.kidsR c rfl hcl fun a85 hh=>?_
    refine Own.new' h fun r89 w90 _ _ h=>?_
    have e:=e.now h
    refine qao (hh _ _ e.kidsR) (h.cell 1 rfl rfl) (h.cells 3 rfl rfl) ?_
    refine qkH hkB hvB f e.tw hu (e.rdb hk) (e.rdb hv) (by rw [hpn]; exact hne1) fun gs F1 w88 hG hT88 hgs f88 n88=>?_
    rw [hpn] at hG hT88 hgs ⊢
    obtain ⟨e,h⟩:=e.next h hT88 f88 n88
    refine Own.st' h 0 rfl (grV (grX g1 gs)) rfl rfl (Nat.le_of_ble_eq_true rfl) fun w94 h _=>?_
    have hgs:=qaD hgs h
    have e:=e.now h
    have h:=qal h (.refl _)
   all_goals
    refine qab (fun hc2=>?_) (fun hc2=>?_)
    ·have hne2:e1≠0:=by
      rw [Bool.not_eq_true'] at hc2
      exact beq_eq_false_iff_ne.1 hc2
     rw [qlh hld hnl hpn2 hne2] at kk
     refine Own.st' h 2 rfl (grV (0,false,⟨none,0,0⟩,0)) rfl rfl (Nat.le_of_ble_eq_true rfl) fun w95 h _=>?_
     refine Own.ldA (cl:=qaF) h 2 rfl (0,false,⟨none,0,0⟩,0) rfl ?_
     exact kk ⟨none,0,0⟩ F1 w95 qiH (e.now h).tw'.drop0 (.nil _ _ _ _) (e.now h).fr (e.now h).sg.new
    have he1:e1=0:=by
     rw [Bool.not_eq_false'] at hc2
     exact beq_iff_eq.1 hc2
    subst he1
    refine qag (fun b w'=>b=decide (g1.page=n.kids[c]/\g1.other=0)/\w'=w94.drew) ?_ ?_
    ·have h:=Own.drew h
     refine Own.ld (c:=.int .u32) h 0 rfl g1.page rfl ?_
     refine Own.ld (c:=.slice) h 1 rfl x.2.2.2 rfl ?_
     refine Rds.get (c:=.int .u32) (e.now h).kidsR c rfl (List.getElem?_eq_getElem hcl) (y:=n.kids[c]) rfl ?_
     refine qab (fun hc3=>?_) (fun hc3=>?_)
     ·have hc3:g1.page=n.kids[c]:=beq_iff_eq.1 hc3
      refine Own.ld (c:=.int .u32) h 0 rfl g1.other rfl ⟨?_,rfl⟩
      rw [Bool.eq_iff_iff,beq_iff_eq,decide_eq_true_iff]
      exact ⟨fun h=>⟨hc3,h⟩,fun h=>h.2⟩
     ·have hc3:g1.page≠n.kids[c]:=beq_eq_false_iff_ne.1 hc3
      exact ⟨(decide_eq_false fun h=>hc3 h.1).symm,rfl⟩
    rintro b103 w104 ⟨rfl,rfl⟩
    have h:=Own.drew h
    have hgs:=qaD hgs h
    have e:=e.now h
    have h:=qal h (.refl _)
    refine qab (fun hc3=>?_) (fun hc3=>?_)
    ·have hc3:=of_decide_eq_true hc3
     rw [<- hgd,<- hcc] at hc3
     rw [qq8 hld hnl hpn2 hc3] at kk
     refine Own.ld (c:=.bool) h 0 rfl g1.fresh rfl ?_
     refine Own.st' h 2 rfl (grV (p,g1.fresh,⟨none,0,0⟩,0)) rfl rfl (Nat.le_of_ble_eq_true rfl) fun w106 h _=>?_
     refine Own.ldA (cl:=qaF) h 2 rfl (p,g1.fresh,⟨none,0,0⟩,0) rfl ?_
     exact kk ⟨none,0,0⟩ F1 w106 ⟨hp,qcz,.nil⟩ (e.now h).tw'.drop0 (.nil _ _ _ _) (e.now h).fr (e.now h).sg.new
    ·have hc3:=of_decide_eq_false hc3
     rw [<- hgd,<- hcc] at hc3
     have hput:=qtW hld hnl hpn2 hc3
     rw [hcc] at hput
     rw [hput] at kk
     refine Own.ld (c:=.slice) h 1 rfl x.2.2.2 rfl ?_
     refine Own.ld (c:=.int .u32) h 0 rfl g1.page rfl ?_
     refine e.setI h (i:=c) hcl rfl hG.page fun B1 w111 e h kp=>?_
     have hgs:=kp.rdb _ _ hgs
     refine qag (fun _ w'=>∃ x' B',Own [r89,r8,r3,r1] w' w' [(r89,.cells (grV (grX g1 gs)) GR (0,0)),(r8,.cells (ndV x') ND (0,0)),(r3,.cells (grV (0,false,⟨none,0,0⟩,0)) GR (0,0)),(r1,.cells (wkV (wkX k v pb t)) WK (0,0))]/\Ed dbk pb FD D j F [] w0 w' [r89,r8,r3,r1] Y F1 M1 x' (grownN n c g1) B'/\
      ¬ (grownN n c g1).leaf=true/\(grownN n c g1).keys.length+1=(grownN n c g1).kids.length/\2<=(grownN n c g1).kids.length/\(grownN n c g1).kids.length<=1000/\(grownN n c g1).vals.length<=1000) ?_ ?_
     ·refine Own.ld (c:=.int .u32) h 0 rfl g1.other rfl ?_
      refine qab (fun hc4=>?_) (fun hc4=>?_)
      ·have hc4:g1.other≠0:=by
        rw [Bool.not_eq_true'] at hc4
        exact beq_eq_false_iff_ne.1 hc4
       have eg:grownN n c g1={ n with kids:=insAt (n.kids.set c g1.page) (c+1) g1.other,keys:=insAt n.keys c g1.key }:=by unfold grownN; rw [if_pos hc4]
       have hfin:¬ (grownN n c g1).leaf=true/\(grownN n c g1).keys.length+1=(grownN n c g1).kids.length/\2<=(grownN n c g1).kids.length/\(grownN n c g1).kids.length<=1000/\(grownN n c g1).vals.length<=1000:=by
        rw [eg]
        dsimp only
        rw [qcI hkl,qcI (l:=n.kids.set c g1.page) (by rw [List.length_set]; omega),List.length_set]
        exact ⟨hnl,by omega,by omega,by omega,by omega⟩
       rw [eg] at hfin ⊢
       have ew:IntKind.wrap .i64 ((c:Int)+1)=((c+1:Nat):Int):=qbg (by omega)
       rw [ew]
       refine ⟨?_,?_,?_⟩
       ·have h:=Own.drew h
        refine Own.ld (c:=.slice) h 1 rfl x.2.2.2 rfl ?_
        refine Own.ld (c:=.int .u32) h 0 rfl g1.other rfl ?_
        refine Own.ld (c:=.slice) h 1 rfl x.2.1 rfl ?_
        refine Own.ld (c:=.slice) h 0 rfl gs rfl ?_
        refine Own.new' h fun r118 w119 _ _ h=>?_
        refine qao (h.cell 1 rfl rfl) (h.cell 2 rfl rfl) (h.cell 2 rfl rfl) ?_
        have hgs:=qaD hgs h
        have e:=e.now h
        refine e.insI h (i:=c+1) (by dsimp only; rw [List.length_set]; omega) rfl (by dsimp only; rw [List.length_set]; omega) 0 rfl hG.other fun s123 B2 w124 e h kp=>?_
        have hgs:=kp.rdb _ _ hgs
        refine qap (h.cell 1 rfl rfl) (h.cell 2 rfl rfl) ?_
        refine Own.new' h fun r127 w128 _ _ h=>?_
        refine qao (h.cell 3 rfl rfl) (h.cell 2 rfl rfl) (h.cell 3 rfl rfl) ?_
        have hgs:=qaD hgs h
        have e:=e.now h
        refine e.insK h (i:=c) hkl rfl (by dsimp only; omega) 0 rfl hgs hG.key fun s132 B3 w133 e h _=>?_
        refine Own.st' h 3 rfl (ndV (x.1,x.2.1,x.2.2.1,s123)) rfl rfl (Nat.le_of_ble_eq_true rfl) fun w134 h _=>?_
        refine Own.st' h 3 rfl (ndV (x.1,s132,x.2.2.1,s123)) rfl rfl (Nat.le_of_ble_eq_true rfl) fun w135 h _=>?_
        exact ⟨_,B3,qal h (.cons _ (.cons _ (.refl _))),(e.now h).sub (by simp),hfin⟩
       ·have h:=Own.drew h
        refine Own.ld (c:=.slice) h 1 rfl x.2.2.2 rfl ?_
        refine Own.ld (c:=.int .u32) h 0 rfl g1.other rfl ?_
        refine Own.ld (c:=.slice) h 1 rfl x.2.1 rfl ?_
        refine Own.ld (c:=.slice) h 0 rfl gs rfl ?_
        refine Own.new' h fun r140 w141 _ _ h=>?_
        refine qao (h.cell 1 rfl rfl) (h.cell 2 rfl rfl) (h.cell 2 rfl rfl) ?_
        refine Own.new' h fun r145 w146 _ _ h=>?_
        refine qao (h.cell 3 rfl rfl) (h.cell 2 rfl rfl) (h.cell 3 rfl rfl) ?_
        have hgs:=qaD hgs h
        have e:=e.now h
        refine e.insI h (i:=c+1) (by dsimp only; rw [List.length_set]; omega) rfl (by dsimp only; rw [List.length_set]; omega) 1 rfl hG.other fun s123 B2 w124 e h kp=>?_
        have hgs:=kp.rdb _ _ hgs
        refine qap (h.cell 2 rfl rfl) (h.cell 3 rfl rfl) ?_
        refine e.insK h (i:=c) hkl rfl (by dsimp only; omega) 0 rfl hgs hG.key fun s132 B3 w133 e h _=>?_
        refine Own.st' h 3 rfl (ndV (x.1,x.2.1,x.2.2.1,s123)) rfl rfl (Nat.le_of_ble_eq_true rfl) fun w134 h _=>?_
        refine Own.st' h 3 rfl (ndV (x.1,s132,x.2.2.1,s123)) rfl rfl (Nat.le_of_ble_eq_true rfl) fun w135 h _=>?_
        exact ⟨_,B3,qal h (.cons _ (.cons _ (.refl _))),(e.now h).sub (by simp),hfin⟩
       ·have h:=Own.drew h
        refine Own.ld (c:=.slice) h 1 rfl x.2.2.2 rfl ?_
        refine Own.ld (c:=.int .u32) h 0 rfl g1.other rfl ?_
        refine Own.ld (c:=.slice) h 1 rfl x.2.1 rfl ?_
        refine Own.ld (c:=.slice) h 0 rfl gs rfl ?_
        refine Own.new' h fun r162 w163 _ _ h=>?_
        refine qao (h.cell 2 rfl rfl) (h.cell 1 rfl rfl) (h.cell 2 rfl rfl) ?_
        refine Own.new' h fun r167 w168 _ _ h=>?_
        refine qao (h.cell 2 rfl rfl) (h.cell 3 rfl rfl) (h.cell 3 rfl rfl) ?_
        have hgs:=qaD hgs h
        have e:=e.now h
        refine e.insI h (i:=c+1) (by dsimp only; rw [List.length_set]; omega) rfl (by dsimp only; rw [List.length_set]; omega) 0 rfl hG.other fun s123 B2 w124 e h kp=>?_
        have hgs:=kp.rdb _ _ hgs
        refine qap (h.cell 2 rfl rfl) (h.cell 3 rfl rfl) ?_
        refine e.insK h (i:=c) hkl rfl (by dsimp only; omega) 1 rfl hgs hG.key fun s132 B3 w133 e h _=>?_
        refine Own.st' h 3 rfl (ndV (x.1,x.2.1,x.2.2.1,s123)) rfl rfl (Nat.le_of_ble_eq_true rfl) fun w134 h _=>?_
        refine Own.st' h 3 rfl (ndV (x.1,s132,x.2.2.1,s123)) rfl rfl (Nat.le_of_ble_eq_true rfl) fun w135 h _=>?_
        exact ⟨_,B3,qal h (.cons _ (.cons _ (.refl _))),(e.now h).sub (by simp),hfin⟩
      ·have hc4:¬ g1.other≠0:=by
        rw [Bool.not_eq_false'] at hc4
        exact fun hh=>hh (beq_iff_eq.1 hc4)
       have eg:grownN n c g1={ n with kids:=n.kids.set c g1.page }:=by unfold grownN; rw [if_neg hc4]
       rw [eg]
       exact ⟨x,B1,h,e,hnl,by dsimp only; rw [List.length_set]; omega,by dsimp only; rw [List.length_set]; omega,by dsimp only; rw [List.length_set]; omega,by dsimp only; omega⟩
     rintro _ w181 ⟨x',B',h,e,q1,q2,q3,q4,q5⟩
     refine Own.ldA (cl:=qaf) h 3 rfl (wkX k v pb t) rfl ?_
     refine Own.ldA (cl:=qaa) h 1 rfl x' rfl ?_
     refine Own.ld (c:=.bool) h 0 rfl g1.fresh rfl ?_
     refine qln (Y:=[r89,r8,r3,r1]++Y) e.tw' e.nodeR (by omega) (by omega) (by omega) (qqB q1 q2 q3) hp fun gs2 F2 w186 hG2 hT186 hgs2 f186 n186=>?_
     have g:=e.sg.next h f186 n186
     have h:=qaH h f186 fun b hb=>e.tw'.yf b (by simp at hb ⊢; rcases hb with h | h | h | h <;> simp [h])
     refine Own.st' h 2 rfl (grV (grX (splitN k v M1 p (grownN n c g1) g1.fresh).1.1 gs2)) rfl rfl (Nat.le_of_ble_eq_true rfl) fun w187 h _=>?_
     refine Own.ldA (cl:=qaF) h 2 rfl (grX (splitN k v M1 p (grownN n c g1) g1.fresh).1.1 gs2) rfl ?_
     exact kk gs2 F2 w187 hG2 (hT186.now h).drop0 (qje (qaD hgs2 h)) (g.fr h) g.new
end
end
section
theorem qay {H H' H2 H3:World->Prop} {w:World} {K:Prop} (h:H w) (h':H' w) (h2:H2 w) (h3:H3 w) (k:K):held [H,H',H2,H3] w K:=by
 unfold held
 exact ⟨⟨h,h',h2,h3⟩,k⟩
structure Opn (S0 Z:List Nat) (w:World) (x:NdC) (n:NodeM) (pk pv:Kps):Prop where
 lens:NodeL x n
 nb:NB n
 keys:keyP pk=n.keys
 vals:keyP pv=n.vals
 rk:Rds encSl 1 S0 w x.2.1 (slsP pk)
 rv:Rds encSl 1 S0 w x.2.2.1 (slsP pv)
 ri:Rds encU 1 S0 w x.2.2.2 n.kids
 ek:∀ p∈pk,RdB Z w p.1 p.2
 ev:∀ p∈pv,RdB Z w p.1 p.2
section
variable {S S0 S0' Z Z' B:List Nat} {w w':World} {x:NdC} {n:NodeM} {pk pv:Kps}
theorem NodeB.opn (h:NodeB Z w x n B) (hS:∀ b∈B,b∉S0):∃ pk pv,Opn S0 Z w x n pk pv:=by
 have hr:NodeR [] w x n:=h.rd (fun _ _ h=>(nomatch h)) fun _ h=>nomatch h
 have hl:=hr.lens
 obtain ⟨h0,hNB,Bk,Bv,Bi,rfl,hnd,⟨pk,k1,k2,k3⟩,⟨pv,v1,v2,v3⟩,hi⟩:=h
 exact ⟨pk,pv,hl,hNB,k2,v2,k1.rds qb0 fun b hb=>hS b (by simp [hb]),v1.rds qb0 fun b hb=>hS b (by simp [hb]),hi.rds qaT fun b hb=>hS b (by simp [hb]),k3,v3⟩
theorem Opn.frame (h:Opn S0 Z w x n pk pv) (f:Fr S w w') (hS:∀ b∈S,b∈S0) (hSZ:∀ b∈S,b∈Z) (hS':NewZ S0 w S0') (hZ:NewZ Z w Z'):Opn S0' Z' w' x n pk pv where
 lens:=h.lens
 nb:=h.nb
 keys:=h.keys
 vals:=h.vals
 rk:=h.rk.frame (f.mono fun b hb _=>hS b hb) hS'
 rv:=h.rv.frame (f.mono fun b hb _=>hS b hb) hS'
 ri:=h.ri.frame (f.mono fun b hb _=>hS b hb) hS'
 ek:=fun p hp=>(h.ek p hp).frame (f.mono fun b hb _=>hSZ b hb) hZ
 ev:=fun p hp=>(h.ev p hp).frame (f.mono fun b hb _=>hSZ b hb) hZ
theorem Opn.klen (h:Opn S0 Z w x n pk pv):pk.length=n.keys.length:=by rw [<- h.keys,List.length_map]
theorem Opn.vlen (h:Opn S0 Z w x n pk pv):pv.length=n.vals.length:=by rw [<- h.vals,List.length_map]
theorem Opn.rdK (h:Opn S0 Z w x n pk pv) (hS:∀ b∈S0,b∈Z):RdK S0 w x.2.1 pk:=⟨h.rk,fun p hp=>(h.ek p hp).frame (.refl _ _) fun b hb=>.inl (hS b hb)⟩
theorem Opn.rdV (h:Opn S0 Z w x n pk pv) (hS:∀ b∈S0,b∈Z):RdK S0 w x.2.2.1 pv:=⟨h.rv,fun p hp=>(h.ev p hp).frame (.refl _ _) fun b hb=>.inl (hS b hb)⟩
theorem Rds.getS {s:Sl} {ps:Kps} {i:Int} {K:Addr->Sl->Prop} (h:Rds encSl 1 S w s (slsP ps)) (n:Nat) (hi:i=n) (hn:n<ps.length) (kk:∀ a,(∀ S' w',Rds encSl 1 S' w' s (slsP ps)->w'.cell? a=some (.slice ps[n].1.a ps[n].1.len ps[n].1.cap))->K a ps[n].1):idx s i 1 fun a=>ld .slice a w fun y=>K a y:=by
 subst hi
 have hx:(slsP ps)[n]?=some ps[n].1:=by rw [List.getElem?_map,List.getElem?_eq_getElem hn]; rfl
 obtain ⟨hl,b,o,ha,_,cs,T,fr,hb,hc⟩:=h.at n hx
 refine qbk ha ⟨by omega,by omega⟩ ?_
 rw [Int.toNat_natCast]
 have key:∀ S' w',Rds encSl 1 S' w' s (slsP ps)->w'.cell? ⟨b,o+n*1,none⟩=some (.slice ps[n].1.a ps[n].1.len ps[n].1.cap):=fun S' w' h'=>by
  obtain ⟨_,b',o',ha',_,cs',T',fr',hb',hc'⟩:=h'.at n hx
  rw [ha] at ha'
  cases ha'
  rw [qai hb']
  have:=congrArg (·[0]?) hc'
  simpa [encSl] using this
 exact qc6 (c:=.slice) ps[n].1 (key S w h) (kk _ key)
theorem Opn.keyAt (h:Opn S0 Z w x n pk pv) {i:Nat} (hi:i<pk.length):n.keys.getD i []=pk[i].2:=by rw [<- h.keys,qco hi]
theorem Opn.valAt (h:Opn S0 Z w x n pk pv) {i:Nat} (hi:i<pv.length):n.vals.getD i []=pv[i].2:=by rw [<- h.vals,qco hi]
theorem qcu {n:NodeM} {i:Nat} (hi:i<n.kids.length):n.kids.getD i 0=n.kids[i]:=by rw [List.getD_eq_getElem?_getD,List.getElem?_eq_getElem hi]; rfl
end
structure ShapeN (n:NodeM):Prop where
 leaf:n.leaf=true->n.vals.length=n.keys.length
 inner:n.leaf=false->n.kids.length=n.keys.length+1
 keys:n.keys.length<=2000
 vals:n.vals.length<=2000
 kids:n.kids.length<=2000
section
variable {dbk pb j:Nat} {FD Y F Bl Br:List Nat} {D:DiskM} {w0:World} {M:PgM} {xl xr:NdC} {nl nr:NodeM} {ks:Sl} {key:Key}
theorem zoT {T:List Nat} {b:Nat} (h:b∈T):b∈Zo FD (T++Y) F:=by simp [h]
theorem qgF {T:List Nat}:∀ b∈Zo FD Y F,b∈Zo FD (T++(Bl++Y)) F:=fun b hb=>by
 simp only [Zo,List.mem_append,List.mem_cons] at hb ⊢
 rcases hb with (hb | hb | hb) | hb <;> simp [hb]
theorem qeo {α:Type} (l:List α) (x:α):insAt l 0 x=x::l:=by unfold insAt; simp
theorem qs6 {K:NdC×NdC×Sl->World->Prop} (hT:TW dbk pb FD D j w0 (Br++(Bl++Y)) F M) (hl:NodeB (Zo FD (Br++(Bl++Y)) F) w0 xl nl Bl) (hr:NodeB (Zo FD (Br++(Bl++Y)) F) w0 xr nr Br) (d1:∀ b∈Br,b∉Bl) (d2:∀ b∈Br,b∉Y) (d3:∀ b∈Bl,b∉Y) (hk:RdB (Zo FD (Br++(Bl++Y)) F) w0 ks key) (hkB:IsB key)
  (hlf:nl.leaf=nr.leaf) (h1:1<=nl.keys.length) (sl:ShapeN nl) (sr:ShapeN nr)
  (kk:∀ yl yr ks' w',TW dbk pb FD D j w' Y F M->NodeR (Zo FD Y F) w' yl (giveN nl nr key).1->NodeR (Zo FD Y F) w' yr (giveN nl nr key).2.1->RdB (Zo FD Y F) w' ks' (giveN nl nr key).2.2->Fr (Br++F) w0 w'->K (yl,yr,ks') w') :
  call Tryz.prog 180 [.agg (ndV xl),.agg (ndV xr),.slice ks.a ks.len ks.cap] [.agg qaa,.agg qaa,.one .slice] w0 K:=by
 refine qnP (left0:=xl.1) (left1:=xl.2.1) (left2:=xl.2.2.1) (left3:=xl.2.2.2) (right0:=xr.1) (right1:=xr.2.1) (right2:=xr.2.2.1) (right3:=xr.2.2.2) (key:=ks) ?_
 unfold qjx
 obtain ⟨pk,pv,o⟩:=hl.opn (S0:=Br++Zo FD Y F) fun b hb hm=>by
  rcases List.mem_append.1 hm with hm | hm
  ·exact d1 b hm hb
  ·have h0:=hT.sep b (by simp [hb])
   simp only [Zo,List.mem_append,List.mem_cons] at hm
   rcases hm with (hm | hm | hm) | hm
   ·exact h0.1 hm
   ·exact h0.2 hm
   ·exact d3 b hb hm
   ·exact hT.yf b (by simp [hb]) hm
 have e0:Ed dbk pb FD D j (Br++F) Br w0 w0 [] (Bl++Y) F M xr nr Br:=⟨⟨.refl _ _,fun b hb=>.inl (by simp [hb]),fun _ h=>nomatch h⟩,hT,hr,fun _ h=>(nomatch h),fun b hb=>.inl hb,fun b hb=>by simp [hb],fun b hb hm=>(List.mem_append.1 hm).elim (d1 b hb) (d2 b hb)⟩
 have hSZ:∀ b∈Br++Zo FD Y F,b∈Zo FD (Br++(Bl++Y)) F:=fun b hb=>by
  simp only [Zo,List.mem_append,List.mem_cons] at hb ⊢
  rcases hb with hb | (hb | hb | hb) | hb <;> simp [hb]
 have hS1:∀ b∈Br++F,b∈Br++Zo FD Y F:=fun b hb=>by
  simp only [Zo,List.mem_append,List.mem_cons] at hb ⊢
  rcases hb with hb | hb <;> simp [hb]
 have nZ:∀ {w' T x' n' B'},Ed dbk pb FD D j (Br++F) Br w0 w' T (Bl++Y) F M x' n' B'->NewZ (Zo FD (Br++(Bl++Y)) F) w0 (Zo FD (T++(B'++(Bl++Y))) F):=fun e b hb=>by
  simp only [Zo,List.mem_append,List.mem_cons] at hb
  rcases hb with (hb | hb | hb | hb | hb | hb) | hb
  ·exact .inl (by simp [hb])
  ·exact .inl (by simp [hb])
  ·exact (e.sg.own b hb).imp (fun h=>hSZ b (hS1 b h)) id
  ·exact (e.bnew b hb).imp (fun h=>hSZ b (hS1 b (e.nsub b h))) id
  ·exact .inl (by simp [hb])
  ·exact .inl (by simp [hb])
  ·exact .inl (by simp [hb])
 have ow:∀ {w' T x' n' B'},Ed dbk pb FD D j (Br++F) Br w0 w' T (Bl++Y) F M x' n' B'->Opn (Br++Zo FD Y F) (Zo FD (T++(B'++(Bl++Y))) F) w' xl nl pk pv:=fun e=>o.frame e.fr hS1 (fun b hb=>hSZ b (hS1 b hb)) (fun b hb=>.inl hb) (nZ e)
 have hbk:=o.rdK hSZ
 have hbv:=o.rdV hSZ
 have fin:∀ {w' T x' n' B'},Ed dbk pb FD D j (Br++F) Br w0 w' T (Bl++Y) F M x' n' B'->Fr (Br++Zo FD Y F) w0 w':=fun e=>e.fr.mono fun b hb _=>hS1 b hb
 have hin:∀ b∈Zo FD Y F,b∈Br++Zo FD Y F\/w0.heap.size<=b:=fun b hb=>.inl (List.mem_append_right _ hb)
 have hlen:=o.lens
 have kl:=o.klen
 have vl:=o.vlen
 have sk:=sl.keys
 have skr:=sr.keys
 have svr:=sr.vals
 have sir:=sr.kids
 have ek1:IntKind.wrap .i64 ((xl.2.1.len:Int)-1)=((nl.keys.length-1:Nat):Int):=by rw [hlen.keys,wi' _ (by omega)]; omega
 have h:=Own.start [] w0
 refine Own.new' h fun r1 w2 _ _ h=>?_
 refine Own.new' h fun r3 w4 _ _ h=>?_
 refine Own.new' h fun r5 w6 _ _ h=>?_
 refine Own.new' h fun r7 w8 _ _ h=>?_
 refine Own.ld (c:=.slice) h 3 rfl xl.2.1 rfl ?_
 refine Own.ld (c:=.bool) h 3 rfl xl.1 rfl ?_
 rw [ek1]
 refine qab (fun hc=>?_) (fun hc=>?_)
 ·rw [hlen.leaf] at hc
  have vl2:=sl.leaf hc
  have hG:giveN nl nr key=({ nl with keys:=nl.keys.take (nl.keys.length-1),vals:=nl.vals.take (nl.keys.length-1) },{ nr with keys:=nl.keys.getD (nl.keys.length-1) []::nr.keys,vals:=nl.vals.getD (nl.keys.length-1) []::nr.vals },nl.keys.getD (nl.keys.length-1) []):=by unfold giveN; rw [if_pos hc]
  have hi:nl.keys.length-1<pk.length:=by omega
  have hiv:nl.keys.length-1<pv.length:=by omega
  rw [hG,o.keyAt hi,o.valAt hiv] at kk
  have hb1:IsB pk[nl.keys.length-1].2:=by rw [<- o.keyAt hi]; exact qaW o.nb.1 _
  have hb2:IsB pv[nl.keys.length-1].2:=by rw [<- o.valAt hiv]; exact qaW o.nb.2.1 _
  refine ⟨?a1,?a2,?a3⟩
  case' a1=>
   have h:=Own.drew h
   refine Own.ld (c:=.slice) h 2 rfl xr.2.1 rfl ?_
   refine Own.ld (c:=.slice) h 3 rfl xl.2.1 rfl ?_
   refine Rds.getS ((o.rk).frame0 h.fr) (nl.keys.length-1) rfl hi fun a13 h13=>?_
   refine Own.ld (c:=.slice) h 2 rfl xr.2.2.1 rfl ?_
   refine Own.ld (c:=.slice) h 3 rfl xl.2.2.1 rfl ?_
   refine Rds.getS ((o.rv).frame0 h.fr) (nl.keys.length-1) rfl hiv fun a17 h17=>?_
   refine Own.new' h fun r19 w20 _ _ h=>?_
   have e:=e0.now h
   refine qay (h17 _ _ (ow e).rv) (h.cell 4 rfl rfl) (h.cell 3 rfl rfl) (h.cell 3 rfl rfl) ?_
   refine e.insK h (i:=0) (Nat.zero_le _) rfl (by omega) 0 rfl ((ow e).ek _ (List.getElem_mem hi)) hb1 fun s25 B1 w26 e h _=>?_
   refine qao (h17 _ _ (ow e).rv) (h.cell 4 rfl rfl) (h.cell 3 rfl rfl) ?_
   refine Own.new' h fun r30 w31 _ _ h=>?_
   have e:=e.now h
   refine qay (h.cell 4 rfl rfl) (h13 _ _ (ow e).rk) (h.cell 5 rfl rfl) (h.cell 4 rfl rfl) ?_
   refine e.insV h (i:=0) (Nat.zero_le _) rfl (by dsimp only; omega) 0 rfl ((ow e).ev _ (List.getElem_mem hiv)) hb2 fun s36 B2 w37 e h _=>?_
  case' a2=>
   have h:=Own.drew h
   refine Own.ld (c:=.slice) h 2 rfl xr.2.1 rfl ?_
   refine Own.ld (c:=.slice) h 3 rfl xl.2.1 rfl ?_
   refine Rds.getS ((o.rk).frame0 h.fr) (nl.keys.length-1) rfl hi fun a13 h13=>?_
   refine Own.ld (c:=.slice) h 2 rfl xr.2.2.1 rfl ?_
   refine Own.ld (c:=.slice) h 3 rfl xl.2.2.1 rfl ?_
   refine Rds.getS ((o.rv).frame0 h.fr) (nl.keys.length-1) rfl hiv fun a17 h17=>?_
   refine Own.new' h fun r19 w20 _ _ h=>?_
   refine qay (h17 _ _ (ow (e0.now h)).rv) (h.cell 4 rfl rfl) (h.cell 3 rfl rfl) (h.cell 3 rfl rfl) ?_
   refine Own.new' h fun r30 w31 _ _ h=>?_
   have e:=e0.now h
   refine qay (h.cell 4 rfl rfl) (h13 _ _ (ow e).rk) (h.cell 5 rfl rfl) (h.cell 4 rfl rfl) ?_
   refine e.insK h (i:=0) (Nat.zero_le _) rfl (by omega) 1 rfl ((ow e).ek _ (List.getElem_mem hi)) hb1 fun s25 B1 w26 e h _=>?_
   refine qao (h17 _ _ (ow e).rv) (h.cell 5 rfl rfl) (h.cell 4 rfl rfl) ?_
   refine e.insV h (i:=0) (Nat.zero_le _) rfl (by dsimp only; omega) 0 rfl ((ow e).ev _ (List.getElem_mem hiv)) hb2 fun s36 B2 w37 e h _=>?_
  case' a3=>
   have h:=Own.drew h
   refine Own.ld (c:=.slice) h 2 rfl xr.2.1 rfl ?_
   refine Own.ld (c:=.slice) h 3 rfl xl.2.1 rfl ?_
   refine Rds.getS ((o.rk).frame0 h.fr) (nl.keys.length-1) rfl hi fun a13 h13=>?_
   refine Own.ld (c:=.slice) h 2 rfl xr.2.2.1 rfl ?_
   refine Own.ld (c:=.slice) h 3 rfl xl.2.2.1 rfl ?_
   refine Rds.getS ((o.rv).frame0 h.fr) (nl.keys.length-1) rfl hiv fun a17 h17=>?_
   refine Own.new' h fun r19 w20 _ _ h=>?_
   refine qay (h.cell 3 rfl rfl) (h13 _ _ (ow (e0.now h)).rk) (h.cell 4 rfl rfl) (h.cell 3 rfl rfl) ?_
   refine Own.new' h fun r30 w31 _ _ h=>?_
   have e:=e0.now h
   refine qay (h17 _ _ (ow e).rv) (h.cell 5 rfl rfl) (h.cell 4 rfl rfl) (h.cell 4 rfl rfl) ?_
   refine e.insK h (i:=0) (Nat.zero_le _) rfl (by omega) 0 rfl ((ow e).ek _ (List.getElem_mem hi)) hb1 fun s25 B1 w26 e h _=>?_
   refine qao (h17 _ _ (ow e).rv) (h.cell 5 rfl rfl) (h.cell 4 rfl rfl) ?_
   refine e.insV h (i:=0) (Nat.zero_le _) rfl (by dsimp only; omega) 1 rfl ((ow e).ev _ (List.getElem_mem hiv)) hb2 fun s36 B2 w37 e h _=>?_
  all_goals
   refine Own.st' h 4 rfl (ndV (xr.1,s25,xr.2.2.1,xr.2.2.2)) rfl rfl (Nat.le_of_ble_eq_true rfl) fun w38 h _=>?_
   refine Own.st' h 4 rfl (ndV (xr.1,s25,s36,xr.2.2.2)) rfl rfl (Nat.le_of_ble_eq_true rfl) fun w39 h _=>?_
   have h:=Own.drew h
   refine Own.ld (c:=.slice) h 5 rfl xl.2.1 rfl ?_
   refine RdK.upto hbk (nl.keys.length-1) rfl (by omega) fun s41 hs41=>?_
   refine Own.ld (c:=.slice) h 5 rfl xl.2.2.1 rfl ?_
   refine RdK.upto hbv (nl.keys.length-1) rfl (by omega) fun s43 hs43=>?_
   refine Own.st' h 5 rfl (ndV (xl.1,s41,xl.2.2.1,xl.2.2.2)) rfl rfl (Nat.le_of_ble_eq_true rfl) fun w44 h _=>?_
   refine Own.st' h 5 rfl (ndV (xl.1,s41,s43,xl.2.2.2)) rfl rfl (Nat.le_of_ble_eq_true rfl) fun w45 h _=>?_
   have h:=Own.drew h
   refine Own.ldA (cl:=qaa) h 5 rfl (xl.1,s41,s43,xl.2.2.2) rfl ?_
   refine Own.ldA (cl:=qaa) h 4 rfl (xr.1,s25,s36,xr.2.2.2) rfl ?_
   refine Own.ld (c:=.slice) h 4 rfl s25 rfl ?_
   have e:=e.now h
   have h:=qal h (.refl _)
   obtain ⟨q0,qN,⟨qk,hqk,hqe⟩,q4,q5⟩:=e.nodeR
   have hq0:0<qk.length:=by
    have:=congrArg List.length hqe
    dsimp only at this
    rw [qeo,List.length_map,List.length_cons] at this
    omega
   have hq1:qk[0].2=pk[nl.keys.length-1].2:=by
    rw [<- qco hq0,hqe]
    dsimp only
    rw [qeo]; rfl
   refine Rds.getS hqk.1 0 rfl hq0 fun a49 h49=>?_
   refine Own.st' h 3 rfl (ndV (xl.1,s41,s43,xl.2.2.2)) rfl rfl (Nat.le_of_ble_eq_true rfl) fun w51 h _=>?_
   refine qao (h49 [] _ (hqk.1.frame (h.fr.mono fun b hb _=>zoT hb) fun _ h=>nomatch h)) (h.cell 4 rfl rfl) (h.cells 4 rfl rfl) ?_
   refine Own.st' h 2 rfl (ndV (xr.1,s25,s36,xr.2.2.2)) rfl rfl (Nat.le_of_ble_eq_true rfl) fun w55 h _=>?_
   refine qap (h49 [] _ (hqk.1.frame (h.fr.mono fun b hb _=>zoT hb) fun _ h=>nomatch h)) (h.cell 4 rfl rfl) ?_
   refine Own.ldA (cl:=qaa) h 3 rfl (xl.1,s41,s43,xl.2.2.2) rfl ?_
   refine Own.ldA (cl:=qaa) h 2 rfl (xr.1,s25,s36,xr.2.2.2) rfl ?_
   have ks50:=qaD (hqk.2 _ (List.getElem_mem hq0)) h
   rw [hq1] at ks50
   have e:=e.now h
   have hR:=e.nodeR.weak (S':=Zo FD Y F) fun b hb=>.inl (qgF b hb)
   rw [qeo,qeo] at hR
   exact kk (xl.1,s41,s43,xl.2.2.2) (xr.1,s25,s36,xr.2.2.2) _ w55 (e.tw'.weakY fun b hb=>by simp [hb]) ⟨hlen.leaf,⟨fun a ha=>o.nb.1 a (List.mem_of_mem_take ha),fun a ha=>o.nb.2.1 a (List.mem_of_mem_take ha),o.nb.2.2⟩,⟨_,hs41.frame (fin e) hin,by rw [qbU,o.keys]⟩,⟨_,hs43.frame (fin e) hin,by rw [qbU,o.vals]⟩,o.ri.frame (fin e) hin⟩
    hR (ks50.frame (.refl _ _) fun b hb=>.inl (qgF b hb)) e.fr
 ·rw [hlen.leaf] at hc
  have hnl:¬ nl.leaf=true:=by rw [hc]; decide
  have il:=sl.inner hc
  have hG:giveN nl nr key=({ nl with keys:=nl.keys.take (nl.keys.length-1),kids:=nl.kids.take (nl.keys.length-1+1) },{ nr with keys:=key::nr.keys,kids:=nl.kids.getD (nl.keys.length-1+1) 0::nr.kids },nl.keys.getD (nl.keys.length-1) []):=by unfold giveN; rw [if_neg hnl]
  have hi:nl.keys.length-1<pk.length:=by omega
  have hik:nl.keys.length-1+1<nl.kids.length:=by omega
  rw [hG,o.keyAt hi,qcu hik] at kk
  have hb1:U32 nl.kids[nl.keys.length-1+1]:=o.nb.2.2 _ (List.getElem_mem hik)
  have ek2:IntKind.wrap .i64 (((nl.keys.length-1:Nat):Int)+1)=((nl.keys.length-1+1:Nat):Int):=qbg (by omega)
  rw [ek2]
  have kw:∀ {w' T x' n' B'},Ed dbk pb FD D j (Br++F) Br w0 w' T (Bl++Y) F M x' n' B'->RdB (Zo FD (T++(B'++(Bl++Y))) F) w' ks key:=fun e=>hk.frame (e.fr.mono fun b hb _=>hSZ b (hS1 b hb)) (nZ e)
  refine Own.ld (c:=.slice) h 3 rfl xl.2.1 rfl ?_
  refine Rds.getS ((o.rk).frame0 h.fr) (nl.keys.length-1) rfl hi fun a160 h160=>?_
  refine ⟨?b1,?b2,?b3⟩
  case' b1=>
   have h:=Own.drew h
   refine Own.ld (c:=.slice) h 2 rfl xr.2.1 rfl ?_
   refine Own.ld (c:=.slice) h 2 rfl xr.2.2.2 rfl ?_
   refine Own.ld (c:=.slice) h 3 rfl xl.2.2.2 rfl ?_
   refine Rds.getU ((o.ri).frame0 h.fr) (nl.keys.length-1+1) rfl hik fun a13 h13=>?_
   refine Own.new' h fun r19 w20 _ _ h=>?_
   have e:=e0.now h
   refine qay (h13 _ _ (ow e).ri) (h.cell 4 rfl rfl) (h.cell 3 rfl rfl) (h.cell 3 rfl rfl) ?_
   refine e.insK h (i:=0) (Nat.zero_le _) rfl (by omega) 0 rfl (kw e) hkB fun s25 B1 w26 e h _=>?_
   refine qao (h13 _ _ (ow e).ri) (h.cell 4 rfl rfl) (h.cell 3 rfl rfl) ?_
   refine Own.new' h fun r30 w31 _ _ h=>?_
   have e:=e.now h
   refine qap (h.cell 4 rfl rfl) (h.cell 4 rfl rfl) ?_
   refine e.insI h (i:=0) (Nat.zero_le _) rfl (by dsimp only; omega) 0 rfl hb1 fun s36 B2 w37 e h _=>?_
  case' b2=>
   have h:=Own.drew h
   refine Own.ld (c:=.slice) h 2 rfl xr.2.1 rfl ?_
   refine Own.ld (c:=.slice) h 2 rfl xr.2.2.2 rfl ?_
   refine Own.ld (c:=.slice) h 3 rfl xl.2.2.2 rfl ?_
   refine Rds.getU ((o.ri).frame0 h.fr) (nl.keys.length-1+1) rfl hik fun a13 h13=>?_
   refine Own.new' h fun r19 w20 _ _ h=>?_
   refine qay (h13 _ _ (ow (e0.now h)).ri) (h.cell 4 rfl rfl) (h.cell 3 rfl rfl) (h.cell 3 rfl rfl) ?_
   refine Own.new' h fun r30 w31 _ _ h=>?_
   have e:=e0.now h
   refine qap (h.cell 4 rfl rfl) (h.cell 4 rfl rfl) ?_
   refine e.insK h (i:=0) (Nat.zero_le _) rfl (by omega) 1 rfl (kw e) hkB fun s25 B1 w26 e h _=>?_
   refine qao (h13 _ _ (ow e).ri) (h.cell 5 rfl rfl) (h.cell 4 rfl rfl) ?_
   refine e.insI h (i:=0) (Nat.zero_le _) rfl (by dsimp only; omega) 0 rfl hb1 fun s36 B2 w37 e h _=>?_
  case' b3=>
   have h:=Own.drew h
   refine Own.ld (c:=.slice) h 2 rfl xr.2.1 rfl ?_
   refine Own.ld (c:=.slice) h 2 rfl xr.2.2.2 rfl ?_
   refine Own.ld (c:=.slice) h 3 rfl xl.2.2.2 rfl ?_
   refine Rds.getU ((o.ri).frame0 h.fr) (nl.keys.length-1+1) rfl hik fun a13 h13=>?_
   refine Own.new' h fun r19 w20 _ _ h=>?_
   refine qap (h.cell 3 rfl rfl) (h.cell 3 rfl rfl) ?_
   refine Own.new' h fun r30 w31 _ _ h=>?_
   have e:=e0.now h
   refine qay (h13 _ _ (ow e).ri) (h.cell 5 rfl rfl) (h.cell 4 rfl rfl) (h.cell 4 rfl rfl) ?_
   refine e.insK h (i:=0) (Nat.zero_le _) rfl (by omega) 0 rfl (kw e) hkB fun s25 B1 w26 e h _=>?_
   refine qao (h13 _ _ (ow e).ri) (h.cell 5 rfl rfl) (h.cell 4 rfl rfl) ?_
   refine e.insI h (i:=0) (Nat.zero_le _) rfl (by dsimp only; omega) 1 rfl hb1 fun s36 B2 w37 e h _=>?_
  all_goals
   refine Own.st' h 4 rfl (ndV (xr.1,s25,xr.2.2.1,xr.2.2.2)) rfl rfl (Nat.le_of_ble_eq_true rfl) fun w38 h _=>?_
   refine Own.st' h 4 rfl (ndV (xr.1,s25,xr.2.2.1,s36)) rfl rfl (Nat.le_of_ble_eq_true rfl) fun w39 h _=>?_
   have h:=Own.drew h
   refine Own.ld (c:=.slice) h 5 rfl xl.2.1 rfl ?_
   refine RdK.upto hbk (nl.keys.length-1) rfl (by omega) fun s41 hs41=>?_
   refine Own.ld (c:=.slice) h 5 rfl xl.2.2.2 rfl ?_
   refine Rds.upto1 o.ri (nl.keys.length-1+1) rfl (by omega) fun s43 hs43=>?_
   refine Own.st' h 5 rfl (ndV (xl.1,s41,xl.2.2.1,xl.2.2.2)) rfl rfl (Nat.le_of_ble_eq_true rfl) fun w44 h _=>?_
   refine Own.st' h 5 rfl (ndV (xl.1,s41,xl.2.2.1,s43)) rfl rfl (Nat.le_of_ble_eq_true rfl) fun w45 h _=>?_
   have h:=Own.drew h
   refine Own.ldA (cl:=qaa) h 5 rfl (xl.1,s41,xl.2.2.1,s43) rfl ?_
   refine Own.ldA (cl:=qaa) h 4 rfl (xr.1,s25,xr.2.2.1,s36) rfl ?_
   refine Own.st' h 3 rfl (ndV (xl.1,s41,xl.2.2.1,s43)) rfl rfl (Nat.le_of_ble_eq_true rfl) fun w51 h _=>?_
   refine qah (h.cells 4 rfl rfl) ?_
   refine Own.st' h 2 rfl (ndV (xr.1,s25,xr.2.2.1,s36)) rfl rfl (Nat.le_of_ble_eq_true rfl) fun w55 h _=>?_
   refine Own.ldA (cl:=qaa) h 3 rfl (xl.1,s41,xl.2.2.1,s43) rfl ?_
   refine Own.ldA (cl:=qaa) h 2 rfl (xr.1,s25,xr.2.2.1,s36) rfl ?_
   have e:=e.now h
   have hR:=e.nodeR.weak (S':=Zo FD Y F) fun b hb=>.inl (qgF b hb)
   rw [qeo,qeo] at hR
   exact kk (xl.1,s41,xl.2.2.1,s43) (xr.1,s25,xr.2.2.1,s36) _ w55 (e.tw'.weakY fun b hb=>by simp [hb]) ⟨hlen.leaf,⟨fun a ha=>o.nb.1 a (List.mem_of_mem_take ha),o.nb.2.1,fun a ha=>o.nb.2.2 a (List.mem_of_mem_take ha)⟩,⟨_,hs41.frame (fin e) hin,by rw [qbU,o.keys]⟩,⟨_,hbv.frame (fin e) hin,o.vals⟩,hs43.frame (fin e) hin⟩
    hR (((ow e).ek _ (List.getElem_mem hi)).frame (.refl _ _) fun b hb=>.inl (by
     simp only [Zo,List.mem_append,List.mem_cons] at hb ⊢
     rcases hb with (hb | hb | hb) | hb <;> simp [hb])) e.fr
end
end
section
section
variable {dbk pb j:Nat} {FD Y F Bl Br:List Nat} {D:DiskM} {w0:World} {M:PgM} {xl xr:NdC} {nl nr:NodeM} {ks:Sl} {key:Key}
theorem qsY {K:NdC×NdC×Sl->World->Prop} (hT:TW dbk pb FD D j w0 (Bl++(Br++Y)) F M) (hl:NodeB (Zo FD (Bl++(Br++Y)) F) w0 xl nl Bl) (hr:NodeB (Zo FD (Bl++(Br++Y)) F) w0 xr nr Br) (d1:∀ b∈Bl,b∉Br) (d2:∀ b∈Bl,b∉Y) (d3:∀ b∈Br,b∉Y) (hk:RdB (Zo FD (Bl++(Br++Y)) F) w0 ks key) (hkB:IsB key)
  (hlf:nl.leaf=nr.leaf) (h1:1<=nr.keys.length) (h2:nr.leaf=true->2<=nr.keys.length) (sl:ShapeN nl) (sr:ShapeN nr)
  (kk:∀ yl yr ks' w',TW dbk pb FD D j w' Y F M->NodeR (Zo FD Y F) w' yl (takeN nl nr key).1->NodeR (Zo FD Y F) w' yr (takeN nl nr key).2.1->RdB (Zo FD Y F) w' ks' (takeN nl nr key).2.2->Fr (Bl++F) w0 w'->K (yl,yr,ks') w') :
  call Tryz.prog 181 [.agg (ndV xl),.agg (ndV xr),.slice ks.a ks.len ks.cap] [.agg qaa,.agg qaa,.one .slice] w0 K:=by
 refine qnO (left0:=xl.1) (left1:=xl.2.1) (left2:=xl.2.2.1) (left3:=xl.2.2.2) (right0:=xr.1) (right1:=xr.2.1) (right2:=xr.2.2.1) (right3:=xr.2.2.2) (key:=ks) ?_
 unfold qkm
 obtain ⟨pk,pv,o⟩:=hr.opn (S0:=Bl++Zo FD Y F) fun b hb hm=>by
  rcases List.mem_append.1 hm with hm | hm
  ·exact d1 b hm hb
  ·have h0:=hT.sep b (by simp [hb])
   simp only [Zo,List.mem_append,List.mem_cons] at hm
   rcases hm with (hm | hm | hm) | hm
   ·exact h0.1 hm
   ·exact h0.2 hm
   ·exact d3 b hb hm
   ·exact hT.yf b (by simp [hb]) hm
 have e0:Ed dbk pb FD D j (Bl++F) Bl w0 w0 [] (Br++Y) F M xl nl Bl:=⟨⟨.refl _ _,fun b hb=>.inl (by simp [hb]),fun _ h=>nomatch h⟩,hT,hl,fun _ h=>(nomatch h),fun b hb=>.inl hb,fun b hb=>by simp [hb],fun b hb hm=>(List.mem_append.1 hm).elim (d1 b hb) (d2 b hb)⟩
 have hSZ:∀ b∈Bl++Zo FD Y F,b∈Zo FD (Bl++(Br++Y)) F:=fun b hb=>by
  simp only [Zo,List.mem_append,List.mem_cons] at hb ⊢
  rcases hb with hb | (hb | hb | hb) | hb <;> simp [hb]
 have hS1:∀ b∈Bl++F,b∈Bl++Zo FD Y F:=fun b hb=>by
  simp only [Zo,List.mem_append,List.mem_cons] at hb ⊢
  rcases hb with hb | hb <;> simp [hb]
 have nZ:∀ {w' T x' n' B'},Ed dbk pb FD D j (Bl++F) Bl w0 w' T (Br++Y) F M x' n' B'->NewZ (Zo FD (Bl++(Br++Y)) F) w0 (Zo FD (T++(B'++(Br++Y))) F):=fun e b hb=>by
  simp only [Zo,List.mem_append,List.mem_cons] at hb
  rcases hb with (hb | hb | hb | hb | hb | hb) | hb
  ·exact .inl (by simp [hb])
  ·exact .inl (by simp [hb])
  ·exact (e.sg.own b hb).imp (fun h=>hSZ b (hS1 b h)) id
  ·exact (e.bnew b hb).imp (fun h=>hSZ b (hS1 b (e.nsub b h))) id
  ·exact .inl (by simp [hb])
  ·exact .inl (by simp [hb])
  ·exact .inl (by simp [hb])
 have ow:∀ {w' T x' n' B'},Ed dbk pb FD D j (Bl++F) Bl w0 w' T (Br++Y) F M x' n' B'->Opn (Bl++Zo FD Y F) (Zo FD (T++(B'++(Br++Y))) F) w' xr nr pk pv:=fun e=>o.frame e.fr hS1 (fun b hb=>hSZ b (hS1 b hb)) (fun b hb=>.inl hb) (nZ e)
 have hbk:=o.rdK hSZ
 have hbv:=o.rdV hSZ
 have fin:∀ {w' T x' n' B'},Ed dbk pb FD D j (Bl++F) Bl w0 w' T (Br++Y) F M x' n' B'->Fr (Bl++Zo FD Y F) w0 w':=fun e=>e.fr.mono fun b hb _=>hS1 b hb
 have hin:∀ b∈Zo FD Y F,b∈Bl++Zo FD Y F\/w0.heap.size<=b:=fun b hb=>.inl (List.mem_append_right _ hb)
 have hlen:=o.lens
 have kl:=o.klen
 have vl:=o.vlen
 have sk:=sr.keys
 have skr:=sl.keys
 have svr:=sl.vals
 have sir:=sl.kids
 have h:=Own.start [] w0
 refine Own.new' h fun r1 w2 _ _ h=>?_
 refine Own.new' h fun r3 w4 _ _ h=>?_
 refine Own.new' h fun r5 w6 _ _ h=>?_
 refine Own.new' h fun r7 w8 _ _ h=>?_
 refine Own.ld (c:=.bool) h 3 rfl xl.1 rfl ?_
 refine qab (fun hc=>?_) (fun hc=>?_)
 ·rw [hl.1] at hc
  have hcr:nr.leaf=true:=by rw [<- hlf]; exact hc
  have h2:=h2 hcr
  have vl2:=sr.leaf hcr
  have hG:takeN nl nr key=({ nl with keys:=nl.keys++[nr.keys.getD 0 []],vals:=nl.vals++[nr.vals.getD 0 []] },{ nr with keys:=nr.keys.drop 1,vals:=nr.vals.drop 1 },(nr.keys.drop 1).getD 0 []):=by unfold takeN; rw [if_pos hc]
  have hi:0<pk.length:=by omega
  have hiv:0<pv.length:=by omega
  have hi1:0<(pk.drop 1).length:=by rw [List.length_drop]; omega
  have hk1:(nr.keys.drop 1).getD 0 []=(pk.drop 1)[0].2:=by rw [<- o.keys,<- qbC,qco hi1]
  rw [hG,o.keyAt hi,o.valAt hiv,hk1] at kk
  have hb1:IsB pk[0].2:=by rw [<- o.keyAt hi]; exact qaW o.nb.1 _
  have hb2:IsB pv[0].2:=by rw [<- o.valAt hiv]; exact qaW o.nb.2.1 _
  refine ⟨?a1,?a2,?a3⟩
  case' a1=>
   have h:=Own.drew h
   refine Own.ld (c:=.slice) h 3 rfl xl.2.1 rfl ?_
   refine Own.ld (c:=.slice) h 2 rfl xr.2.1 rfl ?_
   refine Rds.getS ((o.rk).frame0 h.fr) 0 rfl hi fun a12 h12=>?_
   refine Own.ld (c:=.slice) h 3 rfl xl.2.2.1 rfl ?_
   refine Own.ld (c:=.slice) h 2 rfl xr.2.2.1 rfl ?_
   refine Rds.getS ((o.rv).frame0 h.fr) 0 rfl hiv fun a16 h16=>?_
   refine Own.new' h fun r18 w19 _ _ h=>?_
   have e:=e0.now h
   refine qay (h16 _ _ (ow e).rv) (h.cell 3 rfl rfl) (h.cell 4 rfl rfl) (h.cell 4 rfl rfl) ?_
   refine e.appK h (by omega) 0 rfl ((ow e).ek _ (List.getElem_mem hi)) hb1 fun s24 B1 w25 e h _=>?_
   refine qao (h16 _ _ (ow e).rv) (h.cell 3 rfl rfl) (h.cell 4 rfl rfl) ?_
   refine Own.new' h fun r29 w30 _ _ h=>?_
   have e:=e.now h
   refine qay (h.cell 5 rfl rfl) (h12 _ _ (ow e).rk) (h.cell 4 rfl rfl) (h.cell 5 rfl rfl) ?_
   refine e.appV h (by dsimp only; omega) 0 rfl ((ow e).ev _ (List.getElem_mem hiv)) hb2 fun s35 B2 w36 e h _=>?_
  case' a2=>
   have h:=Own.drew h
   refine Own.ld (c:=.slice) h 3 rfl xl.2.1 rfl ?_
   refine Own.ld (c:=.slice) h 2 rfl xr.2.1 rfl ?_
   refine Rds.getS ((o.rk).frame0 h.fr) 0 rfl hi fun a12 h12=>?_
   refine Own.ld (c:=.slice) h 3 rfl xl.2.2.1 rfl ?_
   refine Own.ld (c:=.slice) h 2 rfl xr.2.2.1 rfl ?_
   refine Rds.getS ((o.rv).frame0 h.fr) 0 rfl hiv fun a16 h16=>?_
   refine Own.new' h fun r18 w19 _ _ h=>?_
   refine qay (h16 _ _ (ow (e0.now h)).rv) (h.cell 3 rfl rfl) (h.cell 4 rfl rfl) (h.cell 4 rfl rfl) ?_
   refine Own.new' h fun r29 w30 _ _ h=>?_
   have e:=e0.now h
   refine qay (h.cell 5 rfl rfl) (h12 _ _ (ow e).rk) (h.cell 4 rfl rfl) (h.cell 5 rfl rfl) ?_
   refine e.appK h (by omega) 1 rfl ((ow e).ek _ (List.getElem_mem hi)) hb1 fun s24 B1 w25 e h _=>?_
   refine qao (h16 _ _ (ow e).rv) (h.cell 4 rfl rfl) (h.cell 5 rfl rfl) ?_
   refine e.appV h (by dsimp only; omega) 0 rfl ((ow e).ev _ (List.getElem_mem hiv)) hb2 fun s35 B2 w36 e h _=>?_
  case' a3=>
   have h:=Own.drew h
   refine Own.ld (c:=.slice) h 3 rfl xl.2.1 rfl ?_
   refine Own.ld (c:=.slice) h 2 rfl xr.2.1 rfl ?_
   refine Rds.getS ((o.rk).frame0 h.fr) 0 rfl hi fun a12 h12=>?_
   refine Own.ld (c:=.slice) h 3 rfl xl.2.2.1 rfl ?_
   refine Own.ld (c:=.slice) h 2 rfl xr.2.2.1 rfl ?_
   refine Rds.getS ((o.rv).frame0 h.fr) 0 rfl hiv fun a16 h16=>?_
   refine Own.new' h fun r18 w19 _ _ h=>?_
   refine qay (h.cell 4 rfl rfl) (h12 _ _ (ow (e0.now h)).rk) (h.cell 3 rfl rfl) (h.cell 4 rfl rfl) ?_
   refine Own.new' h fun r29 w30 _ _ h=>?_
   have e:=e0.now h
   refine qay (h16 _ _ (ow e).rv) (h.cell 4 rfl rfl) (h.cell 5 rfl rfl) (h.cell 5 rfl rfl) ?_
   refine e.appK h (by omega) 0 rfl ((ow e).ek _ (List.getElem_mem hi)) hb1 fun s24 B1 w25 e h _=>?_
   refine qao (h16 _ _ (ow e).rv) (h.cell 4 rfl rfl) (h.cell 5 rfl rfl) ?_
   refine e.appV h (by dsimp only; omega) 1 rfl ((ow e).ev _ (List.getElem_mem hiv)) hb2 fun s35 B2 w36 e h _=>?_
  all_goals
   refine Own.st' h 5 rfl (ndV (xl.1,s24,xl.2.2.1,xl.2.2.2)) rfl rfl (Nat.le_of_ble_eq_true rfl) fun w37 h _=>?_
   refine Own.st' h 5 rfl (ndV (xl.1,s24,s35,xl.2.2.2)) rfl rfl (Nat.le_of_ble_eq_true rfl) fun w38 h _=>?_
   have h:=Own.drew h
   refine Own.ld (c:=.slice) h 4 rfl xr.2.1 rfl ?_
   refine RdK.from hbk 1 rfl (by omega) fun s40 hs40=>?_
   refine Own.ld (c:=.slice) h 4 rfl xr.2.2.1 rfl ?_
   refine RdK.from hbv 1 rfl (by omega) fun s42 hs42=>?_
   refine Own.st' h 4 rfl (ndV (xr.1,s40,xr.2.2.1,xr.2.2.2)) rfl rfl (Nat.le_of_ble_eq_true rfl) fun w43 h _=>?_
   refine Own.st' h 4 rfl (ndV (xr.1,s40,s42,xr.2.2.2)) rfl rfl (Nat.le_of_ble_eq_true rfl) fun w44 h _=>?_
   have h:=Own.drew h
   refine Own.ldA (cl:=qaa) h 5 rfl (xl.1,s24,s35,xl.2.2.2) rfl ?_
   refine Own.ldA (cl:=qaa) h 4 rfl (xr.1,s40,s42,xr.2.2.2) rfl ?_
   refine Own.ld (c:=.slice) h 4 rfl s40 rfl ?_
   refine Rds.getS (hs40.frame (fin (e.now h)) fun b hb=>.inl hb).1 0 rfl hi1 fun a48 h48=>?_
   refine Own.st' h 3 rfl (ndV (xl.1,s24,s35,xl.2.2.2)) rfl rfl (Nat.le_of_ble_eq_true rfl) fun w50 h _=>?_
   refine qao (h48 _ _ (hs40.frame (fin (e.now h)) fun b hb=>.inl hb).1) (h.cell 4 rfl rfl) (h.cells 4 rfl rfl) ?_
   refine Own.st' h 2 rfl (ndV (xr.1,s40,s42,xr.2.2.2)) rfl rfl (Nat.le_of_ble_eq_true rfl) fun w54 h _=>?_
   refine qap (h48 _ _ (hs40.frame (fin (e.now h)) fun b hb=>.inl hb).1) (h.cell 4 rfl rfl) ?_
   refine Own.ldA (cl:=qaa) h 3 rfl (xl.1,s24,s35,xl.2.2.2) rfl ?_
   refine Own.ldA (cl:=qaa) h 2 rfl (xr.1,s40,s42,xr.2.2.2) rfl ?_
   have e:=e.now h
   have hR:=e.nodeR.weak (S':=Zo FD Y F) fun b hb=>.inl (qgF b hb)
   have hs40':=hs40.frame (fin e) hin
   exact kk (xl.1,s24,s35,xl.2.2.2) (xr.1,s40,s42,xr.2.2.2) _ w54 (e.tw'.weakY fun b hb=>by simp [hb]) hR ⟨hlen.leaf,⟨fun a ha=>o.nb.1 a (List.mem_of_mem_drop ha),fun a ha=>o.nb.2.1 a (List.mem_of_mem_drop ha),o.nb.2.2⟩,⟨_,hs40',by rw [qbC,o.keys]⟩,⟨_,hs42.frame (fin e) hin,by rw [qbC,o.vals]⟩,o.ri.frame (fin e) hin⟩
    (hs40'.2 _ (List.getElem_mem hi1)) e.fr
 ·rw [hl.1] at hc
  have hnl:¬ nl.leaf=true:=by rw [hc]; decide
  have il:=sr.inner (by rw [<- hlf]; exact hc)
  have hG:takeN nl nr key=({ nl with keys:=nl.keys++[key],kids:=nl.kids++[nr.kids.getD 0 0] },{ nr with keys:=nr.keys.drop 1,kids:=nr.kids.drop 1 },nr.keys.getD 0 []):=by unfold takeN; rw [if_neg hnl]
  have hi:0<pk.length:=by omega
  have hik:0<nr.kids.length:=by omega
  rw [hG,o.keyAt hi,qcu hik] at kk
  have hb1:U32 nr.kids[0]:=o.nb.2.2 _ (List.getElem_mem hik)
  have kw:∀ {w' T x' n' B'},Ed dbk pb FD D j (Bl++F) Bl w0 w' T (Br++Y) F M x' n' B'->RdB (Zo FD (T++(B'++(Br++Y))) F) w' ks key:=fun e=>hk.frame (e.fr.mono fun b hb _=>hSZ b (hS1 b hb)) (nZ e)
  refine Own.ld (c:=.slice) h 2 rfl xr.2.1 rfl ?_
  refine Rds.getS ((o.rk).frame0 h.fr) 0 rfl hi fun a158 h158=>?_
  refine ⟨?b1,?b2,?b3⟩
  case' b1=>
   have h:=Own.drew h
   refine Own.ld (c:=.slice) h 3 rfl xl.2.1 rfl ?_
   refine Own.ld (c:=.slice) h 3 rfl xl.2.2.2 rfl ?_
   refine Own.ld (c:=.slice) h 2 rfl xr.2.2.2 rfl ?_
   refine Rds.getU ((o.ri).frame0 h.fr) 0 rfl hik fun a13 h13=>?_
   refine Own.new' h fun r165 w166 _ _ h=>?_
   have e:=e0.now h
   refine qay (h13 _ _ (ow e).ri) (h.cell 3 rfl rfl) (h.cell 4 rfl rfl) (h.cell 4 rfl rfl) ?_
   refine e.appK h (by omega) 0 rfl (kw e) hkB fun s24 B1 w26 e h _=>?_
   refine qao (h13 _ _ (ow e).ri) (h.cell 3 rfl rfl) (h.cell 4 rfl rfl) ?_
   refine Own.new' h fun r176 w177 _ _ h=>?_
   have e:=e.now h
   refine qap (h.cell 5 rfl rfl) (h.cell 5 rfl rfl) ?_
   refine e.appI h (by dsimp only; omega) 0 rfl hb1 fun s35 B2 w37 e h _=>?_
  case' b2=>
   have h:=Own.drew h
   refine Own.ld (c:=.slice) h 3 rfl xl.2.1 rfl ?_
   refine Own.ld (c:=.slice) h 3 rfl xl.2.2.2 rfl ?_
   refine Own.ld (c:=.slice) h 2 rfl xr.2.2.2 rfl ?_
   refine Rds.getU ((o.ri).frame0 h.fr) 0 rfl hik fun a13 h13=>?_
   refine Own.new' h fun r165 w166 _ _ h=>?_
   refine qay (h13 _ _ (ow (e0.now h)).ri) (h.cell 3 rfl rfl) (h.cell 4 rfl rfl) (h.cell 4 rfl rfl) ?_
   refine Own.new' h fun r176 w177 _ _ h=>?_
   have e:=e0.now h
   refine qap (h.cell 5 rfl rfl) (h.cell 5 rfl rfl) ?_
   refine e.appK h (by omega) 1 rfl (kw e) hkB fun s24 B1 w26 e h _=>?_
   refine qao (h13 _ _ (ow e).ri) (h.cell 4 rfl rfl) (h.cell 5 rfl rfl) ?_
   refine e.appI h (by dsimp only; omega) 0 rfl hb1 fun s35 B2 w37 e h _=>?_
  case' b3=>
   have h:=Own.drew h
   refine Own.ld (c:=.slice) h 3 rfl xl.2.1 rfl ?_
   refine Own.ld (c:=.slice) h 3 rfl xl.2.2.2 rfl ?_
   refine Own.ld (c:=.slice) h 2 rfl xr.2.2.2 rfl ?_
   refine Rds.getU ((o.ri).frame0 h.fr) 0 rfl hik fun a13 h13=>?_
   refine Own.new' h fun r165 w166 _ _ h=>?_
   refine qap (h.cell 4 rfl rfl) (h.cell 4 rfl rfl) ?_
   refine Own.new' h fun r176 w177 _ _ h=>?_
   have e:=e0.now h
   refine qay (h13 _ _ (ow e).ri) (h.cell 4 rfl rfl) (h.cell 5 rfl rfl) (h.cell 5 rfl rfl) ?_
   refine e.appK h (by omega) 0 rfl (kw e) hkB fun s24 B1 w26 e h _=>?_
   refine qao (h13 _ _ (ow e).ri) (h.cell 4 rfl rfl) (h.cell 5 rfl rfl) ?_
   refine e.appI h (by dsimp only; omega) 1 rfl hb1 fun s35 B2 w37 e h _=>?_
  all_goals
   refine Own.st' h 5 rfl (ndV (xl.1,s24,xl.2.2.1,xl.2.2.2)) rfl rfl (Nat.le_of_ble_eq_true rfl) fun w37 h _=>?_
   refine Own.st' h 5 rfl (ndV (xl.1,s24,xl.2.2.1,s35)) rfl rfl (Nat.le_of_ble_eq_true rfl) fun w38 h _=>?_
   have h:=Own.drew h
   refine Own.ld (c:=.slice) h 4 rfl xr.2.1 rfl ?_
   refine RdK.from hbk 1 rfl (by omega) fun s40 hs40=>?_
   refine Own.ld (c:=.slice) h 4 rfl xr.2.2.2 rfl ?_
   refine Rds.from1 o.ri 1 rfl (by omega) fun s42 hs42=>?_
   refine Own.st' h 4 rfl (ndV (xr.1,s40,xr.2.2.1,xr.2.2.2)) rfl rfl (Nat.le_of_ble_eq_true rfl) fun w43 h _=>?_
   refine Own.st' h 4 rfl (ndV (xr.1,s40,xr.2.2.1,s42)) rfl rfl (Nat.le_of_ble_eq_true rfl) fun w44 h _=>?_
   have h:=Own.drew h
   refine Own.ldA (cl:=qaa) h 5 rfl (xl.1,s24,xl.2.2.1,s35) rfl ?_
   refine Own.ldA (cl:=qaa) h 4 rfl (xr.1,s40,xr.2.2.1,s42) rfl ?_
   refine Own.st' h 3 rfl (ndV (xl.1,s24,xl.2.2.1,s35)) rfl rfl (Nat.le_of_ble_eq_true rfl) fun w50 h _=>?_
   refine qah (h.cells 4 rfl rfl) ?_
   refine Own.st' h 2 rfl (ndV (xr.1,s40,xr.2.2.1,s42)) rfl rfl (Nat.le_of_ble_eq_true rfl) fun w54 h _=>?_
   refine Own.ldA (cl:=qaa) h 3 rfl (xl.1,s24,xl.2.2.1,s35) rfl ?_
   refine Own.ldA (cl:=qaa) h 2 rfl (xr.1,s40,xr.2.2.1,s42) rfl ?_
   have e:=e.now h
   have hR:=e.nodeR.weak (S':=Zo FD Y F) fun b hb=>.inl (qgF b hb)
   exact kk (xl.1,s24,xl.2.2.1,s35) (xr.1,s40,xr.2.2.1,s42) _ w54 (e.tw'.weakY fun b hb=>by simp [hb]) hR ⟨hlen.leaf,⟨fun a ha=>o.nb.1 a (List.mem_of_mem_drop ha),o.nb.2.1,fun a ha=>o.nb.2.2 a (List.mem_of_mem_drop ha)⟩,⟨_,hs40.frame (fin e) hin,by rw [qbC,o.keys]⟩,⟨_,hbv.frame (fin e) hin,o.vals⟩,hs42.frame (fin e) hin⟩
    (((ow e).ek _ (List.getElem_mem hi)).frame (.refl _ _) fun b hb=>.inl (by
     simp only [Zo,List.mem_append,List.mem_cons] at hb ⊢
     rcases hb with (hb | hb | hb) | hb <;> simp [hb])) e.fr
end
end
section
section
variable {dbk pb j:Nat} {FD S S0 S1 N0 Y Y1 F F' T B Bl Br Bn:List Nat} {D:DiskM} {w0 wa w w':World} {M M':PgM} {L:List (Nat×Obj)} {x xl xr:NdC} {n nl nr:NodeM} {k v:Nat} {t:Int}
theorem qtF (g:Sg S0 w0 wa F T) (hS:∀ b∈S0,b∈S1):Sg S1 w0 wa F T:=⟨g.tot.mono fun b hb _=>hS b hb,fun b hb=>(g.new b hb).imp (hS b) id,fun b hb=>(g.own b hb).imp (hS b) id⟩
structure Oth (FD F:List Nat) (w:World) (T R:List Nat) (x:NdC) (n:NodeM) (B:List Nat):Prop where
 node:NodeB (Zo FD (T++R) F) w x n B
 sep:∀ b∈T,b∉B
theorem Oth.now {R:List Nat} (o:Oth FD F wa T R x n B) (h:Own T wa w L):Oth FD F w (bks L) R x n B:=
 ⟨o.node.frame h.fr (fun b hb hm=>o.sep b hm hb) (fun b hb=>.inl (by simp [hb])) (qj5 h),fun b hb hm=>by
  obtain ⟨q,hq,rfl⟩:=List.mem_map.1 hb
  rcases h.own q hq with h1 | h1
  ·exact o.sep _ h1 hm
  ·have:=o.node.lt _ hm; omega⟩
theorem Ed.base {Z:List Nat} (e:Ed dbk pb FD D j S0 N0 w0 w T Y F M x n B) (hS:∀ b∈S0,b∈Z) (hFD:∀ b∈FD,b∈Z) (hHG:HG∈Z) (hY:∀ b∈Y,b∈Z):NewZ Z w0 (Zo FD (T++(B++Y)) F):=fun b hb=>by
 simp only [Zo,List.mem_append,List.mem_cons] at hb
 rcases hb with (hb | hb | hb | hb | hb) | hb
 ·exact .inl (hFD b hb)
 ·rw [hb]; exact .inl hHG
 ·exact (e.sg.own b hb).imp (hS b) id
 ·exact (e.bnew b hb).imp (fun h=>hS b (e.nsub b h)) id
 ·exact .inl (hY b hb)
 ·exact (e.sg.new b hb).imp (hS b) id
theorem Ed.other {Z:List Nat} (e:Ed dbk pb FD D j S0 N0 w0 w T Y F M x n B) (hn:NodeB Z w0 xl nl Bn) (hd:∀ b∈Bn,b∉S0) (hS:∀ b∈S0,b∈Z) (hFD:∀ b∈FD,b∈Z) (hHG:HG∈Z) (hY:∀ b∈Y,b∈Z) (hYn:∀ b∈Bn++Y1,b∈Y) (hny:∀ b∈Bn,b∉Y1) (hlt:∀ b∈Bn,b<w0.heap.size) :
  Ed dbk pb FD D j (Bn++S0) Bn w0 w T Y1 F M xl nl Bn:=by
 have hz:=e.base hS hFD hHG hY
 have hsub:∀ b∈Zo FD (T++(Bn++Y1)) F,b∈Zo FD (T++(B++Y)) F:=fun b hb=>by
  simp only [Zo,List.mem_append,List.mem_cons] at hb ⊢
  have h2:=fun h=>hYn b h
  simp only [List.mem_append] at h2
  rcases hb with (hb | hb | hb | hb | hb) | hb
  ·simp [hb]
  ·simp [hb]
  ·simp [hb]
  ·simp [h2 (.inl hb)]
  ·simp [h2 (.inr hb)]
  ·simp [hb]
 refine ⟨qtF e.sg fun b hb=>List.mem_append_right _ hb,e.tw.weakY fun b hb=>?_,hn.frame e.fr hd (fun b hb=>.inl (hS b hb)) fun b hb=>hz b (hsub b hb),fun b hb hm=>?_,fun b hb=>.inl hb,fun b hb=>List.mem_append_left _ hb,hny⟩
 ·rcases List.mem_append.1 hb with hb | hb
  ·simp [hb]
  ·exact List.mem_append_right _ (List.mem_append_right _ (hYn b hb))
 ·rcases e.sg.own b hb with h1 | h1
  ·exact hd b hm h1
  ·have:=hlt b hm; omega
theorem quw:∀ b∈Bn++(Br++Y),b∈Zo FD (Bl++(Bn++(Br++Y))) F:=fun b hb=>by
 simp only [Zo,List.mem_append,List.mem_cons] at hb ⊢
 rcases hb with h | h | h <;> simp [h]
theorem qt6:∀ b∈Bn++Y,b∈Bn++(Br++Y):=fun b hb=>by
 simp only [List.mem_append] at hb ⊢
 rcases hb with h | h <;> simp [h]
theorem qui:∀ b∈Zo FD (T++(Bn++Y)) F,b∈Zo FD (T++(Bn++(Br++Y))) F:=fun b hb=>by
 simp only [Zo,List.mem_append,List.mem_cons] at hb ⊢
 rcases hb with (h | h | h | h | h) | h <;> simp [h]
theorem qr5 {i:Nat} {K:NdC×Int->World->Prop} (hT:TW dbk pb FD D j w0 (Bl++(Bn++(Br++Y))) F M) (hl:NodeB (Zo FD (Bl++(Bn++(Br++Y))) F) w0 xl nl Bl) (hn:NodeB (Zo FD (Bl++(Bn++(Br++Y))) F) w0 x n Bn) (hr:NodeB (Zo FD (Bl++(Bn++(Br++Y))) F) w0 xr nr Br)
  (d1:∀ b∈Bl,b∉Bn) (d2:∀ b∈Bl,b∉Br) (d3:∀ b∈Bl,b∉Y) (d4:∀ b∈Bn,b∉Br) (d5:∀ b∈Bn,b∉Y) (sl:ShapeN nl) (sr:ShapeN nr) (sn:ShapeN n) (hi:i<n.keys.length) (hnl:n.leaf=false)
  (kk:∀ yn B' F' w',TW dbk pb FD D j w' (B'++Y) F' (joinM k v M n i nl nr).2->NodeB (Zo FD (B'++Y) F') w' yn (joinM k v M n i nl nr).1.1 B'->Fr (Bn++(Bl++F)) w0 w'->(∀ b∈B',b∈Bn\/w0.heap.size<=b)->(∀ b∈F',b∈Bn++(Bl++F)\/w0.heap.size<=b)->K (yn,(joinM k v M n i nl nr).1.2) w') :
  call Tryz.prog 179 [.agg (wkV (wkX k v pb t)),.agg (ndV x),.int .i64 i,.agg (ndV xl),.agg (ndV xr)] [.agg qaa,.one (.int .i64)] w0 K:=by
 refine qhK (w_0:=(wkX k v pb t).1) (w_1:=(wkX k v pb t).2.1) (w_2:=(wkX k v pb t).2.2.1) (w_3:=(wkX k v pb t).2.2.2.1) (w_4:=(wkX k v pb t).2.2.2.2.1) (w_5:=(wkX k v pb t).2.2.2.2.2) (n0:=x.1) (n1:=x.2.1) (n2:=x.2.2.1) (n3:=x.2.2.2) (i:=i) (left0:=xl.1) (left1:=xl.2.1) (left2:=xl.2.2.1) (left3:=xl.2.2.2) (right0:=xr.1) (right1:=xr.2.1) (right2:=xr.2.2.1) (right3:=xr.2.2.2) ?_
 unfold qdE
 have e0:Ed dbk pb FD D j (Bl++F) Bl w0 w0 [] (Bn++(Br++Y)) F M xl nl Bl:=⟨⟨.refl _ _,fun b hb=>.inl (by simp [hb]),fun _ h=>nomatch h⟩,hT,hl,fun _ h=>(nomatch h),fun b hb=>.inl hb,fun b hb=>by simp [hb],fun b hb hm=>by
  simp only [List.mem_append] at hm
  rcases hm with hm | hm | hm
  ·exact d1 b hb hm
  ·exact d2 b hb hm
  ·exact d3 b hb hm⟩
 have hF:∀ {Bx:List Nat},(∀ b∈Bx,b∈Bn\/b∈Br)->(∀ b∈Bx,b∉Bl)->∀ b∈Bx,b∉Bl++F:=fun h1 h2 b hb hm=>(List.mem_append.1 hm).elim (h2 b hb) fun hm=>hT.yf b (by rcases h1 b hb with h | h <;> simp [h]) hm
 have dn:=hF (Bx:=Bn) (fun b hb=>.inl hb) fun b hb hm=>d1 b hm hb
 obtain ⟨nk,nv,on⟩:=hn.opn (S0:=Bl++F) dn
 obtain ⟨rk,rv,orr⟩:=hr.opn (S0:=Bl++F) (hF (fun b hb=>.inr hb) fun b hb hm=>d2 b hm hb)
 have hSZ:∀ b∈Bl++F,b∈Zo FD (Bl++(Bn++(Br++Y))) F:=fun b hb=>by
  rcases List.mem_append.1 hb with hb | hb <;> simp [hb]
 have nZ:∀ {w' T x' n' B'},Ed dbk pb FD D j (Bl++F) Bl w0 w' T (Bn++(Br++Y)) F M x' n' B'->NewZ (Zo FD (Bl++(Bn++(Br++Y))) F) w0 (Zo FD (T++(B'++(Bn++(Br++Y)))) F):=fun e=>e.base hSZ (fun b hb=>by simp [hb]) (by simp) fun b hb=>by simp only [Zo,List.mem_append,List.mem_cons] at hb ⊢; rcases hb with h | h | h <;> simp [h]
 have nw:∀ {w' T x' n' B'},Ed dbk pb FD D j (Bl++F) Bl w0 w' T (Bn++(Br++Y)) F M x' n' B'->Opn (Bl++F) (Zo FD (T++(B'++(Bn++(Br++Y)))) F) w' x n nk nv:=fun e=>on.frame e.fr (fun b hb=>hb) hSZ (fun b hb=>.inl hb) (nZ e)
 have rw_:∀ {w' T x' n' B'},Ed dbk pb FD D j (Bl++F) Bl w0 w' T (Bn++(Br++Y)) F M x' n' B'->Opn (Bl++F) (Zo FD (T++(B'++(Bn++(Br++Y)))) F) w' xr nr rk rv:=fun e=>orr.frame e.fr (fun b hb=>hb) hSZ (fun b hb=>.inl hb) (nZ e)
 have hkk:i<nk.length:=by rw [on.klen]; exact hi
 have hkl:=sn.inner hnl
 have hki:i<n.kids.length:=by omega
 have hki1:i+1<n.kids.length:=by omega
 have z1:=sl.keys
 have z2:=sl.vals
 have z3:=sl.kids
 have z4:=sr.keys
 have z5:=sr.vals
 have z6:=sr.kids
 have z7:=sn.keys
 have z8:=sn.kids
 have rkl:=orr.klen
 have rvl:=orr.vlen
 have h:=Own.start [] w0
 refine Own.new' h fun r1 w2 _ _ h=>?_
 refine Own.new' h fun r3 w4 _ _ h=>?_
 refine Own.new' h fun r5 w6 _ _ h=>?_
 refine Own.new' h fun r7 w8 _ _ h=>?_
 refine Own.new' h fun r9 w10 _ _ h=>?_
 refine qag (fun _ w'=>∃ s20 B',Own [r9,r7,r5,r3,r1] w' w' [(r9,.cells (ndV zeroX) ND (0,0)),(r7,.cells (ndV xr) ND (0,0)),(r5,.cells (ndV (xl.1,s20,xl.2.2)) ND (0,0)),(r3,.cells (ndV x) ND (0,0)),(r1,.cells (wkV (wkX k v pb t)) WK (0,0))]/\
  Ed dbk pb FD D j (Bl++F) Bl w0 w' [r9,r7,r5,r3,r1] (Bn++(Br++Y)) F M (xl.1,s20,xl.2.2) { nl with keys:=if nl.leaf then nl.keys else nl.keys++[n.keys.getD i []] } B') ?_ ?_
 ·refine Own.ld (c:=.bool) h 2 rfl xl.1 rfl ?_
  refine qab (fun hc=>?_) (fun hc=>?_)
  ·have hc:nl.leaf=false:=by rw [hl.1,Bool.not_eq_true'] at hc; exact hc
   rw [if_neg (show ¬ nl.leaf=true by rw [hc]; decide),on.keyAt hkk]
   have h:=Own.drew h
   refine Own.ld (c:=.slice) h 2 rfl xl.2.1 rfl ?_
   refine Own.ld (c:=.slice) h 3 rfl x.2.1 rfl ?_
   refine Rds.get (c:=.slice) (on.rk.frame0 h.fr) i rfl (x:=nk[i].1) (by rw [List.getElem?_map,List.getElem?_eq_getElem hkk]; rfl) (y:=nk[i].1) rfl ?_
   refine Own.new' h fun r17 w18 _ _ h=>?_
   refine qah (h.cell 3 rfl rfl) ?_
   have e:=e0.now h
   refine e.appK h (by omega) 0 rfl ((nw e).ek _ (List.getElem_mem hkk)) (by rw [<- on.keyAt hkk]; exact qaW on.nb.1 _) fun s20 B1 w21 e h _=>?_
   refine Own.st' h 3 rfl (ndV (xl.1,s20,xl.2.2)) rfl rfl (Nat.le_of_ble_eq_true rfl) fun w22 h _=>?_
   exact ⟨s20,B1,qal h (.cons _ (.refl _)),(e.now h).sub (by simp)⟩
  ·have hc:nl.leaf=true:=by rw [hl.1,Bool.not_eq_false'] at hc; exact hc
   rw [if_pos hc]
   exact ⟨xl.2.1,Bl,qal h (.refl _),e0.now h⟩
 rintro _ w24 ⟨s20,B1,h,e⟩
 have e:=e.now h
 have h:=qal h (.refl _)
 refine Own.ld (c:=.slice) h 2 rfl s20 rfl ?_
 refine Own.ld (c:=.slice) h 1 rfl xr.2.1 rfl ?_
 have hkl2:(if nl.leaf then nl.keys else nl.keys++[n.keys.getD i []]).length<=2001:=by
  split
  ·omega
  ·rw [List.length_append,List.length_singleton]; omega
 refine e.appAllK h (by dsimp only; omega) (rw_ e).rk (rw_ e).ek (by rw [orr.keys]; exact orr.nb.1) fun s27 B2 w28 e h _=>?_
 rw [orr.keys] at e
 refine Own.st' h 2 rfl (ndV (xl.1,s27,xl.2.2.1,xl.2.2.2)) rfl rfl (Nat.le_of_ble_eq_true rfl) fun w29 h _=>?_
 refine Own.ld (c:=.slice) h 2 rfl xl.2.2.1 rfl ?_
 refine Own.ld (c:=.slice) h 1 rfl xr.2.2.1 rfl ?_
 have e:=e.now h
 refine e.appAllV h (by dsimp only; omega) (rw_ e).rv (rw_ e).ev (by rw [orr.vals]; exact orr.nb.2.1) fun s32 B3 w33 e h _=>?_
 rw [orr.vals] at e
 refine Own.st' h 2 rfl (ndV (xl.1,s27,s32,xl.2.2.2)) rfl rfl (Nat.le_of_ble_eq_true rfl) fun w34 h _=>?_
 refine Own.ld (c:=.slice) h 2 rfl xl.2.2.2 rfl ?_
 refine Own.ld (c:=.slice) h 1 rfl xr.2.2.2 rfl ?_
 have e:=e.now h
 refine e.appAllI h (by dsimp only; omega) (rw_ e).ri orr.nb.2.2 fun s37 B4 w38 e h _=>?_
 refine Own.st' h 2 rfl (ndV (xl.1,s27,s32,s37)) rfl rfl (Nat.le_of_ble_eq_true rfl) fun w39 h _=>?_
 have h:=Own.drew h
 have e:=e.now h
 have h:=qal h (.refl _)
 refine Own.ldA (cl:=qaf) h 4 rfl (wkX k v pb t) rfl ?_
 refine Own.ld (c:=.slice) h 3 rfl x.2.2.2 rfl ?_
 refine Rds.get (c:=.int .u32) (nw e).ri i rfl (x:=n.kids[i]) (List.getElem?_eq_getElem hki) (y:=n.kids[i]) rfl ?_
 refine Own.ldA (cl:=qaa) h 2 rfl (xl.1,s27,s32,s37) rfl ?_
 have hJ:({ leaf:=nl.leaf,keys:=(if nl.leaf then nl.keys else nl.keys++[n.keys.getD i []])++nr.keys,vals:=nl.vals++nr.vals,kids:=nl.kids++nr.kids }:NodeM)=joinN nl nr (n.keys.getD i []):=rfl
 have hgd:n.kids.getD i 0=n.kids[i]:=qcu hki
 have hgd1:n.kids.getD (i+1) 0=n.kids[i+1]:=qcu hki1
 unfold joinM at kk
 rw [hgd,hgd1,<- hJ] at kk
 have hNR:=e.nodeR.weak (fun b hb=>.inl (qui b hb))
 have e:=e.other hn dn hSZ (fun b hb=>by simp [hb]) (by simp) quw (Y1:=Y) qt6 d5 hn.lt
 refine qa7 e.tw hNR (by dsimp only; rw [List.length_append]; omega) (by dsimp only; rw [List.length_append]; omega) (by dsimp only; rw [List.length_append]; omega) fun F1 w46 hT46 f46 n46=>?_
 obtain ⟨e,h⟩:=e.next h hT46 f46 n46
 generalize hst:storeN k v M n.kids[i] { leaf:=nl.leaf,keys:=(if nl.leaf then nl.keys else nl.keys++[n.keys.getD i []])++nr.keys,vals:=nl.vals++nr.vals,kids:=nl.kids++nr.kids }=st at kk e ⊢
 have hu:U32 st.1.1:=by rw [<- hst]; exact qa6 hT.wf (hn.2.1.2.2 _ (List.getElem_mem hki))
 obtain ⟨⟨at1,es⟩,M1⟩:=st
 dsimp only at kk e hu ⊢
 refine qag (fun er w'=>∃ F2,er=(if es=0 then (dropV M1 n.kids[i+1]).1 else es)/\Own [r9,r7,r5,r3,r1] w' w' [(r9,.cells (ndV zeroX) ND (0,0)),(r7,.cells (ndV xr) ND (0,0)),(r5,.cells (ndV (xl.1,s27,s32,s37)) ND (0,0)),(r3,.cells (ndV x) ND (0,0)),(r1,.cells (wkV (wkX k v pb t)) WK (0,0))]/\
  Ed dbk pb FD D j (Bn++(Bl++F)) Bn w0 w' [r9,r7,r5,r3,r1] Y F2 (if es=0 then (dropV M1 n.kids[i+1]).2 else M1) x n Bn) ?_ ?_
 ·refine qab (fun hc=>?_) (fun hc=>?_)
  ·have hc:es=0:=beq_iff_eq.1 hc
   rw [if_pos hc,if_pos hc]
   have h:=Own.drew h
   refine Own.ld (c:=.ptr) h 4 rfl (some ⟨pb,0,none⟩) rfl ?_
   refine Own.ld (c:=.slice) h 3 rfl x.2.2.2 rfl ?_
   have e:=e.now h
   have ew:IntKind.wrap .i64 ((i:Int)+1)=((i+1:Nat):Int):=qbg (by omega)
   refine Rds.get (c:=.int .u32) e.kidsR (i+1) ew (x:=n.kids[i+1]) (List.getElem?_eq_getElem hki1) (y:=n.kids[i+1]) rfl ?_
   refine TW.drop e.tw fun F2 w53 hT53 f53 n53=>?_
   obtain ⟨e,h⟩:=e.next h hT53 f53 n53
   exact ⟨F2,rfl,h,e⟩
  ·have hc:¬ es=0:=beq_eq_false_iff_ne.1 hc
   rw [if_neg hc,if_neg hc]
   exact ⟨F1,rfl,h,e⟩
 rintro er w55 ⟨F2,rfl,h,e⟩
 have e:=e.now h
 have h:=qal h (.refl _)
 have hk1:∀ {A B:(NodeM×Int)×PgM},(if es≠0 then A else B)=if es=0 then B else A:=by
  intro A B
  by_cases h:es=0
  ·rw [if_neg (fun h'=>h' h),if_pos h]
  ·rw [if_pos h,if_neg h]
 rw [hk1] at kk
 refine qab (fun hc=>?_) (fun hc=>?_)
 ·have hc:(if es=0 then (dropV M1 n.kids[i+1]).1 else es)≠0:=by
   rw [Bool.not_eq_true'] at hc
   exact beq_eq_false_iff_ne.1 hc
  refine Own.st' h 0 rfl (ndV zeroX) rfl rfl (Nat.le_of_ble_eq_true rfl) fun w56 h _=>?_
  refine Own.ldA (cl:=qaa) h 0 rfl zeroX rfl ?_
  have e:=e.now h
  by_cases h0:es=0
  ·rw [if_pos h0] at kk hc e ⊢
   rw [if_pos hc] at kk
   exact kk zeroX [] F2 w56 e.tw'.drop0 (.zero _ _) e.fr (fun _ h=>(nomatch h)) e.sg.new
  ·rw [if_neg h0] at kk hc e ⊢
   exact kk zeroX [] F2 w56 e.tw'.drop0 (.zero _ _) e.fr (fun _ h=>(nomatch h)) e.sg.new
 ·have hc:(if es=0 then (dropV M1 n.kids[i+1]).1 else es)=0:=by
   rw [Bool.not_eq_false'] at hc
   exact beq_iff_eq.1 hc
  by_cases h0:es=0
  ·rw [if_pos h0] at kk hc e
   rw [if_neg (fun h=>h hc)] at kk
   refine Own.ld (c:=.slice) h 3 rfl x.2.2.2 rfl ?_
   refine e.setI h (i:=i) hki rfl hu fun B1 w60 e h _=>?_
   have h:=Own.drew h
   refine Own.ld (c:=.slice) h 3 rfl x.2.2.2 rfl ?_
   refine Own.ld (c:=.slice) h 3 rfl x.2.1 rfl ?_
   have e:=e.now h
   have ew:IntKind.wrap .i64 ((i:Int)+1)=((i+1:Nat):Int):=qbg (by omega)
   have ew2:IntKind.wrap .i64 ((i:Int)+2)=((i+1+1:Nat):Int):=by rw [wi' _ (by omega)]; omega
   refine e.delI h (i:=i+1) (by dsimp only; rw [List.length_set]; omega) ew ew2 (by dsimp only; rw [List.length_set]; omega) fun s63 B2 w64 e h _=>?_
   refine qah (h.cell 3 rfl rfl) ?_
   refine e.delK h (i:=i) hi rfl ew (by dsimp only; omega) fun s66 B3 w67 e h _=>?_
   refine Own.st' h 3 rfl (ndV (x.1,x.2.1,x.2.2.1,s63)) rfl rfl (Nat.le_of_ble_eq_true rfl) fun w68 h _=>?_
   refine Own.st' h 3 rfl (ndV (x.1,s66,x.2.2.1,s63)) rfl rfl (Nat.le_of_ble_eq_true rfl) fun w69 h _=>?_
   refine Own.ldA (cl:=qaa) h 3 rfl (x.1,s66,x.2.2.1,s63) rfl ?_
   refine Own.st' h 0 rfl (ndV (x.1,s66,x.2.2.1,s63)) rfl rfl (Nat.le_of_ble_eq_true rfl) fun w71 h _=>?_
   refine Own.ldA (cl:=qaa) h 0 rfl (x.1,s66,x.2.2.1,s63) rfl ?_
   have e:=e.now h
   refine kk (x.1,s66,x.2.2.1,s63) B3 F2 w71 e.tw.drop0 (e.node.weak fun b hb=>.inl (by
    simp only [Zo,List.mem_append,List.mem_cons] at hb ⊢
    rcases hb with (hb | hb | hb | hb) | hb <;> simp [hb])) e.fr e.bnew e.sg.new
  ·rw [if_neg h0] at hc
   exact absurd hc h0
end
end
section
section
variable {D:DiskM} {M:PgM} {k v side c:Nat} {n nx ny:NodeM}
theorem qsC {e:Int} (h:loadN D M k v (n.kids.getD side 0)=(ny,e)) (he:e≠0):evenM D k v M n side c nx=((zeroN,e),M):=by
 unfold evenM; rw [h,if_pos he]
theorem qq0 (h:loadN D M k v (n.kids.getD side 0)=(ny,0)) (hs:¬ spareN ny k v):evenM D k v M n side c nx=joinM k v M n (if side<c then side else c) (if side<c then ny else nx) (if side<c then nx else ny):=by
 unfold evenM; rw [h,if_neg (fun h=>h rfl)]
 by_cases hsd:side<c
 ·rw [if_pos hsd,if_pos hsd,if_pos hsd,if_pos hsd,if_pos hs]
 ·rw [if_neg hsd,if_neg hsd,if_neg hsd,if_neg hsd,if_pos hs]
theorem qrC (h:loadN D M k v (n.kids.getD side 0)=(ny,0)) (hs:spareN ny k v):evenM D k v M n side c nx=bothM k v M n (if side<c then side else c) (if side<c then giveN ny nx (n.keys.getD side []) else takeN nx ny (n.keys.getD c [])):=by
 unfold evenM; rw [h,if_neg (fun h=>h rfl)]
 by_cases hsd:side<c
 ·rw [if_pos hsd,if_pos hsd,if_pos hsd,if_neg (fun h=>h hs)]
 ·rw [if_neg hsd,if_neg hsd,if_neg hsd,if_neg (fun h=>h hs)]
theorem qio {n:NodeM} {k v:Nat} (h:rightV n k v):ShapeN n:=by
 obtain ⟨l1,l2,l3,l4,l5⟩:=qc4 h
 exact ⟨fun h=>(l4 h).1,fun h=>(l5 h).1.symm,by omega,by omega,by omega⟩
theorem qpT (hc:CapsOk k v) (hs:spareN n k v) (sn:ShapeN n):1<=n.keys.length/\(n.leaf=true->2<=n.keys.length):=by
 have c1:=hc.leaf
 have c2:=hc.inner
 unfold spareN at hs
 unfold sizeN at hs
 cases hl:n.leaf with
 | true=>rw [hl,if_pos rfl] at hs; dsimp only at hs; exact ⟨by omega,fun _=>by omega⟩
 | false=>
  have:=sn.inner hl
  rw [hl,if_neg (by decide)] at hs
  dsimp only at hs
  exact ⟨by omega,fun h=>nomatch h⟩
end
section
variable {dbk pb j:Nat} {FD S S0 N0 Y F F' T B Bl Br Bn Bx By:List Nat} {D:DiskM} {w0 wa w w' w7:World} {M M':PgM} {L:List (Nat×Obj)} {x xx xy:NdC} {n nx ny:NodeM} {k v:Nat} {t:Int}
theorem Ed.more (e:Ed dbk pb FD D j S0 N0 w0 w (bks L) Y F M x n B) (h:Own T wa w L) (hT:TW dbk pb FD D j w7 (By++(bks L++(B++Y))) F M) (hy:NodeB (Zo FD (By++(bks L++(B++Y))) F) w7 xy ny By) (f:Fr [] w w7) (hB:∀ c∈By,w.heap.size<=c) :
  Ed dbk pb FD D j S0 N0 w0 w7 (bks L) (By++Y) F M x n B/\Own (bks L) w7 w7 L/\Oth FD F w7 (bks L) (B++(By++Y)) xy ny By:=by
 have hm:∀ b∈Zo FD (bks L++(B++(By++Y))) F,b∈Zo FD (By++(bks L++(B++Y))) F:=fun b hb=>by
  simp only [Zo,List.mem_append,List.mem_cons] at hb ⊢
  rcases hb with (hb | hb | hb | hb | hb | hb) | hb <;> simp [hb]
 have hm2:∀ b∈Zo FD (bks L++(B++(By++Y))) F,b∈Zo FD (bks L++(B++Y)) F\/w.heap.size<=b:=fun b hb=>by
  simp only [Zo,List.mem_append,List.mem_cons] at hb ⊢
  rcases hb with (hb | hb | hb | hb | hb | hb) | hb
  ·simp [hb]
  ·simp [hb]
  ·simp [hb]
  ·simp [hb]
  ·exact .inr (hB b hb)
  ·simp [hb]
  ·simp [hb]
 refine ⟨⟨⟨e.sg.tot.trans' f (fun _ h=>nomatch h),e.sg.new,e.sg.own⟩,hT.weakY fun b hb=>?_,e.node.frame f (fun _ _ h=>nomatch h) (fun _ h=>nomatch h) hm2,e.sep,e.bnew,e.nsub,fun b hb hm=>?_⟩,qaH h f (fun _ _ h=>nomatch h),hy.weak fun b hb=>.inl (hm b hb),fun b hb hm=>?_⟩
 ·simp only [List.mem_append] at hb ⊢
  rcases hb with hb | hb | hb | hb <;> simp [hb]
 ·rcases List.mem_append.1 hm with h1 | h1
  ·have:=e.node.lt b hb; have:=hB b h1; omega
  ·exact e.ysep b hb h1
 ·have:=qgY h b hb; have:=hB b hm; omega
theorem Oth.more (o:Oth FD F w (bks L) (B++Y) x n Bx) (f:Fr [] w w7) (hB:∀ c∈By,w.heap.size<=c):Oth FD F w7 (bks L) (B++(By++Y)) x n Bx:=
 ⟨o.node.frame f (fun _ _ h=>nomatch h) (fun _ h=>nomatch h) fun b hb=>by
  simp only [Zo,List.mem_append,List.mem_cons] at hb ⊢
  rcases hb with (hb | hb | hb | hb | hb | hb) | hb
  ·simp [hb]
  ·simp [hb]
  ·simp [hb]
  ·simp [hb]
  ·exact .inr (hB b hb)
  ·simp [hb]
  ·simp [hb],o.sep⟩
theorem Oth.frame0 {R:List Nat} (o:Oth FD F w T R x n B) (f:Fr [] w w'):Oth FD F w' T R x n B:=⟨o.node.frame0 f,o.sep⟩
theorem qro {nl nr:NodeM} {key:Key} (hk:∀ a∈nl.keys,IsB a) (sl:ShapeN nl) (sr:ShapeN nr):IsB (giveN nl nr key).2.2/\(giveN nl nr key).1.keys.length<=9000/\(giveN nl nr key).1.vals.length<=9000/\(giveN nl nr key).1.kids.length<=9000/\(giveN nl nr key).2.1.keys.length<=9000/\(giveN nl nr key).2.1.vals.length<=9000/\(giveN nl nr key).2.1.kids.length<=9000:=by
 obtain ⟨_,_,a1,a2,a3⟩:=sl
 obtain ⟨_,_,b1,b2,b3⟩:=sr
 unfold giveN
 split
 ·refine ⟨qaW hk _,?_⟩
  simp only [List.length_take,List.length_cons]
  omega
 ·refine ⟨qaW hk _,?_⟩
  simp only [List.length_take,List.length_cons]
  omega
theorem qqP {nl nr:NodeM} {key:Key} (hk:∀ a∈nr.keys,IsB a) (sl:ShapeN nl) (sr:ShapeN nr):IsB (takeN nl nr key).2.2/\(takeN nl nr key).1.keys.length<=9000/\(takeN nl nr key).1.vals.length<=9000/\(takeN nl nr key).1.kids.length<=9000/\(takeN nl nr key).2.1.keys.length<=9000/\(takeN nl nr key).2.1.vals.length<=9000/\(takeN nl nr key).2.1.kids.length<=9000:=by
 obtain ⟨_,_,a1,a2,a3⟩:=sl
 obtain ⟨_,_,b1,b2,b3⟩:=sr
 unfold takeN
 split
 ·refine ⟨qaW (fun a ha=>hk a (List.mem_of_mem_drop ha)) _,?_⟩
  simp only [List.length_append,List.length_drop,List.length_cons,List.length_nil]
  omega
 ·refine ⟨qaW hk _,?_⟩
  simp only [List.length_append,List.length_drop,List.length_cons,List.length_nil]
  omega
theorem qbi {Y':List Nat} (h:∀ b∈Y',b∈Y):∀ b∈Zo FD Y' F,b∈Zo FD Y F:=fun b hb=>by
 simp only [Zo,List.mem_append,List.mem_cons] at hb ⊢
 rcases hb with (hb | hb | hb) | hb
 ·simp [hb]
 ·simp [hb]
 ·simp [h b hb]
 ·simp [hb]
theorem Ed.nextS {Y1:List Nat} (e:Ed dbk pb FD D j S0 N0 w0 w (bks L) Y F M x n B) (h:Own T wa w L) (hT:TW dbk pb FD D j w' (bks L++(B++Y1)) F M) (f:Fr S w w') (hS0:∀ b∈S,b∈S0\/w0.heap.size<=b) (hSB:∀ b∈S,b∉B/\b∉bks L) (hSZ:∀ b∈S,b∈Zo FD (bks L++(B++Y)) F) (hY:∀ b∈Y1,b∈Y) :
  Ed dbk pb FD D j S0 N0 w0 w' (bks L) Y1 F M x n B/\Own (bks L) w' w' L:=
 ⟨⟨⟨e.sg.tot.trans' f hS0,e.sg.new,e.sg.own⟩,hT,e.node.frame f (fun b hb hm=>(hSB b hm).1 hb) (fun b hb=>.inl (hSZ b hb)) fun b hb=>.inl (by
  simp only [Zo,List.mem_append,List.mem_cons] at hb ⊢
  rcases hb with (hb | hb | hb | hb | hb) | hb
  ·simp [hb]
  ·simp [hb]
  ·simp [hb]
  ·simp [hb]
  ·simp [hY b hb]
  ·simp [hb]),e.sep,e.bnew,e.nsub,fun b hb hm=>e.ysep b hb (hY b hm)⟩,qaH h f fun b hb hm=>(hSB b hm).2 hb⟩
set_option maxHeartbeats 4000000 in
theorem qsD {side c:Nat} {K:NdC×Int->World->Prop} (hT:TW dbk pb FD D j w0 (Bn++(Bx++Y)) F M) (hn:NodeB (Zo FD (Bn++(Bx++Y)) F) w0 x n Bn) (hx:NodeB (Zo FD (Bn++(Bx++Y)) F) w0 xx nx Bx)
  (d1:∀ b∈Bn,b∉Bx) (d2:∀ b∈Bn,b∉Y) (d3:∀ b∈Bx,b∉Y) (sn:ShapeN n) (sx:ShapeN nx) (hnl:n.leaf=false) (hsc:side+1=c\/c+1=side) (hs:side<n.kids.length) (hcl:c<n.kids.length)
  (hlf:∀ ny,loadN D M k v (n.kids.getD side 0)=(ny,0)->ny.leaf=nx.leaf) (hcap:CapsOk k v)
  (kk:∀ yn B' F' w',TW dbk pb FD D j w' (B'++Y) F' (evenM D k v M n side c nx).2->NodeB (Zo FD (B'++Y) F') w' yn (evenM D k v M n side c nx).1.1 B'->Fr (Bn++(Bx++F)) w0 w'->(∀ b∈B',b∈Bn\/w0.heap.size<=b)->(∀ b∈F',b∈Bn++(Bx++F)\/w0.heap.size<=b)->K (yn,(evenM D k v M n side c nx).1.2) w') :
  call Tryz.prog 143 [.agg (wkV (wkX k v pb t)),.agg (ndV x),.int .i64 side,.int .i64 c,.agg (ndV xx)] [.agg qaa,.one (.int .i64)] w0 K:=by
 refine qhI (w_0:=(wkX k v pb t).1) (w_1:=(wkX k v pb t).2.1) (w_2:=(wkX k v pb t).2.2.1) (w_3:=(wkX k v pb t).2.2.2.1) (w_4:=(wkX k v pb t).2.2.2.2.1) (w_5:=(wkX k v pb t).2.2.2.2.2) (n0:=x.1) (n1:=x.2.1) (n2:=x.2.2.1) (n3:=x.2.2.2) (side:=side) (c:=c) (x0:=xx.1) (x1:=xx.2.1) (x2:=xx.2.2.1) (x3:=xx.2.2.2) ?_
 unfold qdY
 have ei:(if (c:Int)<(side:Int) then (c:Int) else (side:Int))=(((if side<c then side else c):Nat):Int):=by
  by_cases h1:c<side
  ·rw [if_pos (by omega),if_neg (by omega)]
  ·rw [if_neg (by omega),if_pos (by omega)]
 have hir:(if side<c then side else c)+1<n.kids.length:=by split <;> omega
 rw [ei]
 generalize hie:(if side<c then side else c)=i at hir ⊢
 have il:=sn.inner hnl
 have s1:=sn.keys
 have s3:=sn.kids
 have hik:i<n.keys.length:=by omega
 have ew:IntKind.wrap .i64 ((i:Int)+1)=((i+1:Nat):Int):=qbg (by omega)
 rw [ew]
 have e0:Ed dbk pb FD D j (Bn++(Bx++F)) Bn w0 w0 [] (Bx++Y) F M x n Bn:=⟨⟨.refl _ _,fun b hb=>.inl (by simp [hb]),fun _ h=>nomatch h⟩,hT,hn,fun _ h=>(nomatch h),fun b hb=>.inl hb,fun b hb=>by simp [hb],fun b hb hm=>(List.mem_append.1 hm).elim (d1 b hb) (d2 b hb)⟩
 have o0:Oth FD F w0 [] (Bn++(Bx++Y)) xx nx Bx:=⟨hx,fun _ h=>nomatch h⟩
 rcases hld:loadN D M k v (n.kids.getD side 0) with ⟨ny,ey⟩
 have hgs:n.kids.getD side 0=n.kids[side]:=qcu hs
 have hld2:loadN D M k v n.kids[side]=(ny,ey):=by rw [<- hgs]; exact hld
 have hxlt:=hx.lt
 have hylt:∀ b∈Y,b<w0.heap.size:=fun b hb=>hT.ylt b (by simp [hb])
 have hus:U32 n.kids[side]:=hn.2.1.2.2 _ (List.getElem_mem hs)
 have h:=Own.start [] w0
 refine Own.new' h fun r1 w2 _ _ h=>?_
 refine Own.new' h fun r3 w4 _ _ h=>?_
 refine Own.new' h fun r5 w6 _ _ h=>?_
 refine Own.new' h fun r7 w8 _ _ h=>?_
 have h:=Own.drew h
 refine ⟨?a,?b⟩
 case' a=>
  have e:=e0.now h
  have o:=o0.now h
  refine Own.ldA (cl:=qaf) h 3 rfl (wkX k v pb t) rfl ?_
  refine Own.ld (c:=.slice) h 2 rfl x.2.2.2 rfl ?_
  refine Rds.getU e.kidsR side rfl hs fun a11 hh=>?_
  have hz8:=e.fr.size
  refine qel (k:=k) (v:=v) e.tw hus fun xy By w14 hT14 hN14 f14 hB14=>?_
  rw [hld2] at hN14 ⊢
  dsimp only at hN14
  obtain ⟨e,h,oy⟩:=e.more h hT14 hN14 f14 hB14
  have ox:=o.more (By:=By) f14 hB14
  refine Own.new' h fun r15 w16 _ _ h=>?_
  refine qao (hh _ _ (e.now h).kidsR) (h.cell 3 rfl rfl) (h.cells 4 rfl rfl) ?_
  refine Own.st' h 0 rfl (ndV xy) rfl rfl (Nat.le_of_ble_eq_true rfl) fun w20 h _=>?_
  have oy:=oy.now h
  have ox:=ox.now h
  have e:=e.now h
  have h:=qal h (.refl _)
  have hBy:∀ b∈By,w0.heap.size<=b:=fun b hb=>Nat.le_trans hz8 (hB14 b hb)
 case' b=>
  have e:=e0.now h
  have o:=o0.now h
  have h:=qal h (.refl _)
  refine Own.ldA (cl:=qaf) h 3 rfl (wkX k v pb t) rfl ?_
  refine Own.ld (c:=.slice) h 2 rfl x.2.2.2 rfl ?_
  refine Rds.getU e.kidsR side rfl hs fun a11 hh=>?_
  refine Own.new' h fun r15 w16 _ _ h=>?_
  have e:=e.now h
  have o:=o.now h
  refine qao (hh _ _ e.kidsR) (h.cell 3 rfl rfl) (h.cells 4 rfl rfl) ?_
  have hz8:=e.fr.size
  refine qel (k:=k) (v:=v) e.tw hus fun xy By w14 hT14 hN14 f14 hB14=>?_
  rw [hld2] at hN14 ⊢
  dsimp only at hN14
  obtain ⟨e,h,oy⟩:=e.more h hT14 hN14 f14 hB14
  have ox:=o.more (By:=By) f14 hB14
  refine Own.st' h 0 rfl (ndV xy) rfl rfl (Nat.le_of_ble_eq_true rfl) fun w20 h _=>?_
  have oy:=oy.now h
  have ox:=ox.now h
  have e:=e.now h
  have h:=qal h (.refl _)
  have hBy:∀ b∈By,w0.heap.size<=b:=fun b hb=>Nat.le_trans hz8 (hB14 b hb)
 all_goals
  refine qab (fun hc=>?_) (fun hc=>?_)
  ·have hne:ey≠0:=by
    rw [Bool.not_eq_true'] at hc
    exact beq_eq_false_iff_ne.1 hc
   rw [qsC hld hne] at kk
   refine Own.st' h 1 rfl (ndV zeroX) rfl rfl (Nat.le_of_ble_eq_true rfl) fun w21 h _=>?_
   refine Own.ldA (cl:=qaa) h 1 rfl zeroX rfl ?_
   have e:=e.now h
   exact kk zeroX [] F w21 (e.tw'.weakY fun b hb=>by simp at hb ⊢; simp [hb]) (.zero _ _) e.fr (fun _ h=>(nomatch h)) e.sg.new
  have hey:ey=0:=by
   rw [Bool.not_eq_false'] at hc
   exact beq_iff_eq.1 hc
  subst hey
  have hyr:=qc8 hld
  have sy:=qio hyr
  have hlf2:=hlf ny hld
  have dyx:∀ b∈By,b∉Bx:=fun b hb hm=>by have:=hBy b hb; have:=hxlt b hm; omega
  have dyY:∀ b∈By,b∉Y:=fun b hb hm=>by have:=hBy b hb; have:=hylt b hm; omega
  refine ⟨?_,?_⟩
  have h:=Own.drew h
  refine Own.ldA (cl:=qaa) h 2 rfl xx rfl ?_
  refine Own.ldA (cl:=qaa) h 0 rfl xy rfl ?_
  refine Own.new' h fun r25 w26 _ _ h=>?_
  refine qap (h.cells 1 rfl rfl) (h.cells 3 rfl rfl) ?_
  refine Own.new' h fun r29 w30 _ _ h=>?_
  refine qap (h.cells 2 rfl rfl) (h.cells 4 rfl rfl) ?_
  refine Own.st' h 1 rfl (ndV xx) rfl rfl (Nat.le_of_ble_eq_true rfl) fun w33 h _=>?_
  refine qah (h.cells 2 rfl rfl) ?_
  refine Own.st' h 0 rfl (ndV xy) rfl rfl (Nat.le_of_ble_eq_true rfl) fun w35 h _=>?_
  rotate_left
  have h:=Own.drew h
  refine Own.ldA (cl:=qaa) h 2 rfl xx rfl ?_
  refine Own.ldA (cl:=qaa) h 0 rfl xy rfl ?_
  refine Own.new' h fun r29 w26 _ _ h=>?_
  refine qap (h.cells 1 rfl rfl) (h.cells 3 rfl rfl) ?_
  refine Own.new' h fun r25 w30 _ _ h=>?_
  refine qap (h.cells 2 rfl rfl) (h.cells 4 rfl rfl) ?_
  refine Own.st' h 0 rfl (ndV xx) rfl rfl (Nat.le_of_ble_eq_true rfl) fun w33 h _=>?_
  refine qah (h.cells 2 rfl rfl) ?_
  refine Own.st' h 1 rfl (ndV xy) rfl rfl (Nat.le_of_ble_eq_true rfl) fun w35 h _=>?_
  have h:=qe6 h (List.Perm.swap _ _ _)
  all_goals
   obtain ⟨xl,nl,Bl,xr,nr,Br,hP⟩:∃ xl nl Bl xr nr Br,(side<c/\xl=xy/\nl=ny/\Bl=By/\xr=xx/\nr=nx/\Br=Bx)\/(¬ side<c/\xl=xx/\nl=nx/\Bl=Bx/\xr=xy/\nr=ny/\Br=By):=by
    by_cases hsd:side<c
    ·exact ⟨_,_,_,_,_,_,.inl ⟨hsd,rfl,rfl,rfl,rfl,rfl,rfl⟩⟩
    ·exact ⟨_,_,_,_,_,_,.inr ⟨hsd,rfl,rfl,rfl,rfl,rfl,rfl⟩⟩
   refine qag (fun _ w'=>Own [r29,r25,r15,r7,r5,r3,r1] w' w' [(r29,.cells (ndV xr) ND (0,0)),(r25,.cells (ndV xl) ND (0,0)),(r15,.cells (ndV xy) ND (0,0)),(r7,.cells (ndV zeroX) ND (0,0)),(r5,.cells (ndV xx) ND (0,0)),(r3,.cells (ndV x) ND (0,0)),(r1,.cells (wkV (wkX k v pb t)) WK (0,0))]/\
    Ed dbk pb FD D j (Bn++(Bx++F)) Bn w0 w' [r29,r25,r15,r7,r5,r3,r1] (By++(Bx++Y)) F M x n Bn/\Oth FD F w' [r29,r25,r15,r7,r5,r3,r1] (Bn++(By++(Bx++Y))) xx nx Bx/\Oth FD F w' [r29,r25,r15,r7,r5,r3,r1] (Bn++(By++(Bx++Y))) xy ny By) ?_ ?_
   ·refine qab (fun hc=>?_) (fun hc=>?_)
    ·have hsd:side<c:=by have:=of_decide_eq_true hc; omega
     rcases hP with ⟨_,rfl,rfl,rfl,rfl,rfl,rfl⟩ | ⟨hn,_⟩
     ·have h:=Own.drew h
      refine Own.ldA (cl:=qaa) h 2 rfl xl rfl ?_
      refine Own.ldA (cl:=qaa) h 4 rfl xr rfl ?_
      refine Own.st' h 1 rfl (ndV xl) rfl rfl (Nat.le_of_ble_eq_true rfl) fun w39 h _=>?_
      refine qah (h.cells 4 rfl rfl) ?_
      refine Own.st' h 0 rfl (ndV xr) rfl rfl (Nat.le_of_ble_eq_true rfl) fun w41 h _=>?_
      exact ⟨qal h (.refl _),e.now h,ox.now h,oy.now h⟩
     ·exact absurd hsd hn
    ·have hsd:¬ side<c:=by have:=of_decide_eq_false hc; omega
     rcases hP with ⟨hn,_⟩ | ⟨_,rfl,rfl,rfl,rfl,rfl,rfl⟩
     ·exact absurd hn hsd
     ·exact ⟨qal h (.refl _),e.now h,ox.now h,oy.now h⟩
   rintro _ w43 ⟨h,e,ox,oy⟩
   refine Own.ldA (cl:=qa2) h 6 rfl (shX k v) rfl ?_
   refine Own.ldA (cl:=qaa) h 2 rfl xy rfl ?_
   have ly:NodeL xy ny:=(oy.node.rd (S:=[]) (fun _ _ h=>(nomatch h)) fun _ h=>nomatch h).lens
   refine qsL ly fun w47 f47=>?_
   have h:=h.frame0 f47
   have e:=e.now h
   have ox:=ox.now h
   have oy:=oy.now h
   have h:=qal h (.refl _)
   refine qab (fun hc=>?_) (fun hc=>?_)
   ·have hsp:¬ spareN ny k v:=by
     rw [Bool.not_eq_true'] at hc
     exact of_decide_eq_false hc
    rw [qq0 hld hsp] at kk
    have hj:(if side<c then ny else nx)=nl/\(if side<c then nx else ny)=nr:=by
     rcases hP with ⟨h1,_,h2,_,_,h3,_⟩ | ⟨h1,_,h2,_,_,h3,_⟩
     ·rw [if_pos h1,if_pos h1,h2,h3]; exact ⟨rfl,rfl⟩
     ·rw [if_neg h1,if_neg h1,h2,h3]; exact ⟨rfl,rfl⟩
    rw [hie,hj.1,hj.2] at kk
    have e:=e.sub (T1:=[r29,r25,r15,r7,r5,r3,r1]) fun b hb=>hb
    have hol:Oth FD F w47 [r29,r25,r15,r7,r5,r3,r1] (Bn++(By++(Bx++Y))) xl nl Bl:=by
     rcases hP with ⟨_,rfl,rfl,rfl,_⟩ | ⟨_,rfl,rfl,rfl,_⟩ <;> assumption
    have hor:Oth FD F w47 [r29,r25,r15,r7,r5,r3,r1] (Bn++(By++(Bx++Y))) xr nr Br:=by
     rcases hP with ⟨_,_,_,_,rfl,rfl,rfl⟩ | ⟨_,_,_,_,rfl,rfl,rfl⟩ <;> assumption
    have hsh:ShapeN nl/\ShapeN nr:=by
     rcases hP with ⟨_,_,rfl,_,_,rfl,_⟩ | ⟨_,_,rfl,_,_,rfl,_⟩ <;> exact ⟨by assumption,by assumption⟩
    have hBB:(∀ b∈Bl,b∈By\/b∈Bx)/\(∀ b∈Br,b∈By\/b∈Bx)/\∀ b∈Bl,b∉Br:=by
     rcases hP with ⟨_,_,_,rfl,_,_,rfl⟩ | ⟨_,_,_,rfl,_,_,rfl⟩
     ·exact ⟨fun b hb=>.inl hb,fun b hb=>.inr hb,dyx⟩
     ·exact ⟨fun b hb=>.inr hb,fun b hb=>.inl hb,fun b hb hm=>dyx b hm hb⟩
    obtain ⟨hB1,hB2,hB3⟩:=hBB
    have hYn:∀ b,b∈By\/b∈Bx->b∉Bn/\b∉Y:=fun b hb=>by
     rcases hb with hb | hb
     ·exact ⟨fun hm=>e.ysep b hm (by simp [hb]),dyY b hb⟩
     ·exact ⟨fun hm=>e.ysep b hm (by simp [hb]),d3 b hb⟩
    have hperm:∀ b∈Bl++(Bn++(Br++([r29,r25,r15,r7,r5,r3,r1]++Y))),b∈[r29,r25,r15,r7,r5,r3,r1]++(Bn++(By++(Bx++Y))):=fun b hb=>by
     have a1:=hB1 b
     have a2:=hB2 b
     rw [List.mem_append,List.mem_append,List.mem_append,List.mem_append] at hb ⊢
     rcases hb with hb | hb | hb | hb | hb
     ·rcases a1 hb with h | h <;> simp [h]
     ·simp [hb]
     ·rcases a2 hb with h | h <;> simp [h]
     ·simp [hb]
     ·simp [hb]
    have hZ:∀ b∈Zo FD (Bl++(Bn++(Br++([r29,r25,r15,r7,r5,r3,r1]++Y)))) F,b∈Zo FD ([r29,r25,r15,r7,r5,r3,r1]++(Bn++(By++(Bx++Y)))) F:=qbi hperm
    refine Own.ldA (cl:=qaf) h 6 rfl (wkX k v pb t) rfl ?_
    refine Own.ldA (cl:=qaa) h 5 rfl x rfl ?_
    refine Own.ldA (cl:=qaa) h 1 rfl xl rfl ?_
    refine Own.ldA (cl:=qaa) h 0 rfl xr rfl ?_
    refine qr5 (Y:=[r29,r25,r15,r7,r5,r3,r1]++Y) (e.tw.weakY hperm) (hol.node.weak fun b hb=>.inl (hZ b hb)) (e.node.weak fun b hb=>.inl (hZ b hb)) (hor.node.weak fun b hb=>.inl (hZ b hb)) (fun b hb=>(hYn b (hB1 b hb)).1) hB3 (fun b hb hm=>(List.mem_append.1 hm).elim (fun hm=>hol.sep b hm hb) (hYn b (hB1 b hb)).2) (fun b hb hm=>(hYn b (hB2 b hm)).1 hb) (fun b hb hm=>(List.mem_append.1 hm).elim (fun hm=>e.sep b hm hb) (d2 b hb)) hsh.1 hsh.2 sn hik hnl fun yn B' F' w53 hT53 hN53 f53 nB nF=>?_
    have htl:∀ b∈[r29,r25,r15,r7,r5,r3,r1],b<w47.heap.size:=fun b hb=>e.tw.ylt b (List.mem_append_left _ hb)
    have hS:∀ b∈Bn++(Bl++F),b∈Bn++(Bx++F)\/w0.heap.size<=b:=fun b hb=>by
     rcases List.mem_append.1 hb with hb | hb
     ·exact .inl (by simp [hb])
     ·rcases List.mem_append.1 hb with hb | hb
      ·rcases hB1 b hb with h1 | h1
       ·exact .inr (hBy b h1)
       ·exact .inl (by simp [h1])
      ·exact .inl (by simp [hb])
    have h:=qaH h f53 fun b hb hm=>by
     rcases List.mem_append.1 hm with hm | hm
     ·exact e.sep b hb hm
     ·rcases List.mem_append.1 hm with hm | hm
      ·exact hol.sep b hb hm
      ·exact e.tw.yf b (List.mem_append_left _ hb) hm
    refine Own.st' h 3 rfl (ndV yn) rfl rfl (Nat.le_of_ble_eq_true rfl) fun w54 h _=>?_
    refine Own.ldA (cl:=qaa) h 3 rfl yn rfl ?_
    have hp2:∀ b∈[r29,r25,r15,r7,r5,r3,r1]++(B'++Y),b∈B'++([r29,r25,r15,r7,r5,r3,r1]++Y):=fun b hb=>by
     rw [List.mem_append,List.mem_append] at hb ⊢
     rcases hb with hb | hb | hb <;> simp [hb]
    have o:Oth FD F' w53 [r29,r25,r15,r7,r5,r3,r1] (B'++Y) yn _ B':=⟨hN53.weak fun b hb=>.inl (qbi hp2 b hb),fun b hb hm=>(nB b hm).elim (e.sep b hb) fun h1=>by have:=htl b hb; omega⟩
    have hTf:=hT53.weakY hp2
    exact kk yn B' F' w54 (TW.now (T:=[r29,r25,r15,r7,r5,r3,r1]) hTf h).drop0 ((o.now h).node.weak fun b hb=>.inl (qde b hb)) ((e.fr.trans' f53 hS).trans' h.fr e.sg.own) (fun b hb=>(nB b hb).imp id fun h1=>Nat.le_trans e.fr.size h1) fun b hb=>(nF b hb).elim (hS b) fun h1=>.inr (Nat.le_trans e.fr.size h1)
   ·have hsp:spareN ny k v:=by
     rw [Bool.not_eq_false'] at hc
     exact of_decide_eq_true hc
    rw [qrC hld hsp,hie] at kk
    obtain ⟨y1,y2⟩:=qpT hcap hsp sy
    have e:=e.sub (T1:=[r29,r25,r15,r7,r5,r3,r1]) fun b hb=>hb
    have ox:Oth FD F w47 [r29,r25,r15,r7,r5,r3,r1] (Bn++(By++(Bx++Y))) xx nx Bx:=ox
    have oy:Oth FD F w47 [r29,r25,r15,r7,r5,r3,r1] (Bn++(By++(Bx++Y))) xy ny By:=oy
    have hpg:∀ b∈Bx++(By++([r29,r25,r15,r7,r5,r3,r1]++(Bn++Y))),b∈[r29,r25,r15,r7,r5,r3,r1]++(Bn++(By++(Bx++Y))):=fun b hb=>by
     rw [List.mem_append,List.mem_append,List.mem_append,List.mem_append] at hb ⊢
     rcases hb with hb | hb | hb | hb | hb <;> simp [hb]
    have hZg:∀ b∈Zo FD (Bx++(By++([r29,r25,r15,r7,r5,r3,r1]++(Bn++Y)))) F,b∈Zo FD ([r29,r25,r15,r7,r5,r3,r1]++(Bn++(By++(Bx++Y)))) F:=qbi hpg
    have dBx:∀ b∈Bx,b∉By:=fun b hb hm=>dyx b hm hb
    have dBxT:∀ b∈Bx,b∉[r29,r25,r15,r7,r5,r3,r1]++(Bn++Y):=fun b hb hm=>by
     rcases List.mem_append.1 hm with hm | hm
     ·exact ox.sep b hm hb
     ·rcases List.mem_append.1 hm with hm | hm
      ·exact d1 b hm hb
      ·exact d3 b hb hm
    have dByT:∀ b∈By,b∉[r29,r25,r15,r7,r5,r3,r1]++(Bn++Y):=fun b hb hm=>by
     rcases List.mem_append.1 hm with hm | hm
     ·exact oy.sep b hm hb
     ·rcases List.mem_append.1 hm with hm | hm
      ·exact e.ysep b hm (by simp [hb])
      ·exact dyY b hb hm
    obtain ⟨nk,nv,on⟩:=e.node.opn (S0:=[]) fun _ _ h=>nomatch h
    have hkl:i<nk.length:=by rw [on.klen]; exact hik
    have hkB:IsB nk[i].2:=by rw [<- on.keyAt hkl]; exact qaW on.nb.1 _
    have hkR:=(on.ek _ (List.getElem_mem hkl)).frame (.refl _ _) fun b hb=>.inl (hZg b hb)
    have hkn:n.keys.getD i []=nk[i].2:=on.keyAt hkl
    have hTg:=e.tw.weakY hpg
    have hnx:=ox.node.weak fun b hb=>.inl (hZg b hb)
    have hny:=oy.node.weak fun b hb=>.inl (hZg b hb)
    refine qag (fun _ w'=>∃ yl yr r B',Own [r29,r25,r15,r7,r5,r3,r1] w' w' [(r29,.cells (ndV yr) ND (0,0)),(r25,.cells (ndV yl) ND (0,0)),(r15,.cells (ndV xy) ND (0,0)),(r7,.cells (ndV zeroX) ND (0,0)),(r5,.cells (ndV xx) ND (0,0)),(r3,.cells (ndV x) ND (0,0)),(r1,.cells (wkV (wkX k v pb t)) WK (0,0))]/\
     Ed dbk pb FD D j (Bn++(Bx++F)) Bn w0 w' [r29,r25,r15,r7,r5,r3,r1] Y F M x { n with keys:=n.keys.set i r.2.2 } B'/\NodeR (Zo FD ([r29,r25,r15,r7,r5,r3,r1]++(B'++Y)) F) w' yl r.1/\NodeR (Zo FD ([r29,r25,r15,r7,r5,r3,r1]++(B'++Y)) F) w' yr r.2.1/\
     (if side<c then giveN ny nx (n.keys.getD side []) else takeN nx ny (n.keys.getD c []))=r/\r.1.keys.length<=9000/\r.1.vals.length<=9000/\r.1.kids.length<=9000/\r.2.1.keys.length<=9000/\r.2.1.vals.length<=9000/\r.2.1.kids.length<=9000) ?_ ?_
    ·have hS0:∀ b∈Bx++F,b∈Bn++(Bx++F)\/w0.heap.size<=b:=fun b hb=>.inl (List.mem_append_right _ hb)
     have hSB:∀ b∈Bx++F,b∉Bn/\b∉[r29,r25,r15,r7,r5,r3,r1]:=fun b hb=>by
      rcases List.mem_append.1 hb with hb | hb
      ·exact ⟨fun hm=>d1 b hm hb,fun hm=>ox.sep b hm hb⟩
      ·exact ⟨fun hm=>e.tw.yf b (by simp [hm]) hb,fun hm=>e.tw.yf b (List.mem_append_left _ hm) hb⟩
     have hSZ:∀ b∈Bx++F,b∈Zo FD ([r29,r25,r15,r7,r5,r3,r1]++(Bn++(By++(Bx++Y)))) F:=fun b hb=>by
      rcases List.mem_append.1 hb with hb | hb <;> simp [hb]
     have fd:=(Fr.refl [] w47).drew
     refine qab (fun hc2=>?_) (fun hc2=>?_)
     ·have hsd:side<c:=by have:=of_decide_eq_true hc2; omega
      have his:side=i:=by rw [<- hie,if_pos hsd]
      rcases hP with ⟨_,rfl,rfl,rfl,rfl,rfl,rfl⟩ | ⟨hn,_⟩
      ·have h:=Own.drew h
       have e:=e.now h
       have h:=qal h (.refl _)
       refine Own.ld (c:=.slice) h 5 rfl x.2.1 rfl ?_
       refine Own.ldA (cl:=qaa) h 1 rfl xl rfl ?_
       refine Own.ldA (cl:=qaa) h 0 rfl xr rfl ?_
       refine Own.ld (c:=.slice) h 5 rfl x.2.1 rfl ?_
       refine Rds.get (c:=.slice) (on.rk.frame0 fd) i rfl (x:=nk[i].1) (by rw [List.getElem?_map,List.getElem?_eq_getElem hkl]; rfl) (y:=nk[i].1) rfl ?_
       have gm:=qro (key:=nk[i].2) hny.2.1.1 sy sx
       refine qs6 (Y:=[r29,r25,r15,r7,r5,r3,r1]++(Bn++Y)) (hTg.frame0 fd) (hny.frame0 fd) (hnx.frame0 fd) dBx dBxT dByT (hkR.frame0 fd) hkB hlf2 y1 sy sx fun yl yr ks' w64 hT64 hL hR hks f64=>?_
       obtain ⟨e,h⟩:=e.nextS h hT64 f64 hS0 hSB hSZ fun b hb=>by simp [hb]
       refine qah (h.cell 5 rfl rfl) ?_
       refine Own.st' h 1 rfl (ndV yl) rfl rfl (Nat.le_of_ble_eq_true rfl) fun w66 h _=>?_
       refine qah (h.cell 5 rfl rfl) ?_
       refine Own.st' h 0 rfl (ndV yr) rfl rfl (Nat.le_of_ble_eq_true rfl) fun w68 h _=>?_
       refine qah (h.cell 5 rfl rfl) ?_
       have e:=e.now h
       have hL:=NodeR.now (T:=[r29,r25,r15,r7,r5,r3,r1]) hL h
       have hR:=NodeR.now (T:=[r29,r25,r15,r7,r5,r3,r1]) hR h
       have hks:=qaD (T:=[r29,r25,r15,r7,r5,r3,r1]) hks h
       have h:=qal h (.refl _)
       refine e.setK h (i:=i) hik rfl hks gm.1 fun B1 w71 e h kp=>?_
       exact ⟨yl,yr,_,B1,h,e,kp.node _ _ hL,kp.node _ _ hR,by rw [if_pos hsd,his,hkn],gm.2.1,gm.2.2.1,gm.2.2.2.1,gm.2.2.2.2.1,gm.2.2.2.2.2.1,gm.2.2.2.2.2.2⟩
      ·exact absurd hsd hn
     ·have hsd:¬ side<c:=by have:=of_decide_eq_false hc2; omega
      have his:c=i:=by rw [<- hie,if_neg hsd]
      rcases hP with ⟨hn,_⟩ | ⟨_,rfl,rfl,rfl,rfl,rfl,rfl⟩
      ·exact absurd hn hsd
      ·have h:=Own.drew h
       have e:=e.now h
       have h:=qal h (.refl _)
       refine Own.ld (c:=.slice) h 5 rfl x.2.1 rfl ?_
       refine Own.ldA (cl:=qaa) h 1 rfl xl rfl ?_
       refine Own.ldA (cl:=qaa) h 0 rfl xr rfl ?_
       refine Own.ld (c:=.slice) h 5 rfl x.2.1 rfl ?_
       refine Rds.get (c:=.slice) (on.rk.frame0 fd) i rfl (x:=nk[i].1) (by rw [List.getElem?_map,List.getElem?_eq_getElem hkl]; rfl) (y:=nk[i].1) rfl ?_
       have gm:=qqP (key:=nk[i].2) hny.2.1.1 sx sy
       refine qsY (Y:=[r29,r25,r15,r7,r5,r3,r1]++(Bn++Y)) (hTg.frame0 fd) (hnx.frame0 fd) (hny.frame0 fd) dBx dBxT dByT (hkR.frame0 fd) hkB hlf2.symm y1 y2 sx sy fun yl yr ks' w64 hT64 hL hR hks f64=>?_
       obtain ⟨e,h⟩:=e.nextS h hT64 f64 hS0 hSB hSZ fun b hb=>by simp [hb]
       refine qah (h.cell 5 rfl rfl) ?_
       refine Own.st' h 1 rfl (ndV yl) rfl rfl (Nat.le_of_ble_eq_true rfl) fun w66 h _=>?_
       refine qah (h.cell 5 rfl rfl) ?_
       refine Own.st' h 0 rfl (ndV yr) rfl rfl (Nat.le_of_ble_eq_true rfl) fun w68 h _=>?_
       refine qah (h.cell 5 rfl rfl) ?_
       have e:=e.now h
       have hL:=NodeR.now (T:=[r29,r25,r15,r7,r5,r3,r1]) hL h
       have hR:=NodeR.now (T:=[r29,r25,r15,r7,r5,r3,r1]) hR h
       have hks:=qaD (T:=[r29,r25,r15,r7,r5,r3,r1]) hks h
       have h:=qal h (.refl _)
       refine e.setK h (i:=i) hik rfl hks gm.1 fun B1 w71 e h kp=>?_
       exact ⟨yl,yr,_,B1,h,e,kp.node _ _ hL,kp.node _ _ hR,by rw [if_neg hsd,his,hkn],gm.2.1,gm.2.2.1,gm.2.2.2.1,gm.2.2.2.2.1,gm.2.2.2.2.2.1,gm.2.2.2.2.2.2⟩
    ·rintro _ w88 ⟨yl,yr,r,B',h,e,hL,hR,hr,q1,q2,q3,q4,q5,q6⟩
     have hki:i<n.kids.length:=by omega
     rw [hr] at kk
     unfold bothM at kk
     rw [qcu hki,qcu hir] at kk
     have h:=Own.drew h
     have e:=e.now h
     have hL:=NodeR.now (T:=[r29,r25,r15,r7,r5,r3,r1]) hL h
     have hR:=NodeR.now (T:=[r29,r25,r15,r7,r5,r3,r1]) hR h
     have h:=qal h (.refl _)
     refine Own.ld (c:=.slice) h 5 rfl x.2.2.2 rfl ?_
     refine Own.ldA (cl:=qaf) h 6 rfl (wkX k v pb t) rfl ?_
     refine Own.ld (c:=.slice) h 5 rfl x.2.2.2 rfl ?_
     refine Rds.get (c:=.int .u32) e.kidsR i rfl (x:=n.kids[i]) (List.getElem?_eq_getElem hki) (y:=n.kids[i]) rfl ?_
     refine Own.ldA (cl:=qaa) h 1 rfl yl rfl ?_
     refine qa7 e.tw hL (by omega) (by omega) (by omega) fun F1 w96 hT96 f96 n96=>?_
     obtain ⟨e,h⟩:=e.next h hT96 f96 n96
     have hR:=hR.next f96 n96
     have hu1:U32 (storeN k v M n.kids[i] r.1).1.1:=qa6 hT.wf (hn.2.1.2.2 _ (List.getElem_mem hki))
     generalize storeN k v M n.kids[i] r.1=st1 at kk e hu1 ⊢
     obtain ⟨⟨a1,s1e⟩,M1⟩:=st1
     dsimp only at kk e hu1 ⊢
     refine qah (h.cell 5 rfl rfl) ?_
     refine e.setI h (i:=i) hki rfl hu1 fun B1 w99 e h kp=>?_
     have hR:=kp.node _ _ hR
     refine qab (fun hc3=>?_) (fun hc3=>?_)
     ·have hne:s1e≠0:=by
       rw [Bool.not_eq_true'] at hc3
       exact beq_eq_false_iff_ne.1 hc3
      rw [if_pos hne] at kk
      refine Own.st' h 3 rfl (ndV zeroX) rfl rfl (Nat.le_of_ble_eq_true rfl) fun w100 h _=>?_
      refine Own.ldA (cl:=qaa) h 3 rfl zeroX rfl ?_
      have e:=e.now h
      exact kk zeroX [] F1 w100 e.tw'.drop0 (.zero _ _) e.fr (fun _ h=>(nomatch h)) e.sg.new
     ·have hne:¬ s1e≠0:=by
       rw [Bool.not_eq_false'] at hc3
       exact fun h=>h (beq_iff_eq.1 hc3)
      rw [if_neg hne] at kk
      have hset:(n.kids.set i a1)[i+1]?=some n.kids[i+1]:=by rw [List.getElem?_set_ne (by omega),List.getElem?_eq_getElem hir]
      have h:=Own.drew h
      have e:=e.now h
      have hR:=NodeR.now hR h
      have h:=qal h (.refl _)
      refine Own.ld (c:=.slice) h 5 rfl x.2.2.2 rfl ?_
      refine Own.ldA (cl:=qaf) h 6 rfl (wkX k v pb t) rfl ?_
      refine Own.ld (c:=.slice) h 5 rfl x.2.2.2 rfl ?_
      refine Rds.get (c:=.int .u32) e.kidsR (i+1) rfl (x:=n.kids[i+1]) hset (y:=n.kids[i+1]) rfl ?_
      refine Own.ldA (cl:=qaa) h 0 rfl yr rfl ?_
      refine qa7 e.tw hR (by omega) (by omega) (by omega) fun F2 w109 hT109 f109 n109=>?_
      have hu2:U32 (storeN k v M1 n.kids[i+1] r.2.1).1.1:=qa6 e.tw.wf (hn.2.1.2.2 _ (List.getElem_mem hir))
      obtain ⟨e,h⟩:=e.next h hT109 f109 n109
      generalize storeN k v M1 n.kids[i+1] r.2.1=st2 at kk e hu2 ⊢
      obtain ⟨⟨a2,s2e⟩,M2⟩:=st2
      dsimp only at kk e hu2 ⊢
      refine qah (h.cell 5 rfl rfl) ?_
      refine e.setI h (i:=i+1) (by dsimp only; rw [List.length_set]; exact hir) rfl hu2 fun B2 w112 e h _=>?_
      refine Own.ldA (cl:=qaa) h 5 rfl x rfl ?_
      refine Own.st' h 3 rfl (ndV x) rfl rfl (Nat.le_of_ble_eq_true rfl) fun w114 h _=>?_
      refine Own.ldA (cl:=qaa) h 3 rfl x rfl ?_
      have e:=e.now h
      exact kk x B2 F2 w114 e.tw.drop0 (e.node.weak fun b hb=>.inl (qde b hb)) e.fr e.bnew e.sg.new
end
end
end Go.Proofs.YtmmkegapckbomaaGreatDoor
end
