/- Texts TeL, TeM, TeN, TrJ, TeO, TrK, MaA, StA, RfB, RfC, HiA, HiB: contracts of the program's functions, one behind the other. Conditions: those that stand in each line. -/
import Derived.Test.YtmmkegapckbomaaGreatDoorCRH5
import Derived.Test.YtmmkegapckbomaaGreatDoorCRH4
import Derived.Test.YtmmkegapckbomaaGreatDoorCRH3
import Derived.Laws.IdiomStrings
import Derived.Laws.BytesString
section
set_option linter.unusedVariables false
set_option linter.unusedSimpArgs false
namespace Go.Proofs.YtmmkegapckbomaaGreatDoor
open Go Go.Pt
open Classical
attribute [local irreducible] ld ldA ldV fld fldA newZ st new idx idxS idxA slc slcS slcP mkS chk nn call callV inv run runQ runU join loop held ext rng undefer s2a nxt ent IntKind.wrap
section
variable {D:DiskM} {M M1:PgM} {k v f side c i:Nat} {key:Key} {p e0 e1:Int} {n nx N:NodeM}
theorem qdZ {α:Type} {l:List α} {i:Nat} (h:i<l.length):(delAt l i).length+1=l.length:=by unfold delAt; rw [List.length_append,List.length_take,List.length_drop]; omega
theorem qig {l r:NodeM} (sn:ShapeN n) (hnl:n.leaf=false) (hi:i<n.keys.length) (h:(joinM k v M n i l r).1.2=0):ShapeN (joinM k v M n i l r).1.1:=by
 have il:=sn.inner hnl
 obtain ⟨_,_,a1,a2,a3⟩:=sn
 unfold joinM at h ⊢
 split
 ·rename_i he; rw [if_pos he] at h; exact absurd h he
 ·rename_i he
  rw [if_neg he] at h
  split
  ·rename_i hd; rw [if_pos hd] at h; exact absurd h hd
  ·have h1:=qdZ (l:=n.kids.set i (storeN k v M (n.kids.getD i 0) (joinN l r (n.keys.getD i []))).1.1) (i:=i+1) (by rw [List.length_set]; omega)
   have h2:=qdZ hi
   rw [List.length_set] at h1
   exact ⟨(fun h=>by rw [hnl] at h; cases h),fun _=>by dsimp only; omega,by dsimp only; omega,a2,by dsimp only; omega⟩
theorem qh8 {r:NodeM×NodeM×Key} (sn:ShapeN n) (hnl:n.leaf=false) (h:(bothM k v M n i r).1.2=0):ShapeN (bothM k v M n i r).1.1:=by
 have il:=sn.inner hnl
 obtain ⟨_,_,a1,a2,a3⟩:=sn
 unfold bothM at h ⊢
 split
 ·rename_i he; rw [if_pos he] at h; exact absurd h he
 ·exact ⟨(fun h=>by rw [hnl] at h; cases h),fun _=>by dsimp only; rw [List.length_set,List.length_set,List.length_set]; exact il,by dsimp only; rw [List.length_set]; exact a1,a2,by dsimp only; rw [List.length_set,List.length_set]; exact a3⟩
theorem qn5 (sn:ShapeN n) (hnl:n.leaf=false) (hsc:side+1=c\/c+1=side) (hs:side<n.kids.length) (hcl:c<n.kids.length) (h:(evenM D k v M n side c nx).1.2=0):ShapeN (evenM D k v M n side c nx).1.1:=by
 have il:=sn.inner hnl
 unfold evenM at h ⊢
 split
 ·rename_i he; rw [if_pos he] at h; exact absurd h he
 rename_i he
 rw [if_neg he] at h
 split
 ·rename_i hsd
  rw [if_pos hsd] at h
  split
  ·rename_i hq; rw [if_pos hq] at h; exact qig sn hnl (by omega) h
  ·rename_i hq; rw [if_neg hq] at h; exact qh8 sn hnl h
 ·rename_i hsd
  rw [if_neg hsd] at h
  split
  ·rename_i hq; rw [if_pos hq] at h; exact qig sn hnl (by omega) h
  ·rename_i hq; rw [if_neg hq] at h; exact qh8 sn hnl h
def sideOf (c:Nat):Nat:=if c>0 then c-1 else c+1
theorem qsd (h:loadN D M k v p=(n,e0)) (he:e0≠0):cutN D k v key (f+1) M p=((zeroN,e0),M):=by unfold cutN; rw [h,if_pos he]
theorem qsw (h:loadN D M k v p=(n,0)) (hl:n.leaf=true) (hk:n.keys[placeV n.keys key]?=some key):cutN D k v key (f+1) M p=(({ n with keys:=delAt n.keys (placeV n.keys key),vals:=delAt n.vals (placeV n.keys key) },0),M):=by
 unfold cutN; rw [h,if_neg (fun h=>h rfl),if_pos hl,if_pos hk]
theorem qrJ (h:loadN D M k v p=(n,0)) (hl:n.leaf=true) (hk:¬ n.keys[placeV n.keys key]?=some key):cutN D k v key (f+1) M p=((zeroN,5),M):=by
 unfold cutN; rw [h,if_neg (fun h=>h rfl),if_pos hl,if_neg hk]
theorem qrV (h:loadN D M k v p=(n,0)) (hl:¬ n.leaf=true) (hp:cutN D k v key f M (n.kids.getD (kidV n.keys key) 0)=((N,e1),M1)) (he:e1≠0):cutN D k v key (f+1) M p=((zeroN,e1),M1):=by
 unfold cutN; rw [h,if_neg (fun h=>h rfl),if_neg hl]; dsimp only; rw [hp,if_pos he]
theorem qq3 (h:loadN D M k v p=(n,0)) (hl:¬ n.leaf=true) (hp:cutN D k v key f M (n.kids.getD (kidV n.keys key) 0)=((N,0),M1)) (hw:¬ lowN N k v):cutN D k v key (f+1) M p =
  (({ n with kids:=n.kids.set (kidV n.keys key) (storeN k v M1 (n.kids.getD (kidV n.keys key) 0) N).1.1 },(storeN k v M1 (n.kids.getD (kidV n.keys key) 0) N).1.2),(storeN k v M1 (n.kids.getD (kidV n.keys key) 0) N).2):=by
 unfold cutN; rw [h,if_neg (fun h=>h rfl),if_neg hl]; dsimp only; rw [hp,if_neg (fun h=>h rfl),if_pos hw]
theorem qqJ (h:loadN D M k v p=(n,0)) (hl:¬ n.leaf=true) (hp:cutN D k v key f M (n.kids.getD (kidV n.keys key) 0)=((N,0),M1)) (hw:lowN N k v):cutN D k v key (f+1) M p=evenM D k v M1 n (sideOf (kidV n.keys key)) (kidV n.keys key) N:=by
 unfold cutN sideOf; rw [h,if_neg (fun h=>h rfl),if_neg hl]; dsimp only; rw [hp,if_neg (fun h=>h rfl),if_neg (fun h=>h hw)]
 split <;> rfl
def cutSafe (D:DiskM) (k v:Nat) (key:Key):Nat->PgM->Int->Prop
 | 0,_,_=>False
 | f+1,M,p=>∀ n,loadN D M k v p=(n,0)->n.leaf=false->cutSafe D k v key f M (n.kids.getD (kidV n.keys key) 0)/\
  ∀ N M1,cutN D k v key f M (n.kids.getD (kidV n.keys key) 0)=((N,0),M1)->lowN N k v->∀ ny,loadN D M1 k v (n.kids.getD (sideOf (kidV n.keys key)) 0)=(ny,0)->ny.leaf=N.leaf
end
section
variable {dbk pb j:Nat} {FD S S0 N0 Y Y1 F F' T B By:List Nat} {D:DiskM} {w0 wa w w' w7:World} {M M':PgM} {L:List (Nat×Obj)} {x xy:NdC} {n ny:NodeM} {k v:Nat} {t:Int}
theorem Ed.more2 (e:Ed dbk pb FD D j S0 N0 w0 w (bks L) Y F M x n B) (h:Own T wa w L) (hT:TW dbk pb FD D j w7 (By++(bks L++(B++Y))) F' M') (hy:NodeB (Zo FD (By++(bks L++(B++Y))) F') w7 xy ny By) (f:Fr F w w7) (nF:∀ b∈F',b∈F\/w.heap.size<=b) (hB:∀ c∈By,w.heap.size<=c) :
  Ed dbk pb FD D j S0 N0 w0 w7 (bks L) (By++Y) F' M' x n B/\Own (bks L) w7 w7 L/\Oth FD F' w7 (bks L) (B++(By++Y)) xy ny By:=by
 have hm0:∀ b∈bks L++(B++(By++Y)),b∈By++(bks L++(B++Y)):=fun b hb=>by
  simp only [List.mem_append] at hb ⊢
  rcases hb with hb | hb | hb | hb <;> simp [hb]
 obtain ⟨e1,h1⟩:=e.next h (hT.weakY fun b hb=>List.mem_append_right _ hb) f nF
 refine ⟨⟨e1.sg,hT.weakY hm0,e.node.frame f (fun b hb hm=>e.tw.yf b (by simp [hb]) hm) (fun b hb=>.inl (zoF hb)) fun b hb=>?_,e1.sep,e1.bnew,e1.nsub,fun b hb hm=>?_⟩,h1,hy.weak fun b hb=>.inl (qbi hm0 b hb),fun b hb hm=>?_⟩
 ·simp only [Zo,List.mem_append,List.mem_cons] at hb ⊢
  rcases hb with (hb | hb | hb | hb | hb | hb) | hb
  ·simp [hb]
  ·simp [hb]
  ·simp [hb]
  ·simp [hb]
  ·exact .inr (hB b hb)
  ·simp [hb]
  ·exact (nF b hb).imp (fun h=>.inr h) id
 ·rcases List.mem_append.1 hm with h1 | h1
  ·have:=e.node.lt b hb; have:=hB b h1; omega
  ·exact e.ysep b hb h1
 ·have:=qgY h b hb; have:=hB b hm; omega
theorem Ed.less (e:Ed dbk pb FD D j S0 N0 w0 w T Y F M x n B) (hY:∀ b∈Y1,b∈Y):Ed dbk pb FD D j S0 N0 w0 w T Y1 F M x n B:=by
 have hm:∀ b∈T++(B++Y1),b∈T++(B++Y):=fun b hb=>by
  simp only [List.mem_append] at hb ⊢
  rcases hb with hb | hb | hb
  ·simp [hb]
  ·simp [hb]
  ·simp [hY b hb]
 exact ⟨e.sg,e.tw.weakY hm,e.node.weak fun b hb=>.inl (qbi hm b hb),e.sep,e.bnew,e.nsub,fun b hb h=>e.ysep b hb (hY b h)⟩
theorem qtC {L':List (Nat×Obj)} (hT:TW dbk pb FD D j w (B++(T++Y)) F M) (hN:NodeB (Zo FD (B++(T++Y)) F) w x n B) (hd:∀ b∈T,b∉B) (h:Own T w w' L') :
  TW dbk pb FD D j w' (B++Y) F M/\NodeB (Zo FD (B++Y) F) w' x n B:=by
 have hp:∀ b∈T++(B++Y),b∈B++(T++Y):=fun b hb=>by
  rw [List.mem_append,List.mem_append] at hb ⊢
  rcases hb with hb | hb | hb <;> simp [hb]
 have o:Oth FD F w T (B++Y) x n B:=⟨hN.weak fun b hb=>.inl (qbi hp b hb),hd⟩
 exact ⟨(TW.now (hT.weakY hp) h).drop0,(o.now h).node.weak fun b hb=>.inl (qde b hb)⟩
set_option maxHeartbeats 2000000 in
theorem qkA {ks:Sl} {key:Key} (hkB:IsB key) (hcap:CapsOk k v):∀ (f:Nat) {Y F:List Nat} {w0:World} {M:PgM} {p:Int} {K:NdC×Int->World->Prop} (hT:TW dbk pb FD D j w0 Y F M) (hp:U32 p) (hk:RdB (Zo FD Y F) w0 ks key) (hsafe:cutSafe D k v key f M p)
  (kk:∀ yn B' F' w',((cutN D k v key f M p).1.2=0->ShapeN (cutN D k v key f M p).1.1)->TW dbk pb FD D j w' (B'++Y) F' (cutN D k v key f M p).2->NodeB (Zo FD (B'++Y) F') w' yn (cutN D k v key f M p).1.1 B'->Fr F w0 w'->(∀ b∈B',w0.heap.size<=b)->(∀ b∈F',b∈F\/w0.heap.size<=b)->K (yn,(cutN D k v key f M p).1.2) w'),
  call Tryz.prog 109 [.agg (wkV (wkX k v pb t)),.int .u32 p,.slice ks.a ks.len ks.cap] [.agg qaa,.one (.int .i64)] w0 K
 | 0,_,_,_,_,_,_,_,_,_,hsafe,_=>hsafe.elim
 | f+1,Y,F,w0,M,p,K,hT,hp,hk,hsafe,kk=>by
  refine qi6 (w_0:=(wkX k v pb t).1) (w_1:=(wkX k v pb t).2.1) (w_2:=(wkX k v pb t).2.2.1) (w_3:=(wkX k v pb t).2.2.2.1) (w_4:=(wkX k v pb t).2.2.2.2.1) (w_5:=(wkX k v pb t).2.2.2.2.2) (at_:=p) (key:=ks) ?_
  unfold qeM
  have h:=Own.start [] w0
  have g:=Sg.start F w0
  refine Own.new' h fun r1 w2 _ _ h=>?_
  refine Own.new' h fun r3 w4 _ _ h=>?_
  refine Own.ldA (cl:=qaf) h 1 rfl (wkX k v pb t) rfl ?_
  rcases hld:loadN D M k v p with ⟨n,e0⟩
  refine qel (k:=k) (v:=v) (hT.now0 h) hp fun x B w7 hT7 hN7 f7 hB7=>?_
  rw [hld] at hN7 ⊢
  dsimp only at hN7
  obtain ⟨e,h⟩:=Ed.load (N0:=[]) (fun _ h=>nomatch h) g h hT7 hN7 f7 hB7 fun b hb=>Nat.lt_of_lt_of_le (hT.ylt b hb) h.fr.size
  refine Own.new' h fun r8 w9 _ _ h=>?_
  refine Own.st' h 0 rfl (ndV x) rfl rfl (Nat.le_of_ble_eq_true rfl) fun w10 h _=>?_
  have zero:∀ {e:Int} {M':PgM} {F':List Nat} {w'},cutN D k v key (f+1) M p=((zeroN,e),M')->e≠0->TW dbk pb FD D j w' Y F' M'->Fr F w0 w'->(∀ b∈F',b∈F\/w0.heap.size<=b)->K (zeroX,e) w':=fun he hne hT' fr hF=>by
   have:=kk zeroX [] _ _ (fun h=>by rw [he] at h; exact absurd h hne) (by rw [he]; exact hT') (by rw [he]; exact .zero _ _) fr (fun _ h=>nomatch h) hF
   rw [he] at this
   exact this
  refine qab (fun hc=>?_) (fun hc=>?_)
  ·have hne0:e0≠0:=by
    rw [Bool.not_eq_true'] at hc
    exact beq_eq_false_iff_ne.1 hc
   refine Own.st' h 1 rfl (ndV zeroX) rfl rfl (Nat.le_of_ble_eq_true rfl) fun w11 h _=>?_
   refine Own.ldA (cl:=qaa) h 1 rfl zeroX rfl ?_
   have e:=e.now h
   exact zero (qsd hld hne0) hne0 e.tw'.drop0 e.fr e.sg.new
  have he0:e0=0:=by
   rw [Bool.not_eq_false'] at hc
   exact beq_iff_eq.1 hc
  subst he0
  have hr:=qc8 hld
  have sn:=qio hr
  obtain ⟨l1,l2,l3,l4,l5⟩:=qc4 hr
  have e:=e.now h
  have h:=qal h (.refl _)
  have hx0:x.1=n.leaf:=e.node.1
  refine Own.ld (c:=.bool) h 0 rfl x.1 rfl ?_
  refine qab (fun hc=>?_) (fun hc=>?_)
  ·rw [hx0] at hc
   obtain ⟨l6,l7⟩:=l4 hc
   refine Own.ldA (cl:=qaa) h 0 rfl x rfl ?_
   refine qiM e.nodeR (e.rdb hk) hkB hr.2.2.1 (by omega) fun w16 f16=>?_
   obtain ⟨e,h⟩:=e.next0 h f16
   have hpl:=qlk n.keys key
   refine qab (fun hc2=>?_) (fun hc2=>?_)
   ·rw [Bool.not_eq_true'] at hc2
    have miss:=of_decide_eq_false hc2
    refine Own.st' h 1 rfl (ndV zeroX) rfl rfl (Nat.le_of_ble_eq_true rfl) fun w17 h _=>?_
    refine Own.ldA (cl:=qaa) h 1 rfl zeroX rfl ?_
    have e:=e.now h
    exact zero (qrJ hld hc miss) (by decide) e.tw'.drop0 e.fr e.sg.new
   ·rw [Bool.not_eq_false'] at hc2
    have hit:=of_decide_eq_true hc2
    have hlt:=(List.getElem?_eq_some_iff.1 hit).1
    have hcut:=qsw (f:=f) hld hc hit
    have ew:IntKind.wrap .i64 ((placeV n.keys key:Int)+1)=((placeV n.keys key+1:Nat):Int):=qbg (by omega)
    rw [hcut] at kk
    have h:=Own.drew h
    refine Own.ld (c:=.slice) h 0 rfl x.2.1 rfl ?_
    refine Own.ld (c:=.slice) h 0 rfl x.2.2.1 rfl ?_
    have e:=e.now h
    dsimp only
    refine e.delK h (i:=placeV n.keys key) hlt rfl ew (by omega) fun s21 B1 w22 e h _=>?_
    refine qah (h.cell 0 rfl rfl) ?_
    refine e.delV h (i:=placeV n.keys key) (by dsimp only; omega) rfl ew (by dsimp only; omega) fun s24 B2 w25 e h _=>?_
    refine Own.st' h 0 rfl (ndV (x.1,s21,x.2.2.1,x.2.2.2)) rfl rfl (Nat.le_of_ble_eq_true rfl) fun w26 h _=>?_
    refine Own.st' h 0 rfl (ndV (x.1,s21,s24,x.2.2.2)) rfl rfl (Nat.le_of_ble_eq_true rfl) fun w27 h _=>?_
    refine Own.ldA (cl:=qaa) h 0 rfl (x.1,s21,s24,x.2.2.2) rfl ?_
    refine Own.st' h 1 rfl (ndV (x.1,s21,s24,x.2.2.2)) rfl rfl (Nat.le_of_ble_eq_true rfl) fun w29 h _=>?_
    refine Own.ldA (cl:=qaa) h 1 rfl (x.1,s21,s24,x.2.2.2) rfl ?_
    have e:=e.now h
    have k1:=qdZ hlt
    have k2:=qdZ (l:=n.vals) (i:=placeV n.keys key) (by omega)
    exact kk (x.1,s21,s24,x.2.2.2) B2 F w29 (fun _=>⟨fun _=>by dsimp only; omega,(fun h=>by dsimp only at h; rw [hc] at h; cases h),by dsimp only; omega,by dsimp only; omega,by dsimp only; omega⟩) e.tw.drop0 (e.node.weak fun b hb=>.inl (qde b hb)) e.fr (fun b hb=>(e.bnew b hb).elim (fun h=>nomatch h) id) e.sg.new
  ·rw [hx0] at hc
   have hnl:¬ n.leaf=true:=by rw [hc]; decide
   obtain ⟨l6,l7,l8⟩:=l5 hc
   obtain ⟨hsafe1,hsafe2⟩:=hsafe n hld hc
   refine Own.ldA (cl:=qaa) h 0 rfl x rfl ?_
   refine qne e.nodeR (e.rdb hk) hkB hr.2.2.1 (by omega) fun w33 f33=>?_
   obtain ⟨e,h⟩:=e.next0 h f33
   have hkl:=qhp n.keys key
   have hc1:=fun N e1 M1 he=>qrV (key:=key) (f:=f) (N:=N) (e1:=e1) (M1:=M1) hld hnl he
   have hc2:=fun N M1 he=>qq3 (key:=key) (f:=f) (N:=N) (M1:=M1) hld hnl he
   have hc3:=fun N M1 he=>qqJ (key:=key) (f:=f) (N:=N) (M1:=M1) hld hnl he
   generalize hcc:kidV n.keys key=c at hkl hsafe1 hsafe2 hc1 hc2 hc3 ⊢
   have hcl:c<n.kids.length:=by omega
   have hgd:n.kids.getD c 0=n.kids[c]:=qcu hcl
   rw [hgd] at hsafe1 hsafe2 hc1 hc2 hc3
   have hu:U32 n.kids[c]:=e.node.2.1.2.2 _ (List.getElem_mem hcl)
   rcases hpn:cutN D k v key f M n.kids[c] with ⟨⟨N1,e1⟩,M1⟩
   have hc1:=hc1 N1 e1 M1 hpn
   refine ⟨?a,?b⟩
   case' a=>
    have h:=Own.drew h
    have e:=e.now h
    refine Own.ldA (cl:=qaf) h 2 rfl (wkX k v pb t) rfl ?_
    refine Own.ld (c:=.slice) h 0 rfl x.2.2.2 rfl ?_
    refine Rds.getU e.kidsR c rfl hcl fun a36 hh=>?_
    have hz:=e.fr.size
    refine qkA hkB hcap f e.tw hu (e.rdb hk) hsafe1 fun xx Bx F1 w39 hsh hT39 hN39 f39 hB39 n39=>?_
    rw [hpn] at hsh hT39 hN39 ⊢
    dsimp only at hsh hN39 ⊢
    obtain ⟨e,h,ox⟩:=e.more2 h hT39 hN39 f39 n39 hB39
    refine Own.new' h fun r40 w41 _ _ h=>?_
    refine qao (hh _ _ (e.now h).kidsR) (h.cell 1 rfl rfl) (h.cells 3 rfl rfl) ?_
    refine Own.st' h 0 rfl (ndV xx) rfl rfl (Nat.le_of_ble_eq_true rfl) fun w45 h _=>?_
    have hBx:∀ b∈Bx,w0.heap.size<=b:=fun b hb=>Nat.le_trans hz (hB39 b hb)
    have ox:=ox.now h
    have e:=e.now h
    have h:=qal h (.refl _)
   case' b=>
    have h:=Own.drew h
    have e:=e.now h
    have h:=qal h (.refl _)
    refine Own.ldA (cl:=qaf) h 2 rfl (wkX k v pb t) rfl ?_
    refine Own.ld (c:=.slice) h 0 rfl x.2.2.2 rfl ?_
    refine Rds.getU e.kidsR c rfl hcl fun a36 hh=>?_
    refine Own.new' h fun r40 w41 _ _ h=>?_
    have e:=e.now h
    refine qao (hh _ _ e.kidsR) (h.cell 1 rfl rfl) (h.cells 3 rfl rfl) ?_
    have hz:=e.fr.size
    refine qkA hkB hcap f e.tw hu (e.rdb hk) hsafe1 fun xx Bx F1 w39 hsh hT39 hN39 f39 hB39 n39=>?_
    rw [hpn] at hsh hT39 hN39 ⊢
    dsimp only at hsh hN39 ⊢
    obtain ⟨e,h,ox⟩:=e.more2 h hT39 hN39 f39 n39 hB39
    refine Own.st' h 0 rfl (ndV xx) rfl rfl (Nat.le_of_ble_eq_true rfl) fun w45 h _=>?_
    have hBx:∀ b∈Bx,w0.heap.size<=b:=fun b hb=>Nat.le_trans hz (hB39 b hb)
    have ox:=ox.now h
    have e:=e.now h
    have h:=qal h (.refl _)
   all_goals
    refine qab (fun hq=>?_) (fun hq=>?_)
    ·have hne1:e1≠0:=by
      rw [Bool.not_eq_true'] at hq
      exact beq_eq_false_iff_ne.1 hq
     refine Own.st' h 2 rfl (ndV zeroX) rfl rfl (Nat.le_of_ble_eq_true rfl) fun w46 h _=>?_
     refine Own.ldA (cl:=qaa) h 2 rfl zeroX rfl ?_
     have e:=e.now h
     exact zero (hc1 hne1) hne1 (e.tw'.weakY fun b hb=>by simp [hb]) e.fr e.sg.new
    have he1:e1=0:=by
     rw [Bool.not_eq_false'] at hq
     exact beq_iff_eq.1 hq
    subst he1
    have sx:=hsh rfl
    refine Own.ldA (cl:=qa2) h 3 rfl (shX k v) rfl ?_
    refine Own.ldA (cl:=qaa) h 0 rfl xx rfl ?_
    have lx:NodeL xx N1:=(ox.node.rd (S:=[]) (fun _ _ h=>(nomatch h)) fun _ h=>nomatch h).lens
    refine que lx fun w51 f51=>?_
    obtain ⟨e,h⟩:=e.next0 h f51
    have ox:=ox.frame0 f51
    refine qab (fun hq2=>?_) (fun hq2=>?_)
    ·have hlow:¬ lowN N1 k v:=by
      rw [Bool.not_eq_true'] at hq2
      exact of_decide_eq_false hq2
     have hcut:=hc2 N1 M1 hpn hlow
     rw [hcut] at kk
     have h:=Own.drew h
     have e:=e.now h
     have ox:=ox.now h
     have h:=qal h (.refl _)
     refine Own.ld (c:=.slice) h 1 rfl x.2.2.2 rfl ?_
     refine Own.ldA (cl:=qaf) h 3 rfl (wkX k v pb t) rfl ?_
     refine Own.ld (c:=.slice) h 1 rfl x.2.2.2 rfl ?_
     refine Rds.get (c:=.int .u32) e.kidsR c rfl (x:=n.kids[c]) (List.getElem?_eq_getElem hcl) (y:=n.kids[c]) rfl ?_
     refine Own.ldA (cl:=qaa) h 0 rfl xx rfl ?_
     have z1:=sx.keys
     have z2:=sx.vals
     have z3:=sx.kids
     have hxR:NodeR (Zo FD (bks _++(B++Y)) F1) w51.drew xx N1:=ox.node.rd (fun b hb hm=>by
      have hs:=e.tw.sep b (by simp [hb])
      rcases List.mem_append.1 hm with hm | hm
      ·rcases List.mem_append.1 hm with hm | hm
       ·exact hs.1 hm
       ·rcases List.mem_cons.1 hm with hm | hm
        ·exact hs.2 hm
        ·rcases List.mem_append.1 hm with hm | hm
         ·exact ox.sep b hm hb
         ·rcases List.mem_append.1 hm with hm | hm
          ·exact e.ysep b hm (by simp [hb])
          ·have:=hBx b hb; have:=hT.ylt b hm; omega
      ·exact e.tw.yf b (by simp [hb]) hm) fun b hb=>.inl (qbi (fun b hb=>by
       rw [List.mem_append,List.mem_append] at hb ⊢
       rcases hb with hb | hb | hb
       ·exact .inl hb
       ·exact .inr (by simp [hb])
       ·exact .inr (by simp [hb])) b hb)
     have e:=e.less (Y1:=Y) fun b hb=>List.mem_append_right _ hb
     refine qa7 e.tw hxR (by omega) (by omega) (by omega) fun F2 w59 hT59 f59 n59=>?_
     have hu2:U32 (storeN k v M1 n.kids[c] N1).1.1:=qa6 e.tw.wf hu
     obtain ⟨e,h⟩:=e.next h hT59 f59 n59
     generalize storeN k v M1 n.kids[c] N1=st at kk e hu2 ⊢
     obtain ⟨⟨a1,s1⟩,M2⟩:=st
     dsimp only at kk e hu2 ⊢
     refine qah (h.cell 1 rfl rfl) ?_
     refine e.setI h (i:=c) hcl rfl hu2 fun B2 w62 e h _=>?_
     refine Own.ldA (cl:=qaa) h 1 rfl x rfl ?_
     refine Own.st' h 2 rfl (ndV x) rfl rfl (Nat.le_of_ble_eq_true rfl) fun w64 h _=>?_
     refine Own.ldA (cl:=qaa) h 2 rfl x rfl ?_
     have e:=e.now h
     exact kk x B2 F2 w64 (fun _=>⟨(fun h=>by dsimp only at h; rw [hc] at h; cases h),fun _=>by dsimp only; rw [List.length_set]; omega,by dsimp only; omega,by dsimp only; omega,by dsimp only; rw [List.length_set]; omega⟩) e.tw.drop0 (e.node.weak fun b hb=>.inl (qde b hb)) e.fr (fun b hb=>(e.bnew b hb).elim (fun h=>nomatch h) id) e.sg.new
    ·have hlow:lowN N1 k v:=by
      rw [Bool.not_eq_false'] at hq2
      exact of_decide_eq_true hq2
     have hcut:=hc3 N1 M1 hpn hlow
     have hs2:=hsafe2 N1 M1 hpn hlow
     rw [hcut] at kk
     have e:=e.sub (T1:=[r40,r8,r3,r1]) fun b hb=>hb
     have ox:Oth FD F1 w51 [r40,r8,r3,r1] (B++(Bx++Y)) xx N1 Bx:=ox
     have hperm:∀ b∈B++(Bx++([r40,r8,r3,r1]++Y)),b∈[r40,r8,r3,r1]++(B++(Bx++Y)):=fun b hb=>by
      rw [List.mem_append,List.mem_append,List.mem_append] at hb ⊢
      rcases hb with hb | hb | hb | hb <;> simp [hb]
     have dxY:∀ b∈Bx,b∉Y:=fun b hb hm=>by have:=hBx b hb; have:=hT.ylt b hm; omega
     have hsc:sideOf c+1=c\/c+1=sideOf c:=by unfold sideOf; split <;> omega
     have hs:sideOf c<n.kids.length:=by unfold sideOf; split <;> omega
     have hfin:=fun {K':NdC×Int->World->Prop} (kk')=>qsD (t:=t) (pb:=pb) (j:=j) (dbk:=dbk) (Y:=[r40,r8,r3,r1]++Y) (K:=K') (e.tw.weakY hperm) (e.node.weak fun b hb=>.inl (qbi hperm b hb)) (ox.node.weak fun b hb=>.inl (qbi hperm b hb)) (fun b hb hm=>e.ysep b hb (List.mem_append_left _ hm)) (fun b hb hm=>(List.mem_append.1 hm).elim (fun hm=>e.sep b hm hb) fun hm=>e.ysep b hb (List.mem_append_right _ hm)) (fun b hb hm=>(List.mem_append.1 hm).elim (fun hm=>ox.sep b hm hb) (dxY b hb)) sn sx hc hsc hs hcl hs2 hcap kk'
     have hsp:=fun h0=>qn5 (D:=D) (M:=M1) (k:=k) (v:=v) (nx:=N1) sn hc hsc hs hcl h0
     have hS:∀ b∈B++(Bx++F1),b∈F\/w0.heap.size<=b:=fun b hb=>by
      rcases List.mem_append.1 hb with hb | hb
      ·exact (e.bnew b hb).elim (fun h=>nomatch h) .inr
      ·rcases List.mem_append.1 hb with hb | hb
       ·exact .inr (hBx b hb)
       ·exact e.sg.new b hb
     have htl:∀ b∈[r40,r8,r3,r1],b<w51.heap.size:=fun b hb=>e.tw.ylt b (List.mem_append_left _ hb)
     have hdis:∀ b∈[r40,r8,r3,r1],b∉B++(Bx++F1):=fun b hb hm=>by
      rcases List.mem_append.1 hm with hm | hm
      ·exact e.sep b hb hm
      ·rcases List.mem_append.1 hm with hm | hm
       ·exact ox.sep b hb hm
       ·exact e.tw.yf b (List.mem_append_left _ hb) hm
     generalize evenM D k v M1 n (sideOf c) c N1=ev at kk hsp hfin
     have hside:∀ {z:Int},z=(sideOf c:Int)->(ldA qaf ⟨r1,0,none⟩ w51 fun t_65=>ldA qaa ⟨r8,0,none⟩ w51 fun t_66=>ldA qaa ⟨r40,0,none⟩ w51 fun t_68=>
       call Tryz.prog 143 [Value.agg (List.toArray (HL.mk qaf t_65)),Value.agg (List.toArray (HL.mk qaa t_66)),Value.int IntKind.i64 z,Value.int IntKind.i64 c,Value.agg (List.toArray (HL.mk qaa t_68))] [Ty1.agg qaa,Ty1.one (Cell.int IntKind.i64)] w51 fun t_69 w_70=>
       st ⟨r3,0,none⟩ (HL.mk qaa t_69.1) w_70 fun w_71=>ldA qaa ⟨r3,0,none⟩ w_71 fun t_72=>K (t_72,t_69.2) w_71):=fun hz=>by
      subst hz
      refine Own.ldA (cl:=qaf) h 3 rfl (wkX k v pb t) rfl ?_
      refine Own.ldA (cl:=qaa) h 1 rfl x rfl ?_
      refine Own.ldA (cl:=qaa) h 0 rfl xx rfl ?_
      refine hfin fun yn B' F' w70 hT70 hN70 f70 nB nF=>?_
      have h:=qaH h f70 hdis
      refine Own.st' h 2 rfl (ndV yn) rfl rfl (Nat.le_of_ble_eq_true rfl) fun w71 h _=>?_
      refine Own.ldA (cl:=qaa) h 2 rfl yn rfl ?_
      obtain ⟨hTf,hNf⟩:=qtC (T:=[r40,r8,r3,r1]) hT70 hN70 (fun b hb hm=>(nB b hm).elim (e.sep b hb) fun h1=>by have:=htl b hb; omega) h
      exact kk yn B' F' w71 hsp hTf hNf ((e.fr.trans' f70 hS).trans' h.fr e.sg.own) (fun b hb=>(nB b hb).elim (fun h1=>(e.bnew b h1).elim (fun h=>nomatch h) id) fun h1=>Nat.le_trans e.fr.size h1) fun b hb=>(nF b hb).elim (hS b) fun h1=>.inr (Nat.le_trans e.fr.size h1)
     refine qab (fun hq3=>?_) (fun hq3=>?_)
     ·have hpos:0<c:=by have:=of_decide_eq_true hq3; omega
      refine hside ?_
      unfold sideOf
      rw [if_pos hpos,wi' _ (by omega)]
      omega
     ·have hpos:¬ 0<c:=by have:=of_decide_eq_false hq3; omega
      refine hside ?_
      unfold sideOf
      rw [if_neg hpos,wi' _ (by omega)]
      omega
end
section
abbrev RtC:=Int×Int×Int
def rtV (x:RtC):Array Value:=#[.int .u32 x.1,.int .u32 x.2.1,.int .u32 x.2.2]
abbrev RT:TypeId:=39
section
variable {S:List Nat} {w:World}
theorem qkO {vb:Nat} {T':TypeId} {fr:Nat×Nat} {ks:Sl} {key:Key} (hb:w.heap[vb]?=some (.cells #[elSl ks] T' fr)) (hS:vb∉S) (hk:RdB S w ks key):RdK S w ⟨some ⟨vb,0,none⟩,1,1⟩ [(ks,key)]:=
 ⟨⟨rfl,Nat.le_refl _,.inr ⟨vb,0,_,T',fr,rfl,hb,hS,fun i x hx=>by
  cases i with
  | zero=>cases hx; rfl
  | succ i=>simp at hx⟩⟩,fun p hp=>by rw [List.mem_singleton.1 hp]; exact hk⟩
theorem qte {vb:Nat} {T':TypeId} {fr:Nat×Nat} {a b:Int} (hb:w.heap[vb]?=some (.cells #[.int .u32 a,.int .u32 b] T' fr)) (hS:vb∉S):Rds encU 1 S w ⟨some ⟨vb,0,none⟩,2,2⟩ [a,b]:=
 ⟨rfl,Nat.le_refl _,.inr ⟨vb,0,_,T',fr,rfl,hb,hS,fun i x hx=>by
  match i,hx with
  | 0,hx=>cases hx; rfl
  | 1,hx=>cases hx; rfl
  | i+2,hx=>simp at hx⟩⟩
end
section
variable {dbk pb j:Nat} {FD Y F F' T:List Nat} {D:DiskM} {w0 w w':World} {M M':PgM} {L L':List (Nat×Obj)} {k v:Nat} {t:Int}
theorem qj1 {b:Nat} (hT:TW dbk pb FD D j w Y F M) (hb:w.heap.size<=b):b∉Zo FD Y F:=fun hm=>by have:=hT.zlt b hm; omega
set_option maxHeartbeats 1000000 in
theorem qpE {f:Nat} {ks vs:Sl} {key val:Key} {K:Int->World->Prop} (hkB:IsB key) (hvB:IsB val) (hT:TW dbk pb FD D j w0 Y F M) (hk:RdB (Zo FD Y F) w0 ks key) (hv:RdB (Zo FD Y F) w0 vs val) (hne:(rootM M t).1≠0->(putN D k v key val f M (rootM M t).1).1.2≠-1)
  (kk:∀ F' w',TW dbk pb FD D j w' Y F' (insertN D k v t key val f M).2->Fr F w0 w'->(∀ b∈F',b∈F\/w0.heap.size<=b)->K (insertN D k v t key val f M).1 w') :
  call Tryz.prog 62 [.agg (wkV (wkX k v pb t)),.slice ks.a ks.len ks.cap,.slice vs.a vs.len vs.cap] [.one (.int .i64)] w0 K:=by
 refine qfX (w_0:=(wkX k v pb t).1) (w_1:=(wkX k v pb t).2.1) (w_2:=(wkX k v pb t).2.2.1) (w_3:=(wkX k v pb t).2.2.2.1) (w_4:=(wkX k v pb t).2.2.2.2.1) (w_5:=(wkX k v pb t).2.2.2.2.2) (key:=ks) (value:=vs) ?_
 unfold qcZ
 have g:=Sg.start F w0
 have h:=Own.start [] w0
 obtain ⟨u1,u2,u3⟩:=qi9 hT.wf t
 refine Own.new' h fun r1 w2 _ _ h=>?_
 refine Own.ld (c:=.ptr) h 0 rfl (some ⟨pb,0,none⟩) rfl ?_
 refine Own.ld (c:=.int .i64) h 0 rfl t rfl ?_
 refine TW.root (hT.frame0 h.fr) fun w6 f6=>?_
 have h:=h.frame0 f6
 unfold insertN at kk
 generalize rootM M t=rt at kk hne u1 u2 u3 ⊢
 refine Own.new' h fun r7 w8 _ _ h=>?_
 refine Own.st' h 0 rfl (rtV rt) rfl rfl (Nat.le_of_ble_eq_true rfl) fun w9 h _=>?_
 refine Own.ld (c:=.int .u32) h 0 rfl rt.1 rfl ?_
 refine qab (fun hc=>?_) (fun hc=>?_)
 ·have hc:rt.1=0:=beq_iff_eq.1 hc
  rw [if_pos hc] at kk
  refine Own.ldA (cl:=qaf) h 1 rfl (wkX k v pb t) rfl ?_
  have hT9:=hT.now0 h
  have hk9:=qbq hk h
  have hv9:=qbq hv h
  have g:=g.next0 h (.refl [] _)
  have h:=qal h (.refl _)
  refine Own.new' h fun r12 w13 e12 f13 h=>?_
  refine Own.new' h fun r14 w15 e14 f15 h=>?_
  have hs13:=f13.size
  have f915:=f13.trans f15
  have hT15:=hT9.frame0 f915
  have n12:=qj1 hT9 (b:=r12) (by omega)
  have n14:=qj1 hT9 (b:=r14) (by omega)
  have hRk:=qkO (h.at (i:=1) rfl) n12 (hk9.frame0 f915)
  have hRv:=qkO (h.at (i:=0) rfl) n14 (hv9.frame0 f915)
  have hx:NodeR _ w15 (true,⟨some ⟨r12,0,none⟩,1,1⟩,⟨some ⟨r14,0,none⟩,1,1⟩,⟨none,0,0⟩) (lfOf [(key,val)]):=⟨rfl,⟨fun a ha=>by rw [List.mem_singleton.1 ha]; exact hkB,fun a ha=>by rw [List.mem_singleton.1 ha]; exact hvB,fun _ h=>nomatch h⟩,⟨_,hRk,rfl⟩,⟨_,hRv,rfl⟩,.nil _ _ _ _⟩
  refine qa7 hT15 hx (Nat.le_of_ble_eq_true rfl) (Nat.le_of_ble_eq_true rfl) (Nat.le_of_ble_eq_true rfl) fun F1 w17 hT17 f17 n17=>?_
  have g:=g.next h f17 n17
  have h:=qaH (h.sub (.cons _ (.cons _ (.refl _)))) f17 fun b hb=>hT15.yf b (List.mem_append_left _ hb)
  have hu:U32 (storeN k v M 0 (lfOf [(key,val)])).1.1:=qa6 hT.wf qcz
  unfold rootTo at kk
  generalize storeN k v M 0 (lfOf [(key,val)])=st at kk hT17 hu ⊢
  obtain ⟨⟨q,e⟩,M1⟩:=st
  dsimp only at kk hT17 hu ⊢
  refine qab (fun hc2=>?_) (fun hc2=>?_)
  ·have hne:e≠0:=by
    rw [Bool.not_eq_true'] at hc2
    exact beq_eq_false_iff_ne.1 hc2
   rw [if_pos hne] at kk
   exact kk F1 w17 hT17.drop0 g.tot g.new
  ·have hne:¬ e≠0:=by
    rw [Bool.not_eq_false'] at hc2
    exact fun h=>h (beq_iff_eq.1 hc2)
   rw [if_neg hne] at kk
   refine Own.ld (c:=.ptr) h 1 rfl (some ⟨pb,0,none⟩) rfl ?_
   refine Own.ld (c:=.int .i64) h 1 rfl t rfl ?_
   refine TW.setRoot hT17 hu ⟨by decide,by decide⟩ ⟨by decide,by decide⟩ fun w21 hT21 f21=>?_
   exact kk F1 w21 hT21.drop0 (g.tot.trans' f21 g.new) g.new
 ·have hc:rt.1≠0:=beq_eq_false_iff_ne.1 hc
  rw [if_neg hc] at kk
  refine Own.ldA (cl:=qaf) h 1 rfl (wkX k v pb t) rfl ?_
  refine Own.ld (c:=.int .u32) h 0 rfl rt.1 rfl ?_
  refine qkH hkB hvB f (hT.now0 h) u1 (qbq hk h) (qbq hv h) (hne hc) fun gs F1 w25 hG hT25 hgs f25 n25=>?_
  have g:=g.next h f25 n25
  have h:=(hT.now0 h).own h f25
  generalize putN D k v key val f M rt.1=pn at kk hG hT25 hgs ⊢
  obtain ⟨⟨g1,e1⟩,M1⟩:=pn
  dsimp only at hG hT25 hgs ⊢
  unfold growN at kk
  dsimp only at kk
  refine Own.new' h fun r26 w27 _ _ h=>?_
  refine Own.st' h 0 rfl (grV (grX g1 gs)) rfl rfl (Nat.le_of_ble_eq_true rfl) fun w28 h _=>?_
  refine qab (fun hc2=>?_) (fun hc2=>?_)
  ·have hne:e1≠0:=by
    rw [Bool.not_eq_true'] at hc2
    exact beq_eq_false_iff_ne.1 hc2
   rw [if_pos hne] at kk
   exact kk F1 w28 (hT25.now h).drop0 (g.fr h) g.new
  have hne:¬ e1≠0:=by
   rw [Bool.not_eq_false'] at hc2
   exact fun h=>h (beq_iff_eq.1 hc2)
  rw [if_neg hne] at kk
  refine Own.ld (c:=.int .u32) h 0 rfl g1.page rfl ?_
  refine Own.st' h 1 rfl (rtV (g1.page,rt.2.1,rt.2.2)) rfl rfl (Nat.le_of_ble_eq_true rfl) fun w30 h _=>?_
  have hcu:U32 (if g1.fresh then IntKind.wrap .u32 (rt.2.1+1) else rt.2.1):=by
   split
   ·exact qaS _
   ·exact u2
  refine qag (fun _ w'=>Own [r7,r1] w25 w' [(r26,.cells (grV (grX g1 gs)) GR (0,0)),(r7,.cells (rtV (g1.page,(if g1.fresh then IntKind.wrap .u32 (rt.2.1+1) else rt.2.1),rt.2.2)) RT (0,0)),(r1,.cells (wkV (wkX k v pb t)) WK (0,0))]) ?_ ?_
  ·refine Own.ld (c:=.bool) h 0 rfl g1.fresh rfl ?_
   refine qab (fun hc3=>?_) (fun hc3=>?_)
   ·rw [if_pos hc3]
    refine Own.ld (c:=.int .u32) h 1 rfl rt.2.1 rfl ?_
    refine Own.st' h 1 rfl (rtV (g1.page,IntKind.wrap .u32 (rt.2.1+1),rt.2.2)) rfl rfl (Nat.le_of_ble_eq_true rfl) fun w34 h _=>h
   ·rw [if_neg (by rw [hc3]; decide)]
    exact h
  intro _ w36 h
  generalize (if g1.fresh then IntKind.wrap .u32 (rt.2.1+1) else rt.2.1)=cnt at kk hcu h
  refine qag (fun _ w'=>∃ (a c:Int) (F2 T:List Nat) (M2:PgM) (wa:World),Sg F w0 wa F2 T/\TW dbk pb FD D j wa (T++Y) F2 M2/\Own T wa w' [(r26,.cells (grV (grX g1 gs)) GR (0,0)),(r7,.cells (rtV (a,cnt,c)) RT (0,0)),(r1,.cells (wkV (wkX k v pb t)) WK (0,0))]/\U32 a/\U32 c/\
   ∀ F' w',TW dbk pb FD D j w' Y F' (setRootM M2 t a cnt c).2->Fr F w0 w'->(∀ b∈F',b∈F\/w0.heap.size<=b)->K (setRootM M2 t a cnt c).1 w') ?_ ?_
  ·refine Own.ld (c:=.int .u32) h 0 rfl g1.other rfl ?_
   refine qab (fun hc3=>?_) (fun hc3=>?_)
   ·have hc3:g1.other≠0:=by
     rw [Bool.not_eq_true'] at hc3
     exact beq_eq_false_iff_ne.1 hc3
    rw [if_pos hc3] at kk
    refine Own.ldA (cl:=qaf) h 2 rfl (wkX k v pb t) rfl ?_
    refine Own.ld (c:=.slice) h 0 rfl gs rfl ?_
    have hT36:=TW.now (T:=[r7,r1]) hT25 h
    have hgs36:=qaD (T:=[r7,r1]) hgs h
    have g:Sg F w0 w36 F1 (bks _):=g.next0 h (.refl [] _)
    have h:=qal h (.refl _)
    refine Own.new' h fun r41 w42 e42 f42 h=>?_
    refine Own.ld (c:=.int .u32) h 1 rfl g1.page rfl ?_
    refine Own.ld (c:=.int .u32) h 1 rfl g1.other rfl ?_
    refine Own.new' h fun r45 w46 e46 f46 h=>?_
    have hs42:=f42.size
    have f36:=f42.trans f46
    have hT46:=hT36.frame0 f36
    have n41:=qj1 hT36 (b:=r41) (by omega)
    have n45:=qj1 hT36 (b:=r45) (by omega)
    have hRk:=qkO (h.at (i:=1) rfl) n41 (hgs36.frame0 f36)
    have hRi:=qte (h.at (i:=0) rfl) n45
    have hx:NodeR _ w46 (false,⟨some ⟨r41,0,none⟩,1,1⟩,⟨none,0,0⟩,⟨some ⟨r45,0,none⟩,2,2⟩) ⟨false,[g1.key],[],[g1.page,g1.other]⟩:=⟨rfl,⟨fun a ha=>by rw [List.mem_singleton.1 ha]; exact hG.key,fun _ h=>(nomatch h),fun a ha=>by
     simp only [List.mem_cons,List.not_mem_nil,or_false] at ha
     rcases ha with rfl | rfl
     ·exact hG.page
     ·exact hG.other⟩,⟨_,hRk,rfl⟩,⟨_,.nil _ _,rfl⟩,hRi⟩
    refine qa7 hT46 hx (Nat.le_of_ble_eq_true rfl) (Nat.le_of_ble_eq_true rfl) (Nat.le_of_ble_eq_true rfl) fun F2 w48 hT48 f48 n48=>?_
    have g:=g.next h f48 n48
    have h:=qaH (h.sub (.cons _ (.cons _ (.refl _)))) f48 fun b hb=>hT46.yf b (List.mem_append_left _ hb)
    have hu:U32 (storeN k v M1 0 ⟨false,[g1.key],[],[g1.page,g1.other]⟩).1.1:=qa6 hT36.wf qcz
    unfold rootTo at kk
    generalize storeN k v M1 0 ⟨false,[g1.key],[],[g1.page,g1.other]⟩=st at kk hT48 hu ⊢
    obtain ⟨⟨q,e⟩,M2⟩:=st
    dsimp only at kk hT48 hu ⊢
    refine qab (fun hc4=>?_) (fun hc4=>?_)
    ·have hne:e≠0:=by
      rw [Bool.not_eq_true'] at hc4
      exact beq_eq_false_iff_ne.1 hc4
     rw [if_pos hne] at kk
     exact kk F2 w48 hT48.drop0 g.tot g.new
    ·have hne:¬ e≠0:=by
      rw [Bool.not_eq_false'] at hc4
      exact fun h=>h (beq_iff_eq.1 hc4)
     rw [if_neg hne] at kk
     refine Own.ld (c:=.int .u32) h 1 rfl rt.2.2 rfl ?_
     refine Own.st' h 1 rfl (rtV (q,cnt,rt.2.2)) rfl rfl (Nat.le_of_ble_eq_true rfl) fun w50 h _=>?_
     refine Own.st' h 1 rfl (rtV (q,cnt,IntKind.wrap .u32 (rt.2.2+1))) rfl rfl (Nat.le_of_ble_eq_true rfl) fun w51 h _=>?_
     exact ⟨q,_,F2,_,M2,w48,⟨g.tot,g.new,fun b hb=>g.own b (by simp at hb ⊢; rcases hb with h | h | h <;> simp [h])⟩,hT48,h,hu,qaS _,kk⟩
   ·have hc3:¬ g1.other≠0:=by
     rw [Bool.not_eq_false'] at hc3
     exact fun h=>h (beq_iff_eq.1 hc3)
    rw [if_neg hc3] at kk
    exact ⟨g1.page,rt.2.2,F1,[r7,r1],M1,w25,g,hT25,h,hG.page,u3,kk⟩
  rintro _ w53 ⟨a,c,F2,T,M2,wa,g,hTa,h,ha,hcc,kk⟩
  refine Own.ld (c:=.ptr) h 2 rfl (some ⟨pb,0,none⟩) rfl ?_
  refine Own.ld (c:=.int .i64) h 2 rfl t rfl ?_
  refine Own.ldA (cl:=qcd) h 1 rfl (a,cnt,c) rfl ?_
  refine TW.setRoot (hTa.now h) ha hcu hcc fun w57 hT57 f57=>?_
  exact kk F2 w57 hT57.drop0 ((g.fr h).trans' f57 g.new) g.new
end
end
section
section
variable {dbk pb j:Nat} {FD Y F F' T:List Nat} {D:DiskM} {w0 w w':World} {M M':PgM} {L L':List (Nat×Obj)} {k v:Nat} {t:Int}
theorem Oth.rd {x:NdC} {n:NodeM} {B:List Nat} (o:Oth FD F w T (B++Y) x n B) (hT:TW dbk pb FD D j w (T++(B++Y)) F M) (hBY:∀ b∈B,b∉Y):NodeR (Zo FD (T++Y) F) w x n:=
 o.node.rd (fun b hb hm=>by
  have hs:=hT.sep b (by simp [hb])
  simp only [Zo,List.mem_append,List.mem_cons] at hm
  rcases hm with (hm | hm | hm | hm) | hm
  ·exact hs.1 hm
  ·exact hs.2 hm
  ·exact o.sep b hm hb
  ·exact hBY b hb hm
  ·exact hT.yf b (by simp [hb]) hm) fun b hb=>.inl (qbi (fun b hb=>by
   rw [List.mem_append] at hb
   simp only [List.mem_append]
   rcases hb with hb | hb
   ·exact .inl hb
   ·exact .inr (.inr hb)) b hb)
theorem Oth.next {R:List Nat} {x:NdC} {n:NodeM} {B:List Nat} (o:Oth FD F w T R x n B) (f:Fr F w w') (hB:∀ b∈B,b∉F) (nw:∀ b∈F',b∈F\/w.heap.size<=b):Oth FD F' w' T R x n B:=⟨o.node.frame f hB (fun b hb=>.inl (zoF hb)) (TW.znew nw),o.sep⟩
theorem qqx {r:Int×Int×Int} {N:NodeM}:shrinkN k v t r ((N,0),M) =
  if N.leaf=true/\N.keys.length=0 then (if (dropV M r.1).1≠0 then ((dropV M r.1).1,(dropV M r.1).2) else setRootM (dropV M r.1).2 t 0 0 0)
  else if N.leaf=false/\N.kids.length=1 then (if (dropV M r.1).1≠0 then ((dropV M r.1).1,(dropV M r.1).2) else setRootM (dropV M r.1).2 t (N.kids.getD 0 0) (IntKind.wrap .u32 (r.2.1-1)) (IntKind.wrap .u32 (r.2.2-1)))
  else rootTo t (storeN k v M r.1 N) (IntKind.wrap .u32 (r.2.1-1)) r.2.2:=by
 unfold shrinkN
 rw [if_neg (fun h=>h rfl)]
set_option maxHeartbeats 1000000 in
theorem qpO {f:Nat} {ks:Sl} {key:Key} {K:Int->World->Prop} (hkB:IsB key) (hcap:CapsOk k v) (hT:TW dbk pb FD D j w0 Y F M) (hk:RdB (Zo FD Y F) w0 ks key) (hsafe:cutSafe D k v key f M (rootM M t).1)
  (kk:∀ F' w',TW dbk pb FD D j w' Y F' (removeN D k v t key f M).2->Fr F w0 w'->(∀ b∈F',b∈F\/w0.heap.size<=b)->K (removeN D k v t key f M).1 w') :
  call Tryz.prog 66 [.agg (wkV (wkX k v pb t)),.slice ks.a ks.len ks.cap] [.one (.int .i64)] w0 K:=by
 refine qf4 (w_0:=(wkX k v pb t).1) (w_1:=(wkX k v pb t).2.1) (w_2:=(wkX k v pb t).2.2.1) (w_3:=(wkX k v pb t).2.2.2.1) (w_4:=(wkX k v pb t).2.2.2.2.1) (w_5:=(wkX k v pb t).2.2.2.2.2) (key:=ks) ?_
 unfold qcY
 have g:=Sg.start F w0
 have h:=Own.start [] w0
 obtain ⟨u1,u2,u3⟩:=qi9 hT.wf t
 refine Own.new' h fun r1 w2 _ _ h=>?_
 refine Own.ld (c:=.ptr) h 0 rfl (some ⟨pb,0,none⟩) rfl ?_
 refine Own.ld (c:=.int .i64) h 0 rfl t rfl ?_
 refine TW.root (hT.frame0 h.fr) fun w6 f6=>?_
 have h:=h.frame0 f6
 unfold removeN at kk
 generalize rootM M t=rt at kk hsafe u1 u2 u3 ⊢
 refine Own.new' h fun r7 w8 _ _ h=>?_
 refine Own.st' h 0 rfl (rtV rt) rfl rfl (Nat.le_of_ble_eq_true rfl) fun w9 h _=>?_
 refine Own.ldA (cl:=qaf) h 1 rfl (wkX k v pb t) rfl ?_
 refine Own.ld (c:=.int .u32) h 0 rfl rt.1 rfl ?_
 refine qkA hkB hcap f (hT.now0 h) u1 (qbq hk h) hsafe fun x B F1 w13 hsh hT13 hN13 f13 hB13 n13=>?_
 have hl9:=qgY h
 have hz9:=h.fr.size
 have g:=g.next h f13 n13
 have h:=(hT.now0 h).own h f13
 generalize cutN D k v key f M rt.1=cn at kk hsh hT13 hN13 ⊢
 obtain ⟨⟨N,e1⟩,M1⟩:=cn
 dsimp only at hsh hT13 hN13 ⊢
 have hTn:TW dbk pb FD D j w13 ([r7,r1]++(B++Y)) F1 M1:=hT13.weakY fun b hb=>by
  rw [List.mem_append,List.mem_append] at hb
  simp only [List.mem_append]
  rcases hb with hb | hb | hb
  ·exact .inr (.inl hb)
  ·exact .inl hb
  ·exact .inr (.inr hb)
 have o:Oth FD F1 w13 [r7,r1] (B++Y) x N B:=⟨hN13.weak fun b hb=>.inl (qbi (fun b hb=>by
  rw [List.mem_append,List.mem_append] at hb
  simp only [List.mem_append]
  rcases hb with hb | hb | hb
  ·exact .inr (.inl hb)
  ·exact .inl hb
  ·exact .inr (.inr hb)) b hb),fun b hb hm=>by have:=hl9 b hb; have:=hB13 b hm; omega⟩
 have hBY:∀ b∈B,b∉Y:=fun b hb hm=>by have:=hT.ylt b hm; have:=hB13 b hb; omega
 have hsub:∀ {T:List Nat},∀ b∈T++Y,b∈T++(B++Y):=fun b hb=>by
  rw [List.mem_append] at hb
  simp only [List.mem_append]
  rcases hb with hb | hb
  ·exact .inl hb
  ·exact .inr (.inr hb)
 refine Own.new' h fun r14 w15 _ _ h=>?_
 refine Own.st' h 0 rfl (ndV x) rfl rfl (Nat.le_of_ble_eq_true rfl) fun w16 h _=>?_
 refine qab (fun hc=>?_) (fun hc=>?_)
 ·have hne:e1≠0:=by
   rw [Bool.not_eq_true'] at hc
   exact beq_eq_false_iff_ne.1 hc
  have e:shrinkN k v t rt ((N,e1),M1)=(e1,M1):=by unfold shrinkN; rw [if_pos hne]
  rw [e] at kk
  exact kk F1 w16 ((TW.now (T:=[r7,r1]) hTn h).weakY fun b hb=>by simp [hb]) (g.fr h) g.new
 have he1:e1=0:=by
  rw [Bool.not_eq_false'] at hc
  exact beq_iff_eq.1 hc
 subst he1
 rw [qqx] at kk
 have hl0:x.1=N.leaf:=o.node.1
 have hlx:NodeL x N:=(o.node.rd (S:=[]) (fun _ _ h=>(nomatch h)) fun _ h=>nomatch h).lens
 have hcu:U32 (IntKind.wrap .u32 (rt.2.1-1)):=qaS _
 refine Own.ld (c:=.int .u32) h 1 rfl rt.2.1 rfl ?_
 refine Own.st' h 1 rfl (rtV (rt.1,IntKind.wrap .u32 (rt.2.1-1),rt.2.2)) rfl rfl (Nat.le_of_ble_eq_true rfl) fun w18 h _=>?_
 generalize IntKind.wrap .u32 (rt.2.1-1)=cnt at kk hcu h
 have hT18:=TW.now (T:=[r7,r1]) hTn h
 have o:=o.now h
 have g:Sg F w0 w18 F1 (bks _):=g.next0 h (.refl [] _)
 have h:=qal h (.refl _)
 refine qag (fun e w'=>∃ (a b c:Int) (F2 T:List Nat) (M2:PgM) (wa:World),Sg F w0 wa F2 T/\TW dbk pb FD D j wa (T++Y) F2 M2/\Own T wa w' [(r14,.cells (ndV x) ND (0,0)),(r7,.cells (rtV (a,b,c)) RT (0,0)),(r1,.cells (wkV (wkX k v pb t)) WK (0,0))]/\U32 a/\U32 b/\U32 c/\
  ∀ F' w',TW dbk pb FD D j w' Y F' (if e≠0 then (e,M2) else setRootM M2 t a b c).2->Fr F w0 w'->(∀ b∈F',b∈F\/w0.heap.size<=b)->K (if e≠0 then (e,M2) else setRootM M2 t a b c).1 w') ?_ ?_
 ·refine qag (fun d w'=>d=decide (N.leaf=true/\N.keys.length=0)/\w'=w18) ?_ ?_
  ·refine Own.ld (c:=.bool) h 0 rfl x.1 rfl ?_
   refine qab (fun hc=>?_) (fun hc=>?_)
   ·rw [hl0] at hc
    refine Own.ld (c:=.slice) h 0 rfl x.2.1 rfl ⟨?_,rfl⟩
    rw [hlx.keys,Bool.eq_iff_iff,beq_iff_eq,decide_eq_true_iff]
    exact ⟨fun h=>⟨hc,by omega⟩,fun h=>by rw [h.2]; rfl⟩
   ·rw [hl0] at hc
    exact ⟨(decide_eq_false fun h=>by rw [hc] at h; exact absurd h.1 (by decide)).symm,rfl⟩
  rintro d w24 ⟨rfl,rfl⟩
  refine qab (fun hd=>?_) (fun hd=>?_)
  ·have hd:=of_decide_eq_true hd
   rw [if_pos hd] at kk
   refine Own.ld (c:=.ptr) h 2 rfl (some ⟨pb,0,none⟩) rfl ?_
   refine Own.ld (c:=.int .u32) h 1 rfl rt.1 rfl ?_
   refine TW.drop (hT18.weakY hsub) fun F2 w28 hT28 f28 n28=>?_
   have g:=g.next h f28 n28
   have h:=TW.own (hT18.weakY hsub) h f28
   refine Own.st' h 1 rfl (rtV (0,0,0)) rfl rfl (Nat.le_of_ble_eq_true rfl) fun w29 h _=>?_
   exact ⟨0,0,0,F2,_,_,w28,g,hT28,h,qcz,qcz,qcz,kk⟩
  have hd:=of_decide_eq_false hd
  rw [if_neg hd] at kk
  refine qag (fun d w'=>d=decide (N.leaf=false/\N.kids.length=1)/\w'=w24) ?_ ?_
  ·refine Own.ld (c:=.bool) h 0 rfl x.1 rfl ?_
   refine qab (fun hc=>?_) (fun hc=>?_)
   ·rw [hl0,Bool.not_eq_true'] at hc
    refine Own.ld (c:=.slice) h 0 rfl x.2.2.2 rfl ⟨?_,rfl⟩
    rw [hlx.kids,Bool.eq_iff_iff,beq_iff_eq,decide_eq_true_iff]
    exact ⟨fun h=>⟨hc,by omega⟩,fun h=>by rw [h.2]; rfl⟩
   ·rw [hl0,Bool.not_eq_false'] at hc
    exact ⟨(decide_eq_false fun h=>by rw [hc] at h; exact absurd h.1 (by decide)).symm,rfl⟩
  rintro d w34 ⟨rfl,rfl⟩
  refine qab (fun hq=>?_) (fun hq=>?_)
  ·have hq:=of_decide_eq_true hq
   rw [if_pos hq] at kk
   have hk0:0<N.kids.length:=by omega
   rw [qcu hk0] at kk
   have huk:U32 N.kids[0]:=o.node.2.1.2.2 _ (List.getElem_mem hk0)
   refine Own.ld (c:=.ptr) h 2 rfl (some ⟨pb,0,none⟩) rfl ?_
   refine Own.ld (c:=.int .u32) h 1 rfl rt.1 rfl ?_
   refine TW.drop hT18 fun F2 w38 hT38 f38 n38=>?_
   have g:=g.next h f38 n38
   have o:=o.next f38 (fun b hb=>hT18.yf b (by simp [hb])) n38
   have h:=TW.own hT18 h f38
   have h:=Own.drew h
   refine Own.ld (c:=.slice) h 0 rfl x.2.2.2 rfl ?_
   have oR:NodeR [] _ x N:=(o.now h).node.rd (S:=[]) (fun _ _ h=>(nomatch h)) fun _ h=>nomatch h
   refine Rds.get (c:=.int .u32) oR.2.2.2.2 0 rfl (x:=N.kids[0]) (List.getElem?_eq_getElem hk0) (y:=N.kids[0]) rfl ?_
   refine Own.ld (c:=.int .u32) h 1 rfl rt.2.2 rfl ?_
   refine Own.st' h 1 rfl (rtV (N.kids[0],cnt,rt.2.2)) rfl rfl (Nat.le_of_ble_eq_true rfl) fun w43 h _=>?_
   refine Own.st' h 1 rfl (rtV (N.kids[0],cnt,IntKind.wrap .u32 (rt.2.2-1))) rfl rfl (Nat.le_of_ble_eq_true rfl) fun w44 h _=>?_
   exact ⟨_,_,_,F2,_,_,w38,g,hT38.weakY hsub,h,huk,hcu,qaS _,kk⟩
  ·have hq:=of_decide_eq_false hq
   rw [if_neg hq] at kk
   have sx:=hsh rfl
   have z1:=sx.keys
   have z2:=sx.vals
   have z3:=sx.kids
   refine Own.ldA (cl:=qaf) h 2 rfl (wkX k v pb t) rfl ?_
   refine Own.ld (c:=.int .u32) h 1 rfl rt.1 rfl ?_
   refine Own.ldA (cl:=qaa) h 0 rfl x rfl ?_
   refine qa7 (hT18.weakY hsub) (o.rd hT18 hBY) (by omega) (by omega) (by omega) fun F2 w49 hT49 f49 n49=>?_
   have hus:U32 (storeN k v M1 rt.1 N).1.1:=qa6 hT18.wf u1
   have g:=g.next h f49 n49
   have h:=TW.own (hT18.weakY hsub) h f49
   unfold rootTo at kk
   generalize storeN k v M1 rt.1 N=st at kk hT49 hus ⊢
   obtain ⟨⟨q,e2⟩,M2⟩:=st
   refine Own.st' h 1 rfl (rtV (q,cnt,rt.2.2)) rfl rfl (Nat.le_of_ble_eq_true rfl) fun w50 h _=>?_
   exact ⟨q,cnt,rt.2.2,F2,_,M2,w49,g,hT49,h,hus,hcu,u3,kk⟩
 rintro e w52 ⟨a,b,c,F2,T,M2,wa,g,hTa,h,ua,ub,uc,kk⟩
 refine qab (fun hq=>?_) (fun hq=>?_)
 ·have hne:e≠0:=by
   rw [Bool.not_eq_true'] at hq
   exact beq_eq_false_iff_ne.1 hq
  rw [if_pos hne] at kk
  exact kk F2 w52 (hTa.now h).drop0 (g.fr h) g.new
 ·have hne:¬ e≠0:=by
   rw [Bool.not_eq_false'] at hq
   exact fun h=>h (beq_iff_eq.1 hq)
  rw [if_neg hne] at kk
  refine Own.ld (c:=.ptr) h 2 rfl (some ⟨pb,0,none⟩) rfl ?_
  refine Own.ld (c:=.int .i64) h 2 rfl t rfl ?_
  refine Own.ldA (cl:=qcd) h 1 rfl (a,b,c) rfl ?_
  refine TW.setRoot (hTa.now h) ua ub uc fun w57 hT57 f57=>?_
  exact kk F2 w57 hT57.drop0 ((g.fr h).trans' f57 g.new) g.new
end
end
end Go.Proofs.YtmmkegapckbomaaGreatDoor
end
section
set_option linter.unusedVariables false
set_option linter.unusedSimpArgs false
namespace Go.Proofs.YtmmkegapckbomaaGreatDoor
open Go Go.Pt
open Classical
def refStep (k v:Key) (d:Bool) (x:Key×Key):Prs×Bool:=((if cmpL x.1 k>=0/\d=false then [(k,v)] else [])++(if cmpL x.1 k≠0 then [x] else []),d||decide (cmpL x.1 k>=0))
def refP (k v:Key):Bool->Prs->Prs
 | d,[]=>if d then [] else [(k,v)]
 | d,x::r=>(refStep k v d x).1++refP k v (refStep k v d x).2 r
theorem qgP {k v:Key}:∀ {r:Prs},(∀ x∈r,KLt k x.1)->refP k v true r=r
 | [],_=>rfl
 | x::r,h=>by
  have hx:=h x (by simp)
  have hn:cmpL x.1 k≠0:=fun e=>by have:=qd7 e; rw [this] at hx; exact qax hx
  rw [refP,refStep]
  dsimp only
  rw [if_neg (fun h=>nomatch h.2),if_pos hn,Bool.true_or,qgP fun y hy=>h y (List.mem_cons_of_mem _ hy)]
  rfl
theorem qnq {k v:Key}:∀ {l:Prs},SortP l->refP k v false l=insP k v l
 | [],_=>rfl
 | x::r,h=>by
  have h1:=List.pairwise_cons.1 (show (x.1::keysP r).Pairwise KLt from h)
  rw [refP,refStep,insP]
  dsimp only
  rw [Bool.false_or]
  by_cases h2:KLt k x.1
  ·have hc:cmpL x.1 k=1:=by
    have:=qbM k x.1
    have:=qe2 x.1 k
    have h3:cmpL k x.1<0:=h2
    omega
   rw [if_pos h2,hc,if_pos ⟨by decide,rfl⟩,if_pos (by decide),decide_eq_true (by decide),qgP fun y hy=>qaw h2 (h1.1 y.1 (List.mem_map_of_mem hy))]
   rfl
  by_cases h3:k=x.1
  ·have hc:cmpL x.1 k=0:=by rw [h3]; exact qdO _
   rw [if_neg h2,if_pos h3,hc,if_pos ⟨by decide,rfl⟩,if_neg (by decide),decide_eq_true (by decide),qgP fun y hy=>by rw [h3]; exact h1.1 y.1 (List.mem_map_of_mem hy)]
   rfl
  ·have h4:KLt x.1 k:=by
    rcases qlC k x.1 with h5 | h5 | h5
    ·exact absurd h5 h2
    ·exact absurd h5 h3
    ·exact h5
   have hc:cmpL x.1 k<0:=h4
   rw [if_neg h2,if_neg h3,if_neg (fun h=>absurd h.1 (by omega)),if_pos (by omega),decide_eq_false (by omega),qnq h1.2]
   rfl
theorem qrl {k:Key} {l:Prs} {i:Nat} (h:i<l.length):cutP k (l.take (i+1))=cutP k (l.take i)++if l[i].1=k then [] else [l[i]]:=by
 rw [List.take_succ_eq_append_getElem h]
 unfold cutP
 rw [List.filter_append]
 congr 1
 by_cases h2:l[i].1=k
 ·rw [if_pos h2]; simp [h2]
 ·rw [if_neg h2]; simp [h2]
theorem qom {D:DiskM} {M:PgM} {k v:Nat} {t:Int} {L:Prs} {P:List Int} {x:Int} (ht:0<=t/\t<8) (hs:shp t=((k:Int),(v:Int))) (hc:CapsOk k v) (hT:TreeIs D M k v t L P) (hx:HgtIs t L.length x):(rootM M t).2.2<=x/\0<=x:=by
 have hg:good t:=⟨ht.1,by omega⟩
 obtain ⟨e0,e1,e2,_⟩:=qeV t hg
 have hcap:caps (shp t).1 (shp t).2=(((capsV k v).1:Int),((capsV k v).2:Int)):=by
  rw [hs]
  unfold caps capsV
  dsimp only
  by_cases h:k<1\/k>24\/v>108
  ·rw [if_pos h,if_pos (by omega)]; rfl
  ·rw [if_neg h,if_neg (by omega)]; rfl
 rw [hcap] at e1 e2
 dsimp only at e1 e2
 have a1:2*((capsV k v).1 / 2)=(halfs t).1:=by omega
 have a2:(capsV k v).2 / 2=(halfs t).2:=by omega
 rcases hT with ⟨hr,rfl,_⟩ | ⟨h,n,p,hp,hr,hh⟩
 ·unfold HgtIs at hx
  rw [if_neg (fun h=>h.2 rfl)] at hx
  rw [hr,hx]
  exact ⟨Int.le_refl _,Int.le_refl _⟩
 ·have hne:L≠[]:=hh.ne
  have hpos:=List.length_pos_iff.2 hne
  unfold HgtIs at hx
  rw [if_pos ⟨hg,by omega⟩] at hx
  obtain ⟨j,rfl,_,hj⟩:=hx
  rw [hr]
  dsimp only
  rw [Int.toNat_natCast] at hj
  refine ⟨?_,by omega⟩
  cases h with
  | zero=>omega
  | succ h=>
   have hl:=hh.root_least hc
   dsimp only at hl
   rw [<- Nat.mul_assoc,a1,a2] at hl
   have hlt:h<j:=by
    rcases Nat.lt_or_ge h j with hlt | hge
    ·exact hlt
    ·have h1:=hj.1
     have h2:(halfs t).1*(halfs t).2^j<=(halfs t).1*(halfs t).2^h:=by
      have g:=qeV t hg
      exact Nat.mul_le_mul_left _ (Nat.pow_le_pow_right (by omega) hge)
     omega
   omega
theorem qa8 {D:DiskM} {M:PgM} {k v:Nat} {t:Int} {L:Prs} {P:List Int} (hT:TreeIs D M k v t L P):(rootM M t).2.2.toNat<=L.length/\P.length<=2*L.length/\(rootM M t).2.1=L.length/\0<=(rootM M t).2.2:=by
 rcases hT with ⟨hr,rfl,rfl⟩ | ⟨h,n,p,hp,hr,hh⟩
 ·rw [hr]; exact ⟨Nat.le_refl _,Nat.le_refl _,rfl,Int.le_refl _⟩
 ·have:=hh.counts
  dsimp only at this
  rw [hr]
  dsimp only
  rw [Int.toNat_natCast]
  omega
theorem TreeIs.sort {D:DiskM} {M:PgM} {k v:Nat} {t:Int} {L:Prs} {P:List Int} (hT:TreeIs D M k v t L P):SortP L/\PrsOk k v L:=by
 rcases hT with ⟨_,rfl,_⟩ | ⟨h,n,p,hp,hr,hh⟩
 ·exact ⟨.nil,fun x hx=>nomatch hx⟩
 ·exact ⟨hh.sort,hh.prsOk⟩
theorem qtq {t:Int} (h:good t):∃ k v:Nat,shp t=((k:Int),(v:Int))/\CapsOk k v/\1<=k/\k<=24/\1<=v/\v<=108:=by
 obtain ⟨h0,h1⟩:=h
 have:t=0\/t=1\/t=2\/t=3\/t=4\/t=5\/t=6\/t=7:=by omega
 rcases this with rfl | rfl | rfl | rfl | rfl | rfl | rfl | rfl
 ·exact ⟨16,88,rfl,⟨by decide,by decide⟩,by decide,by decide,by decide,by decide⟩
 ·exact ⟨16,108,rfl,⟨by decide,by decide⟩,by decide,by decide,by decide,by decide⟩
 ·exact ⟨16,1,rfl,⟨by decide,by decide⟩,by decide,by decide,by decide,by decide⟩
 ·exact ⟨16,16,rfl,⟨by decide,by decide⟩,by decide,by decide,by decide,by decide⟩
 ·exact ⟨24,16,rfl,⟨by decide,by decide⟩,by decide,by decide,by decide,by decide⟩
 ·exact ⟨24,16,rfl,⟨by decide,by decide⟩,by decide,by decide,by decide,by decide⟩
 ·exact ⟨24,65,rfl,⟨by decide,by decide⟩,by decide,by decide,by decide,by decide⟩
 ·exact ⟨1,8,rfl,⟨by decide,by decide⟩,by decide,by decide,by decide,by decide⟩
structure Sole (D:DiskM) (M:PgM) (k v c:Nat) (t:Int) (L:Prs) (P:List Int):Prop where
 tree:TreeIs D M k v t L P
 wf:M.Wf
 over:M.over=false
 len:M.roots.length=24
 nodup:P.Nodup
 named:M.Named
 many:M.named.length=c
 use:∀ x,InUse M x->x∈P
section
variable {D:DiskM} {M M':PgM} {k v c:Nat} {t:Int} {L L':Prs} {P P':List Int}
theorem Sole.free (h:Sole D M k v c t L P):c<=M.free.length+2*L.length:=by
 have h1:=h.named.length_eq
 rw [List.length_append,h.many] at h1
 have h2:(M.fresh.map (·.1)).length<=P.length:=List.Nodup.length_le_of_subset h.wf.keysNodup fun x hx=>h.use x (.inl hx)
 have h3:=(qa8 h.tree).2.1
 omega
theorem Sole.room (h:Sole D M k v c t L P) (hc:4*L.length+1<=c):2*(rootM M t).2.2.toNat+1<=M.free.length:=by
 have h1:=h.free
 have h2:=(qa8 h.tree).1
 omega
theorem Sole.next (h:Sole D M k v c t L P) (hT:TreeIs D M' k v t L' P') (hs:RStep D M M' t P P'):Sole D M' k v c t L' P' where
 tree:=hT
 wf:=hs.wf
 over:=hs.step.over
 len:=hs.len
 nodup:=hs.step.nodup
 named:=hs.step.Named h.named
 many:=by have:=hs.step.named; rw [<- h.many,<- this]
 use:=fun x hx=>(hs.step.use x hx).elim id fun h2=>absurd (h.use x h2.1) h2.2
theorem Sole.insert {key val:Key} (h:Sole D M k v c t L P) (hc:CapsOk k v) (ht:0<=t/\t<8) (hk:key.length=k/\IsB key) (hv:val.length=v/\IsB val) (hl:4*L.length+1<=c) (hL:L.length<=100000) :
  ∃ M' P',insertN D k v t key val (rootM M t).2.2.toNat M=(0,M')/\Sole D M' k v c t (insP key val L) P':=by
 obtain ⟨M',P',e,hT,hs,_⟩:=qqT hc ht hk hv h.tree h.wf h.over h.len h.nodup (by omega) (h.room hl)
 exact ⟨M',P',e,h.next hT hs⟩
theorem Sole.remove {key:Key} (h:Sole D M k v c t L P) (hc:CapsOk k v) (ht:0<=t/\t<8) (hk:key∈keysP L) (hl:4*L.length+1<=c) (hL:L.length<=100000) :
  ∃ M' P',removeN D k v t key (rootM M t).2.2.toNat M=(0,M')/\Sole D M' k v c t (cutP key L) P':=by
 obtain ⟨M',P',e,hT,hs,_⟩:=qqZ hc ht h.tree hk h.wf h.over h.len h.nodup (by omega) (h.room hl)
 exact ⟨M',P',e,h.next hT hs⟩
end
theorem qqL {D:DiskM} {n k v:Nat} {t:Int} (ht:0<=t/\t<8) (h8:8<=n) (h4:n<=4096) (hw:(madeM n).Wf):Sole D (madeM n) k v ((n-2)-needP (n-2)) t [] []:=by
 have hz:(madeM n).roots=zs 24:=rfl
 have hlen:(zs 24).length=24:=by simp [zs]
 have hg:∀ i,(zs 24).getD i 0=0:=fun i=>by
  rw [List.getD_eq_getElem?_getD]
  unfold zs
  rw [List.getElem?_replicate]
  split <;> rfl
 refine ⟨.inl ⟨?_,rfl,rfl⟩,hw,rfl,by rw [hz]; exact hlen,.nil,qoa _ _ _ _ _,?_,fun x hx=>?_⟩
 ·unfold rootM
  split
  ·rfl
  ·rw [hz,hg,hg,hg]
 ·show (nums n).length=_
  unfold nums
  rw [List.length_drop,qfv]
 ·rcases hx with hx | hx
  ·cases hx
  ·obtain ⟨h1,h2,h3,h4',h5,_⟩:=qaE.1 hx
   have e:(madeM n).sup.2.getD 0 0=n:=by show IntKind.wrap .u32 (n:Int)=_; exact qaV _ (by omega)
   rw [e] at h2
   have hm:=qfh.2 ⟨h1,h2⟩
   rw [<- List.take_append_drop (needP (allV n).length) (allV n)] at hm
   rcases List.mem_append.1 hm with hm | hm
   ·exact absurd hm h3
   ·exact absurd hm h4'
end Go.Proofs.YtmmkegapckbomaaGreatDoor
end
section
set_option linter.unusedVariables false
set_option linter.unusedSimpArgs false
namespace Go.Proofs.YtmmkegapckbomaaGreatDoor
open Go Go.Pt
open Classical
theorem qrg {S:Type} {B:(S->World->Prop)->S->World->Prop} (I:Nat->S->World->Prop) (hs:∀ f s w (X:S->World->Prop),I f s w->(∀ f' s' w',f'<f->I f' s' w'->X s' w')->B X s w):∀ (f:Nat) {s:S} {w:World},I f s w->loop S B s w:=fun f=>by
 induction f using Nat.strongRecOn with
 | ind f ih=>exact fun {s w} h=>qgQ fun X hX=>hs f s w X h fun f' s' w' hf hi=>hX _ _ (ih f' hf hi)
attribute [local irreducible] ld ldA ldV fld fldA newZ st new idx idxS idxA slc slcS slcP mkS chk nn call callV inv run runQ runU join loop held ext rng undefer s2a nxt ent IntKind.wrap
noncomputable def getN (D:DiskM) (k v:Nat) (key:Key) (M:PgM):Nat->Int->Key×Int
 | 0,p=>if p=0 then ([],5) else ([],-1)
 | f+1,p=>if p=0 then ([],5)
  else if (loadN D M k v p).2≠0 then ([],(loadN D M k v p).2)
  else if (loadN D M k v p).1.leaf then
   if (loadN D M k v p).1.keys[placeV (loadN D M k v p).1.keys key]?=some key then ((loadN D M k v p).1.vals.getD (placeV (loadN D M k v p).1.keys key) [],0) else ([],5)
  else getN D k v key M f ((loadN D M k v p).1.kids.getD (kidV (loadN D M k v p).1.keys key) 0)
section
variable {dbk pb j:Nat} {FD Y F F' T:List Nat} {D:DiskM} {w0 w w':World} {M M':PgM} {k v:Nat} {t:Int}
theorem qtm {f:Nat} {ks:Sl} {key:Key} {K:Sl×Int->World->Prop} (hkB:IsB key) (hs:shp t=((k:Int),(v:Int))) (hk0:k≠0) (hkl:key.length=k) (hT:TW dbk pb FD D j w0 Y F M) (hk:RdB (Zo FD Y F) w0 ks key) (hne:(getN D k v key M f (rootM M t).1).2≠-1)
  (kk:∀ s w',(∀ G:List Nat,(∀ b∈G,b<w0.heap.size)->RdB G w' s (getN D k v key M f (rootM M t).1).1)->Fr [] w0 w'->K (s,(getN D k v key M f (rootM M t).1).2) w') :
  call Tryz.prog 41 [.pointer (some ⟨pb,0,none⟩),.int .i64 t,.slice ks.a ks.len ks.cap] [.one .slice,.one (.int .i64)] w0 K:=by
 refine qoC (p:=some ⟨pb,0,none⟩) (t:=t) (key:=ks) ?_
 unfold qlV
 have hlen:=hk.1
 refine qiO (k:=k) (v:=v) hs (fun h=>absurd h hk0) (fun _ h=>absurd (by omega) h) fun _ _ w2 f2=>?_
 have h:=(Own.start [] w0).frame0 f2
 refine Own.new' h fun r3 w4 _ _ h=>?_
 refine Own.st' h 0 rfl (wkV (wkX k v pb t)) rfl rfl (Nat.le_of_ble_eq_true rfl) fun w5 h _=>?_
 refine cond_false rfl ?_
 refine TW.root (hT.frame0 h.fr) fun w7 f7=>?_
 have h:=h.frame0 f7
 have hu:=(qi9 hT.wf t).1
 generalize rootM M t=rt at kk hne hu ⊢
 generalize hres:getN D k v key M f rt.1=res at kk hne
 refine qag (fun _ w'=>res=([],5)/\Fr [] w0 w') ?_ ?_
 ·refine qrg (fun f s w'=>getN D k v key M f s=res/\U32 s/\Own [] w0 w' [(r3,.cells (wkV (wkX k v pb t)) WK (0,0))]) ?_ f ⟨hres,hu,h⟩
  rintro f s w11 X ⟨hg,hus,h⟩ hX
  refine qab (fun hc=>?_) (fun hc=>?_)
  ·have hs0:s≠0:=by
    rw [Bool.not_eq_true'] at hc
    exact beq_eq_false_iff_ne.1 hc
   cases f with
   | zero=>
    unfold getN at hg
    rw [if_neg hs0] at hg
    rw [<- hg] at hne
    exact absurd rfl hne
   | succ f=>
   unfold getN at hg
   rw [if_neg hs0] at hg
   refine Own.ldA (cl:=qaf) h 0 rfl (wkX k v pb t) rfl ?_
   rcases hld:loadN D M k v s with ⟨n,e0⟩
   rw [hld] at hg
   dsimp only at hg
   refine qel (k:=k) (v:=v) (hT.frame0 h.fr) hus fun x B w14 hT14 hN14 f14 hB14=>?_
   rw [hld] at hN14 ⊢
   dsimp only at hN14 ⊢
   have hx:NodeR [] w14 x n:=hN14.rd (fun _ _ h=>(nomatch h)) fun _ h=>nomatch h
   have h:=h.frame0 f14
   have hf14:=h.fr
   refine Own.new' h fun r15 w16 e16 f16 h=>?_
   have hx:NodeR [r15] w16 x n:=(hx.weak (S':=[r15]) fun b hb=>by rw [List.mem_singleton.1 hb]; exact .inr (by omega)).frame0 f16
   refine Own.st' h 0 rfl (ndV x) rfl rfl (Nat.le_of_ble_eq_true rfl) fun w17 h f17=>?_
   have hx:=hx.frame f17 fun b hb=>.inl hb
   refine qab (fun hc2=>?_) (fun hc2=>?_)
   ·have hne0:e0≠0:=by
     rw [Bool.not_eq_true'] at hc2
     exact beq_eq_false_iff_ne.1 hc2
    rw [if_pos hne0] at hg
    subst hg
    exact kk ⟨none,0,0⟩ w17 (fun _ _=>.nil _ _ _ _) h.fr
   have he0:e0=0:=by
    rw [Bool.not_eq_false'] at hc2
    exact beq_iff_eq.1 hc2
   subst he0
   rw [if_neg (fun h=>h rfl)] at hg
   have hr:=qc8 hld
   obtain ⟨l1,l2,l3,l4,l5⟩:=qc4 hr
   have hx0:x.1=n.leaf:=hx.1
   refine Own.ld (c:=.bool) h 0 rfl x.1 rfl ?_
   refine qab (fun hc3=>?_) (fun hc3=>?_)
   ·have hlf:n.leaf=false:=by rw [hx0,Bool.not_eq_true'] at hc3; exact hc3
    rw [if_neg (by rw [hlf]; decide)] at hg
    obtain ⟨l6,l7,l8⟩:=l5 hlf
    have hkl2:=qhp n.keys key
    have fd:=(Fr.refl [] w17).drew
    have h:=Own.drew h
    refine Own.ld (c:=.slice) h 0 rfl x.2.2.2 rfl ?_
    refine Own.ldA (cl:=qaa) h 0 rfl x rfl ?_
    refine qne (hx.frame0 fd) (hk.frame0 h.fr) hkB hr.2.2.1 (by omega) fun w22 f22=>?_
    have h:=h.frame0 f22
    refine qah (h.cell 0 rfl rfl) ?_
    have hcl:kidV n.keys key<n.kids.length:=by omega
    refine Rds.get (c:=.int .u32) ((hx.frame0 fd).frame0 f22).2.2.2.2 (kidV n.keys key) rfl (List.getElem?_eq_getElem hcl) (y:=n.kids[kidV n.keys key]) rfl ?_
    rw [qcu hcl] at hg
    exact hX f _ w22 (Nat.lt_succ_self f) ⟨hg,hx.2.1.2.2 _ (List.getElem_mem hcl),h.sub (List.sublist_cons_self _ _)⟩
   ·have hlf:n.leaf=true:=by rw [hx0,Bool.not_eq_false'] at hc3; exact hc3
    rw [if_pos hlf] at hg
    obtain ⟨l6,l7⟩:=l4 hlf
    refine Own.ldA (cl:=qaa) h 0 rfl x rfl ?_
    refine qiM hx (hk.frame0 h.fr) hkB hr.2.2.1 (by omega) fun w28 f28=>?_
    have h:=h.frame0 f28
    refine qab (fun hc4=>?_) (fun hc4=>?_)
    ·have hit:=of_decide_eq_true hc4
     rw [if_pos hit] at hg
     have hlt:=(List.getElem?_eq_some_iff.1 hit).1
     obtain ⟨pv,hpv,hpe⟩:=(hx.frame0 f28).2.2.2.1
     have hlv:placeV n.keys key<pv.length:=by
      have:=congrArg List.length hpe
      rw [List.length_map] at this
      omega
     refine Own.ld (c:=.slice) h 0 rfl x.2.2.1 rfl ?_
     refine RdK.get hpv (placeV n.keys key) rfl hlv ?_
     have hval:n.vals.getD (placeV n.keys key) []=pv[placeV n.keys key].2:=by rw [<- hpe,qco hlv]
     rw [hval] at hg
     have hvl:pv[placeV n.keys key].2.length<=1000000:=by
      have h1:=hr.2.1 pv[placeV n.keys key].2 (by rw [<- hpe]; exact List.mem_map_of_mem (List.getElem_mem hlv))
      have h2:=qki (k:=k) (v:=v) (by omega)
      omega
     refine qeB (hpv.2 _ (List.getElem_mem hlv)) hvl fun s' B' w33 b33 f33 n33 _ _=>?_
     subst hg
     have hsz:=h.fr.size
     exact kk s' w33 (fun G hG=>b33.rds qas fun c hc hm=>by have:=n33 c hc; have:=hG c hm; omega) (h.fr.trans f33)
    ·have miss:=of_decide_eq_false hc4
     rw [if_neg miss] at hg
     exact ⟨hg.symm,h.fr⟩
  ·have hs0:s=0:=by
    rw [Bool.not_eq_false'] at hc
    exact beq_iff_eq.1 hc
   refine ⟨?_,h.fr⟩
   rw [<- hg]
   cases f <;> (unfold getN; rw [if_pos hs0])
 ·rintro _ w35 ⟨rfl,f35⟩
  exact kk ⟨none,0,0⟩ w35 (fun _ _=>.nil _ _ _ _) f35
theorem qoU {r h:Int} (hr:0<=r) (hh:0<=h/\h<=1000000) (hf:2*h.toNat+1<=r.toNat):decide (r>IntKind.wrap .i64 (2*IntKind.wrap .i64 h))=true:=by
 rw [wi' h (by omega),wi' (2*h) (by omega)]
 exact decide_eq_true (by omega)
theorem qtv {ks vs:Sl} {key val:Key} {f:Nat} {K:Int->World->Prop} (hkB:IsB key) (hvB:IsB val) (hs:shp t=((k:Int),(v:Int))) (hk0:k≠0) (hkl:key.length=k) (hvl:val.length=v) (hT:TW dbk pb FD D j w0 Y F M) (hk:RdB (Zo FD Y F) w0 ks key) (hv:RdB (Zo FD Y F) w0 vs val)
  (hht:0<=(rootM M t).2.2/\(rootM M t).2.2<=1000000) (hroom:2*(rootM M t).2.2.toNat+1<=M.free.length) (hne:(rootM M t).1≠0->(putN D k v key val f M (rootM M t).1).1.2≠-1)
  (kk:∀ F' w',TW dbk pb FD D j w' Y F' (insertN D k v t key val f M).2->Fr F w0 w'->(∀ b∈F',b∈F\/w0.heap.size<=b)->K (insertN D k v t key val f M).1 w') :
  call Tryz.prog 17 [.pointer (some ⟨pb,0,none⟩),.int .i64 t,.slice ks.a ks.len ks.cap,.slice vs.a vs.len vs.cap] [.one (.int .i64)] w0 K:=by
 refine qon (p:=some ⟨pb,0,none⟩) (t:=t) (key:=ks) (value:=vs) ?_
 unfold qll
 have hl1:=hk.1
 have hl2:=hv.1
 have g:=Sg.start F w0
 have h:=Own.start [] w0
 refine Own.new' h fun r1 w2 _ _ h=>?_
 refine Own.new' h fun r3 w4 _ _ h=>?_
 refine Own.ld (c:=.slice) h 1 rfl ks rfl ?_
 refine qiO (k:=k) (v:=v) hs (fun h=>absurd h hk0) (fun _ h=>absurd (by omega) h) fun _ _ w7 f7=>?_
 have h:=h.frame0 f7
 refine Own.new' h fun r8 w9 _ _ h=>?_
 refine Own.st' h 0 rfl (wkV (wkX k v pb t)) rfl rfl (Nat.le_of_ble_eq_true rfl) fun w10 h _=>?_
 refine cond_false rfl ?_
 refine Own.ld (c:=.slice) h 1 rfl vs rfl ?_
 refine Own.ld (c:=.int .i64) h 0 rfl (v:Int) rfl ?_
 refine cond_false (by rw [hl2,hvl]; simp) ?_
 refine Own.ldA (cl:=qaf) h 0 rfl (wkX k v pb t) rfl ?_
 have hT10:=hT.now0 h
 have hk10:=qbq hk h
 have hv10:=qbq hv h
 have g:Sg F w0 w10 F (bks _):=g.next0 h (.refl [] _)
 have h:=qal h (.refl _)
 refine qcB (w_0:=(wkX k v pb t).1) (w_1:=(wkX k v pb t).2.1) (w_2:=(wkX k v pb t).2.2.1) (w_3:=(wkX k v pb t).2.2.2.1) (w_4:=(wkX k v pb t).2.2.2.2.1) (w_5:=(wkX k v pb t).2.2.2.2.2) ?_
 unfold qbO
 refine Own.new' h fun q1 w12 _ _ h=>?_
 have h:=Own.drew h
 refine Own.ld (c:=.ptr) h 0 rfl (some ⟨pb,0,none⟩) rfl ?_
 refine Own.ld (c:=.ptr) h 0 rfl (some ⟨pb,0,none⟩) rfl ?_
 refine Own.ld (c:=.int .i64) h 0 rfl t rfl ?_
 refine TW.room (hT10.now h) ?_
 refine qap (h.cell 0 rfl rfl) (h.cell 0 rfl rfl) ?_
 refine TW.root (hT10.now h) fun w13 f13=>?_
 have hT13:=(hT10.now h).frame0 f13
 have hk13:=(qaD hk10 h).frame0 f13
 have hv13:=(qaD hv10 h).frame0 f13
 have g:=g.next0 h f13
 have h:=qaH h f13 fun _ _ h=>nomatch h
 refine cond_true (qoU (by omega) hht (by omega)) ?_
 refine qba (lb:=[.pointer (some ⟨r8,0,none⟩),.pointer (some ⟨r1,0,none⟩),.pointer (some ⟨r3,0,none⟩)]) rfl (by kernel_rfl) ?_
 refine qkF (cap0:=⟨r8,0,none⟩) (cap1:=⟨r1,0,none⟩) (cap2:=⟨r3,0,none⟩) ?_
 unfold qgK
 refine Own.ldA (cl:=qaf) h 1 rfl (wkX k v pb t) rfl ?_
 refine Own.ld (c:=.slice) h 3 rfl ks rfl ?_
 refine Own.ld (c:=.slice) h 2 rfl vs rfl ?_
 refine qpE hkB hvB hT13 hk13 hv13 hne fun F' w' hT' f' n'=>?_
 exact kk F' w' hT'.drop0 (g.tot.trans' f' g.new) fun b hb=>(n' b hb).elim (g.new b) fun h1=>.inr (Nat.le_trans g.tot.size h1)
theorem qtk {ks:Sl} {key:Key} {f f2:Nat} {K:Int->World->Prop} (hkB:IsB key) (hcap:CapsOk k v) (hs:shp t=((k:Int),(v:Int))) (hk0:k≠0) (hkl:key.length=k) (hT:TW dbk pb FD D j w0 Y F M) (hk:RdB (Zo FD Y F) w0 ks key)
  (hht:0<=(rootM M t).2.2/\(rootM M t).2.2<=1000000) (hroom:2*(rootM M t).2.2.toNat+1<=M.free.length) (hget:(getN D k v key M f2 (rootM M t).1).2=0) (hsafe:cutSafe D k v key f M (rootM M t).1)
  (kk:∀ F' w',TW dbk pb FD D j w' Y F' (removeN D k v t key f M).2->Fr F w0 w'->(∀ b∈F',b∈F\/w0.heap.size<=b)->K (removeN D k v t key f M).1 w') :
  call Tryz.prog 21 [.pointer (some ⟨pb,0,none⟩),.int .i64 t,.slice ks.a ks.len ks.cap] [.one (.int .i64)] w0 K:=by
 refine qn7 (p:=some ⟨pb,0,none⟩) (t:=t) (key:=ks) ?_
 unfold qlA
 have hl1:=hk.1
 have g:=Sg.start F w0
 have h:=Own.start [] w0
 refine Own.new' h fun r1 w2 _ _ h=>?_
 refine Own.ld (c:=.slice) h 0 rfl ks rfl ?_
 refine qiO (k:=k) (v:=v) hs (fun h=>absurd h hk0) (fun _ h=>absurd (by omega) h) fun _ _ w7 f7=>?_
 have h:=h.frame0 f7
 refine Own.new' h fun r8 w9 _ _ h=>?_
 refine Own.st' h 0 rfl (wkV (wkX k v pb t)) rfl rfl (Nat.le_of_ble_eq_true rfl) fun w10 h _=>?_
 refine cond_false rfl ?_
 refine Own.ld (c:=.slice) h 1 rfl ks rfl ?_
 refine qtm (f:=f2) hkB hs hk0 hkl (hT.now0 h) (qbq hk h) (by rw [hget]; decide) fun s w11 _ f11=>?_
 rw [hget]
 have hT10:=(hT.now0 h).frame0 f11
 have hk10:=(qbq hk h).frame0 f11
 have g:=g.next0 h f11
 have h:=qaH h f11 fun _ _ h=>nomatch h
 refine cond_false rfl ?_
 refine Own.ldA (cl:=qaf) h 0 rfl (wkX k v pb t) rfl ?_
 refine qcB (w_0:=(wkX k v pb t).1) (w_1:=(wkX k v pb t).2.1) (w_2:=(wkX k v pb t).2.2.1) (w_3:=(wkX k v pb t).2.2.2.1) (w_4:=(wkX k v pb t).2.2.2.2.1) (w_5:=(wkX k v pb t).2.2.2.2.2) ?_
 unfold qbO
 refine Own.new' h fun q1 w12 _ _ h=>?_
 have h:=Own.drew h
 refine Own.ld (c:=.ptr) h 0 rfl (some ⟨pb,0,none⟩) rfl ?_
 refine Own.ld (c:=.ptr) h 0 rfl (some ⟨pb,0,none⟩) rfl ?_
 refine Own.ld (c:=.int .i64) h 0 rfl t rfl ?_
 refine TW.room (hT10.now h) ?_
 refine qap (h.cell 0 rfl rfl) (h.cell 0 rfl rfl) ?_
 refine TW.root (hT10.now h) fun w13 f13=>?_
 have hT13:=(hT10.now h).frame0 f13
 have hk13:=(qaD hk10 h).frame0 f13
 have g:=g.next0 h f13
 have h:=qaH h f13 fun _ _ h=>nomatch h
 refine cond_true (qoU (by omega) hht (by omega)) ?_
 refine qba (lb:=[.pointer (some ⟨r8,0,none⟩),.pointer (some ⟨r1,0,none⟩)]) rfl (by kernel_rfl) ?_
 refine qkD (cap0:=⟨r8,0,none⟩) (cap1:=⟨r1,0,none⟩) ?_
 unfold qgn
 refine Own.ldA (cl:=qaf) h 1 rfl (wkX k v pb t) rfl ?_
 refine Own.ld (c:=.slice) h 2 rfl ks rfl ?_
 refine qpO hkB hcap hT13 hk13 hsafe fun F' w' hT' f' n'=>?_
 exact kk F' w' hT'.drop0 (g.tot.trans' f' g.new) fun b hb=>(n' b hb).elim (g.new b) fun h1=>.inr (Nat.le_trans g.tot.size h1)
end
end Go.Proofs.YtmmkegapckbomaaGreatDoor
end
section
set_option linter.unusedVariables false
set_option linter.unusedSimpArgs false
namespace Go.Proofs.YtmmkegapckbomaaGreatDoor
open Go Go.Pt
open Classical
def getP (key:Key) (L:Prs):Option Key:=(L.find? fun x=>decide (x.1=key)).map (·.2)
theorem qiF {key:Key} {A B:Prs}:getP key (A++B)=match getP key A with | some v=>some v | none=>getP key B:=by
 unfold getP
 rw [List.find?_append]
 cases A.find? (fun x=>decide (x.1=key)) <;> rfl
theorem qdF {key:Key} {L:Prs} (h:∀ x∈L,x.1≠key):getP key L=none:=by
 unfold getP
 rw [List.find?_eq_none.2 fun x hx=>by simp [h x hx]]
 rfl
theorem qlO {key:Key} {L:Prs} (h:key∈keysP L):∃ v,getP key L=some v:=by
 unfold getP
 obtain ⟨x,hx,rfl⟩:=List.mem_map.1 h
 cases e:L.find? (fun y=>decide (y.1=x.1)) with
 | none=>exact absurd (List.find?_eq_none.1 e x hx) (by simp)
 | some y=>exact ⟨y.2,rfl⟩
section
variable {D:DiskM} {M M':PgM} {k v:Nat} {key:Key}
theorem Has.get:∀ {h:Nat} {s:Seg},Has D M k v h s->s.page≠0->M.Wf->M.over=false->getN D k v key M (h+1) s.page=match getP key s.prs with | some x=>(x,0) | none=>([],5)
 | 0,s,hs,hp,hW,ho=>by
  obtain ⟨h1,h2,h3,h4⟩:=hs
  have hl:loadN D M k v s.page=(lfOf s.prs,0):=h3.load h4
  have hsr:SortP s.prs:=h3.right.2.2.1
  have hkl:(lfOf s.prs).keys=keysP s.prs:=rfl
  unfold getN
  rw [if_neg hp,hl]
  dsimp only
  rw [if_neg (fun h=>h rfl),if_pos (show (lfOf s.prs).leaf=true from rfl),hkl]
  by_cases hm:(keysP s.prs)[placeV (keysP s.prs) key]?=some key
  ·rw [if_pos hm]
   have hi:placeV (keysP s.prs) key<s.prs.length:=by
    have:=(List.getElem?_eq_some_iff.1 hm).1
    simpa using this
   have hsp:=qcv (k:=key) hsr
   have hspl:s.prs=s.prs.take (placeV (keysP s.prs) key)++s.prs[placeV (keysP s.prs) key]::s.prs.drop (placeV (keysP s.prs) key+1):=by
    rw [List.getElem_cons_drop,List.take_append_drop]
   have hke:s.prs[placeV (keysP s.prs) key].1=key:=by
    rw [List.getElem?_map,List.getElem?_eq_getElem hi] at hm
    simpa using hm
   have hg:getP key s.prs=some s.prs[placeV (keysP s.prs) key].2:=by
    conv=>lhs; rw [hspl]
    rw [qiF,qdF fun x hx=>qey (hsp.1 x hx)]
    unfold getP
    rw [List.find?_cons_of_pos (by simp [hke])]
    rfl
   rw [hg]
   show ((List.map (·.2) s.prs).getD _ [],(0:Int))=_
   rw [List.getD_eq_getElem?_getD,List.getElem?_map,List.getElem?_eq_getElem hi]
   rfl
  ·rw [if_neg hm]
   have hn:key∉keysP s.prs:=fun h=>hm ((qbE hsr).2 h)
   rw [qdF fun x hx e=>hn (by rw [<- e]; exact List.mem_map_of_mem hx)]
 | h+1,⟨p,n,L,P⟩,⟨es,h0,h1,h2,h3,h4,h5,h6,h7⟩,hp,hW,ho=>by
  dsimp only at h1 h2 h3 h5 hp
  subst h1 h2 h3
  have hl:loadN D M k v p=(inOf es,0):=h4.load h5
  obtain ⟨A,e,B,hes,hA,hke,hkB,hpage⟩:=qff (key:=key) h0 h6
  have hkids:(inOf es).kids.getD (kidV (inOf es).keys key) 0=e.2.page:=hpage
  have hem:e∈es:=by rw [hes]; simp
  obtain ⟨heh,_⟩:=h7 e hem
  have hpe:=qbe hW (heh.used ho e.2.page heh.mem)
  unfold getN
  rw [if_neg hp,hl]
  dsimp only
  rw [if_neg (fun h=>h rfl),if_neg (show ¬ (inOf es).leaf=true from fun e=>nomatch e),hkids,heh.get (by omega) hW ho]
  have hmid:=h6
  rw [hes] at hmid
  have hmidm:=hmid.mid
  have hflatp:es.flatMap (·.2.prs)=A.flatMap (·.2.prs)++(e.2.prs++B.flatMap (·.2.prs)):=by rw [hes,qaC]
  have hAk:∀ x∈A.flatMap (·.2.prs),x.1≠key:=fun x hx=>by
   obtain ⟨a,ha,hx⟩:=List.mem_flatMap.1 hx
   exact qey (qbc (hmidm.1 a ha x hx) hke)
  have hBk:∀ x∈B.flatMap (·.2.prs),x.1≠key:=fun x hx=>by
   obtain ⟨b,hb,hx⟩:=List.mem_flatMap.1 hx
   exact (qey (qbc (hkB b hb) ((hmidm.2 b hb).2.2 x hx))).symm
  rw [hflatp,qiF,qdF hAk,qiF,qdF hBk]
  cases getP key e.2.prs <;> rfl
theorem Has.safe (hc:CapsOk k v):∀ (h:Nat) (M:PgM) (s:Seg),Has D M k v h s->M.Wf->M.over=false->s.pages.Nodup->key∈keysP s.prs->2*h<=M.free.length->cutSafe D k v key (h+1) M s.page
 | 0,M,s,hs,hW,ho,hnd,hkey,hf=>fun n hn hl=>by
  have hl2:loadN D M k v s.page=(lfOf s.prs,0):=hs.2.2.1.load hs.2.2.2
  rw [hl2] at hn
  cases hn
  cases hl
 | h+1,M,⟨p,n,L,P⟩,⟨es,h0,h1,h2,h3,h4,h5,h6,h7⟩,hW,ho,hnd,hkey,hf=>fun n' hn hl=>by
  dsimp only at h1 h2 h3 h5 hnd hkey hn
  subst h1 h2 h3
  have hld:loadN D M k v p=(inOf es,0):=h4.load h5
  rw [hld] at hn
  cases hn
  obtain ⟨A,e,B,hes,hA,hke,hkB,hpage⟩:=qff (key:=key) h0 h6
  have hkids:(inOf es).kids.getD (kidV (inOf es).keys key) 0=e.2.page:=hpage
  have hcA:kidV (inOf es).keys key=A.length:=hA.symm
  have hem:e∈es:=by rw [hes]; simp
  obtain ⟨heh,hemin⟩:=h7 e hem
  have hflat:es.flatMap (·.2.pages)=A.flatMap (·.2.pages)++(e.2.pages++B.flatMap (·.2.pages)):=by rw [hes,qaC]
  have hflatp:es.flatMap (·.2.prs)=A.flatMap (·.2.prs)++(e.2.prs++B.flatMap (·.2.prs)):=by rw [hes,qaC]
  have hnd2:(A.flatMap (·.2.pages)++(e.2.pages++B.flatMap (·.2.pages))).Nodup:=by rw [<- hflat]; exact (List.nodup_cons.1 hnd).2
  have hnde:e.2.pages.Nodup:=(List.nodup_append.1 (List.nodup_append.1 hnd2).2.1).1
  have hmid:=h6
  rw [hes] at hmid
  have hmidm:=hmid.mid
  have hkey2:key∈keysP e.2.prs:=by
   obtain ⟨x,hx,rfl⟩:=List.mem_map.1 hkey
   rw [hflatp] at hx
   rcases List.mem_append.1 hx with hx | hx
   ·obtain ⟨a,ha,hx⟩:=List.mem_flatMap.1 hx
    exact absurd (qbc (hmidm.1 a ha x hx) hke) qax
   rcases List.mem_append.1 hx with hx | hx
   ·exact List.mem_map_of_mem hx
   ·obtain ⟨b,hb,hx⟩:=List.mem_flatMap.1 hx
    exact absurd (qbc (hkB b hb) ((hmidm.2 b hb).2.2 x hx)) qax
  obtain ⟨N1,n1,M1,Re,Re',ec,hep,hN1,st,hsz,hfr⟩:=qkU hc h M e.2 heh hW ho hnde hkey2 (by omega)
  rw [hkids]
  refine ⟨heh.safe hc h M e.2 hW ho hnde hkey2 (by omega),fun N M2 hcut hlow ny hny=>?_⟩
  rw [ec] at hcut
  cases hcut
  have hNl:N1.leaf=decide (h=0):=by
   cases h with
   | zero=>rw [hN1.1]; rfl
   | succ h=>obtain ⟨es',_,h',_⟩:=hN1; rw [h']; rfl
  have hside:∀ b,(b∈A\/b∈B)->(inOf es).kids.getD (sideOf (kidV (inOf es).keys key)) 0=b.2.page->ny.leaf=N1.leaf:=fun b hb hpg=>by
   rw [hpg] at hny
   have hbm:b∈es:=by rw [hes]; rcases hb with hb | hb <;> simp [hb]
   obtain ⟨hbh,_⟩:=h7 b hbm
   have hfrm:Has D M1 k v h b.2:=hbh.frame fun x hx=>(st.rest x (hbh.used ho x hx) fun hm=>by
    have hme:x∈e.2.pages:=by rw [hep]; exact List.mem_cons_of_mem _ hm
    have hd:=List.nodup_append.1 hnd2
    have hd2:=List.nodup_append.1 hd.2.1
    rcases hb with hb | hb
    ·exact hd.2.2 x (List.mem_flatMap.2 ⟨b,hb,hx⟩) x (List.mem_append_left _ hme) rfl
    ·exact hd2.2.2 x hme x (List.mem_flatMap.2 ⟨b,hb,hx⟩) rfl).1
   obtain ⟨N2,R2,hl2,_,_,hlf2,_⟩:=hfrm.load
   rw [hl2] at hny
   cases hny
   rw [hlf2,hNl]
  have h2:=h4.right.innerTwo.1
  rw [hcA] at hside
  have hkd:(inOf es).kids=es.map (·.2.page):=rfl
  rw [hkd] at hside
  by_cases hA0:A.length>0
  ·have hs:sideOf A.length=A.length-1:=by unfold sideOf; rw [if_pos hA0]
   obtain ⟨A',b,rfl⟩:∃ A' b,A=A'++[b]:=⟨A.dropLast,A.getLast (List.length_pos_iff.1 hA0),(List.dropLast_concat_getLast _).symm⟩
   refine hside b (.inl (by simp)) ?_
   rw [hs,hes]
   simp [List.getD_eq_getElem?_getD]
  ·have hs:sideOf A.length=A.length+1:=by unfold sideOf; rw [if_neg hA0]
   have hA1:A=[]:=List.eq_nil_of_length_eq_zero (by omega)
   subst hA1
   cases B with
   | nil=>rw [hes] at h2; simp at h2
   | cons b B=>
    refine hside b (.inr (by simp)) ?_
    rw [hs,hes]
    rfl
theorem TreeIs.get {t:Int} {L:Prs} {P:List Int} (hT:TreeIs D M k v t L P) (hW:M.Wf) (ho:M.over=false):getN D k v key M (rootM M t).2.2.toNat (rootM M t).1=match getP key L with | some x=>(x,0) | none=>([],5):=by
 rcases hT with ⟨e0,rfl,rfl⟩ | ⟨h,n,p,hp0,er,hs⟩
 ·rw [e0]; rfl
 ·rw [er]
  dsimp only
  rw [Int.toNat_natCast]
  exact hs.get hp0 hW ho
theorem TreeIs.safe (hc:CapsOk k v) {t:Int} {L:Prs} {P:List Int} (hT:TreeIs D M k v t L P) (hkey:key∈keysP L) (hW:M.Wf) (ho:M.over=false) (hn:P.Nodup) (hf:2*(rootM M t).2.2.toNat+1<=M.free.length):cutSafe D k v key (rootM M t).2.2.toNat M (rootM M t).1:=by
 rcases hT with ⟨e0,rfl,rfl⟩ | ⟨h,n,p,hp0,er,hs⟩
 ·cases hkey
 ·rw [er] at hf ⊢
  dsimp only at hf ⊢
  rw [Int.toNat_natCast] at hf ⊢
  exact hs.safe hc h M _ hW ho hn hkey (by omega)
theorem qn1 {t:Int} {f:Nat} {val:Key} {M':PgM} (h:insertN D k v t key val f M=(0,M')):(rootM M t).1≠0->(putN D k v key val f M (rootM M t).1).1.2≠-1:=fun h0 he=>by
 unfold insertN at h
 rw [if_neg h0] at h
 unfold growN at h
 rw [if_pos (by rw [he]; decide),he] at h
 cases h
end
end Go.Proofs.YtmmkegapckbomaaGreatDoor
end
section
set_option linter.unusedVariables false
set_option linter.unusedSimpArgs false
namespace Go.Proofs.YtmmkegapckbomaaGreatDoor
open Go Go.Pt
attribute [local irreducible] ld ldA ldV fld fldA newZ st new idx idxS idxA slc slcS slcP mkS chk nn call callV inv run runQ runU join loop held ext rng undefer s2a nxt ent IntKind.wrap
theorem qrL {w:World} {n:Nat} {K:Option Addr×Option Addr->World->Prop} (Y:List Nat) (hYl:∀ b∈Y,b<w.heap.size) (hY:HG∉Y) (hv:Hv w) (h8:8<=n) (h4:n<=4096)
  (hk:∀ dbk pb FD F D w',TW dbk pb FD D 5000 w' Y F (madeM n)->Made D n->Fr [] w w'->(∀ b∈FD++F,w.heap.size<=b)->K (some ⟨dbk,0,none⟩,some ⟨pb,0,none⟩) w') :
  call Tryz.prog 14 [.int .i64 n] [.one .ptr,.one .ptr] w K:=by
 refine qeG ?_
 unfold qck
 refine qtQ (fun h=>by omega) fun _ _ dbk FD w1 d1 f1 n1=>?_
 rw [Int.toNat_natCast] at d1
 obtain ⟨D',e1,q1,s1,wt1,o1,z1⟩:=qmE (qpr n) (qr1 n) h8 h4
 have hv1:=hv.frame0 f1
 have hg:HG∉FD:=fun hm=>by have:=n1 _ hm; have:=hv.lt; omega
 have hsl:(newM n).safe.length=n:=by simp [newM]
 refine qag (fun b w'=>b=false/\∃ F',DS dbk w1 FD w' F' D' (0+5000)) ?_ ?_
 ·refine cond_false rfl (cond_false rfl ?_)
  refine qpx d1 (Lim.new h4) (by decide) (by omega) hv1 hg fun w' F' d'=>?_
  rw [e1] at d' ⊢
  exact ⟨rfl,F',d'⟩
 rintro b w2 ⟨rfl,F2,d2⟩
 refine cond_false rfl ?_
 have hnew:∀ b∈F2,w.heap.size<=b:=fun b hb=>by
  rcases d2.nw b hb with h | h
  ·exact n1 b h
  ·exact Nat.le_trans f1.size h
 have hop:=o1.open
 have hv2:=(d2.hv hv1 hg).1
 have hs2:w.heap.size<=w2.heap.size:=Nat.le_trans f1.size d2.fr.size
 refine qr3 (F2++HG::Y) (fun b hb=>?_) d2.at_ d2.lim.ok hv2 (fun h=>by rw [hop] at h; cases h) fun pb F M w3 hM hp f3 n3=>?_
 ·rcases List.mem_append.1 hb with hb | hb
  ·exact d2.at_.lt b hb
  rcases List.mem_cons.1 hb with rfl | hb
  ·exact hv2.lt
  ·exact Nat.lt_of_lt_of_le (hYl b hb) hs2
 rw [hop] at hM
 cases hM
 refine cond_false rfl ?_
 refine hk dbk pb F2 F D' w3 ⟨d2.at_.frame0 f3,d2.lim,hp,hv2.frame0 f3,qtL h8 h4,fun b hb=>⟨fun hm=>?_,fun e=>hY (e▸hb)⟩⟩ ⟨q1,s1,wt1,o1,e1,z1⟩ ((f1.trans' d2.fr fun b hb=>.inr (n1 b hb)).trans' f3 (by simp)) fun b hb=>?_
 ·have:=hnew b hm
  have:=hYl b hb
  omega
 rcases List.mem_append.1 hb with hb | hb
 ·exact hnew b hb
 ·exact Nat.le_trans hs2 (n3 b hb)
def strL (l:List Int):ByteArray:=⟨(Lib.bytesOf l).toArray⟩
theorem qaO (l:List Int):(strL l).size=l.length:=by simp [strL,ByteArray.size,Lib.bytesOf]
theorem qs4 (a b:List Int):strL a++strL b=strL (a++b):=by
 apply ByteArray.ext
 simp [strL,Lib.bytesOf]
theorem qit (l:List Int):(strL l).data.toList=Lib.bytesOf l:=by simp [strL]
theorem qr7 {l:List Int} (hB:IsB l) {n:Nat} (h:n<l.length):∃ b,(strL l)[n]?=some b/\(b.toNat:Int)=l[n]:=by
 have hx:=hB l[n] (List.getElem_mem h)
 refine ⟨UInt8.ofNat l[n].toNat,?_,?_⟩
 ·show (if h:n<(strL l).size then some _ else none)=_
  rw [dif_pos (by rw [qaO]; exact h)]
  show some ((strL l).data[n]'_)=_
  simp [strL,Lib.bytesOf]
 ·simp; omega
theorem qmU (l:List Int) (i j:Nat) (hij:i<=j) (hj:j<=l.length):(strL l).extract i j=strL ((l.take j).drop i):=by
 apply ByteArray.ext
 simp [strL,Lib.bytesOf,List.drop_take]
theorem qov {a b:List Int} (ha:IsB a) (hb:IsB b) (h:Lib.bytesOf a=Lib.bytesOf b):a=b:=by
 induction a generalizing b with
 | nil=>cases b with
  | nil=>rfl
  | cons y b=>simp [Lib.bytesOf] at h
 | cons x a ih=>cases b with
  | nil=>simp [Lib.bytesOf] at h
  | cons y b=>
   have h1:=congrArg (·.head?) h
   have h2:=congrArg List.tail h
   simp [Lib.bytesOf] at h1
   have hx:=ha x (by simp)
   have hy:=hb y (by simp)
   have e:x.toNat=y.toNat:=by
    have:=congrArg UInt8.toNat h1
    simp at this
    omega
   rw [ih (fun z hz=>ha z (List.mem_cons_of_mem _ hz)) (fun z hz=>hb z (List.mem_cons_of_mem _ hz)) h2,show x=y by omega]
theorem qsv {a b:List Int} (ha:IsB a) (hb:IsB b) (h:strL a=strL b):a=b:=
 qov ha hb (by rw [<- qit,<- qit,h])
theorem qt7 {S:List Nat} {w:World} {s:Sl} {l:List Int} {src dst e:TypeId} (h:RdB S w s l) (hB:IsB l) (hs:Tryz.prog.underlying src=some (.slice e)) (he:Tryz.prog.underlying e=some (.int .u8)) (hd:Tryz.prog.underlying dst=some .string) :
  (convert src dst (.slice s.a s.len s.cap)).run Tryz.prog w=.ok (.string (strL l)) w:=by
 cases ha:s.a with
 | none=>
  have hl0:l=[]:=by
   rcases h.2.2 with h3 | ⟨b,o,cs,T,fr,ha',_⟩
   ·exact h3
   ·rw [ha] at ha'; cases ha'
  subst hl0
  rw [run_convert_bytes_string w src dst e none s.len s.cap hs he hd,h.1]
  rfl
 | some a=>
  have hc:=h.cells qas ha
  have hlen:s.len=(Lib.bytesOf l).length:=by rw [h.1]; simp [Lib.bytesOf]
  rw [hlen]
  refine run_convert_bytes_back w src dst e a s.cap (Lib.bytesOf l) hs he hd fun j hj=>?_
  have hj':j<l.length:=by simpa [Lib.bytesOf] using hj
  have hx:=hB l[j] (List.getElem_mem hj')
  rw [hc j (.int .u8 l[j]) (by rw [qaA,List.getElem?_map,List.getElem?_eq_getElem hj']; rfl)]
  simp [Lib.bytesOf]
  omega
theorem qi2 {S:List Nat} {w:World} {s:Sl} {l:List Int} {src dst e:TypeId} {K:ByteArray->Prop} (h:RdB S w s l) (hB:IsB l) (hs:Tryz.prog.underlying src=some (.slice e)) (he:Tryz.prog.underlying e=some (.int .u8)) (hd:Tryz.prog.underlying dst=some .string) (k:K (strL l)) :
  runQ [.one .str] (fun w'=>(convert src dst (.slice s.a s.len s.cap)).run Tryz.prog w') w K:=by
 unfold runQ
 exact ⟨strL l,qt7 h hB hs he hd,k⟩
theorem qlQ {w:World} {l:List Int} {src dst e:TypeId} {K:Sl->World->Prop} (hB:IsB l) (hs:Tryz.prog.underlying src=some .string) (hd:Tryz.prog.underlying dst=some (.slice e)) (he:Tryz.prog.underlying e=some (.int .u8))
  (k:∀ s w',(∀ G:List Nat,(∀ b∈G,b<w.heap.size)->RdB G w' s l)->Fr [] w w'->K s w') :
  Pt.run [Ty1.one Cell.slice] ((convert src dst (.string (strL l))).run Tryz.prog w) K:=by
 have hrun:=run_bytes_of_string (P:=Tryz.prog) w src dst e (strL l) hs hd he
 have hsz:=qaO l
 have hge:(strL l).size<=grownCap w (strL l).size 0 e:=grownCap_ge w (strL l).size 0 e
 generalize grownCap w (strL l).size 0 e=G at hrun hge
 refine qb6 ⟨_,_,_⟩ _ hrun ?_
 refine k _ _ (fun g hg=>⟨hsz,hge,?_⟩) ((Fr.refl [] w).drew.alloc _)
 by_cases hl:l=[]
 ·exact .inl hl
 ·refine .inr ⟨w.heap.size,0,bytesRow (strL l) G,e,_,rfl,by rw [qb8]; exact if_pos rfl,fun hm=>absurd (hg _ hm) (Nat.lt_irrefl _),fun i x hx=>?_⟩
  have hi:=(List.getElem?_eq_some_iff.1 hx).1
  have hxB:=hB x (List.mem_of_getElem? hx)
  have e1:(bytesRow (strL l) G).toList[i]?=some (.int .u8 x):=by
   unfold bytesRow
   rw [Array.toList_append,List.getElem?_append_left (by simp [strL,Lib.bytesOf]; exact hi)]
   simp [strL,Lib.bytesOf,hx]
   omega
  rw [Nat.zero_add,Nat.mul_one]
  apply List.ext_getElem?
  intro j
  rw [List.getElem?_take,List.getElem?_drop]
  cases j with
  | zero=>rw [if_pos (by decide),Nat.add_zero,e1]; rfl
  | succ j=>rw [if_neg (by omega)]; rfl
theorem qjS {l:List Int} {i:Int} {K:Int->Prop} (hB:IsB l) (n:Nat) (hi:i=n) (hn:n<l.length) (k:K l[n]):idxS (strL l) i K:=by
 subst hi
 obtain ⟨b,h1,h2⟩:=qr7 hB hn
 unfold idxS
 exact ⟨b,⟨by omega,by rw [Int.toNat_natCast]; exact h1⟩,by rw [h2]; exact k⟩
theorem quk {l:List Int} {lo hi:Option Int} {K:ByteArray->Prop} (a b:Nat) (ha:lo.getD 0=a) (hb:hi.getD l.length=b) (h1:a<=b) (h2:b<=l.length) (k:K (strL ((l.take b).drop a))):slcS (strL l) lo hi K:=by
 unfold slcS
 rw [qaO]
 refine ⟨⟨by omega,by omega,by omega⟩,?_⟩
 rw [ha,hb,Int.toNat_natCast,Int.toNat_natCast,qmU l a b h1 h2]
 exact k
theorem qni {a b:List Int} (ha:IsB a) (hb:IsB b):((strL a).toList==(strL b).toList)=decide (a=b):=by
 rw [Bool.eq_iff_iff,beq_iff_eq,decide_eq_true_iff]
 constructor
 ·intro h
  refine qsv ha hb ?_
  have h2:(strL a).data.toList=(strL b).data.toList:=by
   rw [<- Go.ByteArray.toList_eq,<- Go.ByteArray.toList_eq,h]
  exact ByteArray.ext (Array.toList_inj.1 h2)
 ·rintro rfl; rfl
end Go.Proofs.YtmmkegapckbomaaGreatDoor
end
section
set_option linter.unusedVariables false
set_option linter.unusedSimpArgs false
namespace Go.Proofs.YtmmkegapckbomaaGreatDoor
open Go Go.Pt
open Classical
attribute [local irreducible] ld ldA ldV fld fldA newZ st new idx idxS idxA slc slcS slcP mkS chk nn call callV inv run runQ runU join loop held ext rng undefer s2a nxt ent IntKind.wrap
theorem qep {w w':World} (f:Fr [] w w'):Fr [] w w'.drew:=f.trans (Fr.refl [] w').drew
theorem qt4 {w:World} {a b:Key} {K:Int->World->Prop} (ha:IsB a) (hb:IsB b) (la:a.length<=1000000) (lb:b.length<=1000000) (hk:∀ w',Fr [] w w'->K (cmpL a b) w') :
  call Tryz.prog 34 [.string (strL a),.string (strL b)] [.one (.int .i64)] w K:=by
 refine qfb (a:=strL a) (b:=strL b) ?_
 unfold qcC
 rw [qaO,qaO]
 refine qak (fun s w'=>Fr [] w w'/\∃ i:Nat,s=i/\i<=a.length/\i<=b.length/\cmpL (a.drop i) (b.drop i)=cmpL a b) (fun s _=>(a.length-s.toNat)) ⟨.refl _ _,0,rfl,Nat.zero_le _,Nat.zero_le _,rfl⟩ ?_
 rintro s w1 ⟨f1,i,rfl,hia,hib,hc⟩ X hX
 refine qa3 (decide (i<a.length/\i<b.length)) w1 (fun M hM=>?_) ?_
 ·refine qab (fun h=>?_) (fun h=>?_)
  ·have h:=of_decide_eq_true h
   have e:decide ((i:Int)<(b.length:Int))=decide (i<a.length/\i<b.length):=by
    rw [decide_eq_decide]; omega
   rw [e]; exact hM
  ·have h:=of_decide_eq_false h
   rw [show decide (i<a.length/\i<b.length)=false from decide_eq_false (by omega)] at hM
   exact hM
 refine qab (fun h=>?_) (fun h=>?_)
 ·obtain ⟨h1,h2⟩:=of_decide_eq_true h
  rw [List.drop_eq_getElem_cons h1,List.drop_eq_getElem_cons h2,cmpL] at hc
  refine qjS ha i rfl h1 (qjS hb i rfl h2 ?_)
  refine qab (fun h3=>?_) (fun h3=>?_)
  ·have h3:=of_decide_eq_true h3
   rw [if_pos h3] at hc
   rw [hc]
   exact hk _ (qep f1)
  have h3:=of_decide_eq_false h3
  rw [if_neg h3] at hc
  refine qjS ha i rfl h1 (qjS hb i rfl h2 ?_)
  refine qab (fun h4=>?_) (fun h4=>?_)
  ·have h4:=of_decide_eq_true h4
   rw [if_pos h4] at hc
   rw [hc]
   exact hk _ (qep (qep f1))
  have h4:=of_decide_eq_false h4
  rw [if_neg h4] at hc
  refine hX _ _ ⟨(qep (qep f1)),i+1,?_,h1,h2,hc⟩ ?_
  ·rw [wi' _ (by omega)]; rfl
  ·rw [wi' _ (by omega)]; omega
 ·have h:=of_decide_eq_false h
  by_cases h1:i<a.length
  ·have h2:¬ i<b.length:=fun h2=>h ⟨h1,h2⟩
   rw [List.drop_eq_getElem_cons h1,show List.drop i b=[] from List.drop_eq_nil_of_le (by omega),cmpL] at hc
   refine cond_false (decide_eq_false (by omega)) (cond_true (decide_eq_true (by omega)) ?_)
   rw [hc]
   exact hk _ f1
  ·rw [List.drop_eq_nil_of_le (by omega)] at hc
   by_cases h2:i<b.length
   ·rw [List.drop_eq_getElem_cons h2,cmpL] at hc
    refine cond_true (decide_eq_true (by omega)) ?_
    rw [hc]
    exact hk _ f1
   ·rw [List.drop_eq_nil_of_le (by omega),cmpL] at hc
    refine cond_false (decide_eq_false (by omega)) (cond_false (decide_eq_false (by omega)) ?_)
    rw [hc]
    exact hk _ f1
theorem qpk {w:World} {s:Key} {n:Nat} {y:Int} {K:ByteArray->World->Prop} (hs:IsB s) (hl:s.length<=1000000) (hn:n<=24) (hy:0<=y/\y<256) (hk:∀ x w',x.length=n->IsB x->Fr [] w w'->K (strL x) w') :
  call Tryz.prog 16 [.string (strL s),.int .i64 n,.int .u8 y] [.one .str] w K:=by
 refine qdB (s:=strL s) (n:=n) (by_:=y) ?_
 unfold qbW
 refine qa3 (n:Int) w (fun M hM=>cond_false (decide_eq_false (by omega)) hM) ?_
 refine qa3 (n:Int) w (fun M hM=>cond_false (decide_eq_false (by omega)) hM) ?_
 refine qak (fun x w'=>Fr [] w w'/\∃ l,x=strL l/\IsB l/\l.length<=1000000+24) (fun x _=>n-x.size) ⟨.refl _ _,s,rfl,hs,by omega⟩ ?_
 rintro x w1 ⟨f1,l,rfl,hB,hl1⟩ X hX
 rw [qaO]
 refine qab (fun h=>?_) (fun h=>?_)
 ·have h:=of_decide_eq_true h
  have h1:=Own.start [] w1
  refine Own.new' h1 fun r w2 _ f2 h2=>?_
  have hrd:RdB [] w2 ⟨some ⟨r,0,none⟩,1,1⟩ [y]:=by
   refine ⟨rfl,Nat.le_refl _,.inr ⟨r,0,_,_,_,rfl,h2.at (i:=0) rfl,(fun h=>nomatch h),fun i x hx=>?_⟩⟩
   cases i with
   | zero=>cases hx; rfl
   | succ i=>cases hx
  have hB1:IsB [y]:=fun z hz=>by rw [List.mem_singleton.1 hz]; exact hy
  refine qi2 (s:=⟨some ⟨r,0,none⟩,1,1⟩) (src:=23) (dst:=9) (e:=5) hrd hB1 (by kernel_rfl) (by kernel_rfl) (by kernel_rfl) ?_
  rw [qaO]
  refine qaX (by show ((_:Nat):Int)<=9223372036854775807; rw [List.length_singleton]; omega) ?_
  rw [qs4]
  refine hX _ _ ⟨f1.trans f2,l++[y],rfl,fun z hz=>?_,by rw [List.length_append,List.length_singleton]; omega⟩ (by rw [qaO,qaO,List.length_append,List.length_singleton]; omega)
  rcases List.mem_append.1 hz with h | h
  ·exact hB z h
  ·exact hB1 z h
 ·have h:=of_decide_eq_false h
  refine quk 0 n rfl rfl (Nat.zero_le _) (by omega) ?_
  exact hk _ _ (by rw [List.drop_zero,List.length_take]; omega) (fun z hz=>hB z (List.mem_of_mem_take hz)) f1
def encPr (x:Key×Key):List Value:=[.string (strL x.1),.string (strL x.2)]
theorem qd8 (x:Key×Key):(encPr x).length=2:=rfl
theorem qrb (x:Key×Key):∀ u∈encPr x,u.oneCell'=true:=fun u hu=>by
 rcases List.mem_cons.1 hu with rfl | hu
 ·rfl
 ·rw [List.mem_singleton.1 hu]; rfl
theorem quh:∃ i,Tryz.prog.info? 44=some i/\i.zero=some (.agg #[.string ⟨#[]⟩,.string ⟨#[]⟩])/\i.size=2/\i.bytes=32:=qeh (by kernel_rfl)
theorem qjB {w:World} {s:Sl} {L:Prs} {B:List Nat} {a b:ByteArray} {x:Key×Key} {K:Sl->World->Prop} (h:Buf encPr 2 w s L B) (ha:a=strL x.1) (hb:b=strL x.2) (hl:L.length<=1000000) (hk:∀ s' B' w',Buf encPr 2 w' s' (L++[x]) B'->Fr B w w'->(∀ b∈B',b∈B\/w.heap.size<=b)->K s' w') :
  Pt.new (.cells #[.string a,.string b] 44) w fun r w1=>Pt.run [Ty1.one Cell.slice] ((Builtin.append_ #[31,31] 31 #[.slice s.a s.len s.cap,.slice (some ⟨r,0,none⟩) 1 1]).run Tryz.prog w1) K:=by
 obtain ⟨i,hi,hz,hsz,hby⟩:=quh
 subst ha hb
 exact Buf.push (e:=44) (x:=x) h qd8 (qrb x) (by kernel_rfl) hi hz hsz rfl rfl (by rw [hby]; omega) (by omega) hk
theorem Buf.none {α:Type} {enc:α->List Value} {k:Nat} {w:World} {b:Nat} {T:TypeId} (hb:w.heap[b]?=some (.cells #[] T (0,0))):Buf enc k w ⟨some ⟨b,0,none⟩,0,0⟩ [] [b]:=
 .inr ⟨b,0,#[],T,rfl,rfl,rfl,hb,rfl,Nat.le_refl _,by simp,by simp⟩
def PrB (L:Prs):Prop:=∀ x∈L,IsB x.1/\IsB x.2/\x.1.length<=1000000/\x.2.length<=1000000
theorem Rds.str1 {S:List Nat} {w:World} {s:Sl} {L:Prs} {i:Int} {K:ByteArray->Prop} (h:Rds encPr 2 S w s L) (n:Nat) (hi:i=n) (hn:n<L.length) (kk:K (strL L[n].1)):idx s i 2 fun a=>ld .str a w K:=by
 subst hi
 obtain ⟨hl,b,o,ha,_,cs,T,fr,hb,hc⟩:=h.at n (List.getElem?_eq_getElem hn)
 refine qbk ha ⟨by omega,by omega⟩ ?_
 rw [Int.toNat_natCast]
 refine qc6 _ ?_ kk
 refine (qai hb).trans ?_
 have h0:((cs.toList.drop (o+n*2)).take 2)[0]?=(encPr L[n])[0]?:=by rw [hc]
 rw [List.getElem?_take,if_pos (by decide),List.getElem?_drop,Nat.add_zero] at h0
 rw [<- Array.getElem?_toList,h0]
 rfl
theorem qsK {k v:Key} {d:Bool} {L:Prs} {i:Nat} (hi:i<L.length):refP k v d (L.drop i)=(refStep k v d L[i]).1++refP k v (refStep k v d L[i]).2 (L.drop (i+1)):=by
 rw [List.drop_eq_getElem_cons hi,refP]
theorem qsb {w:World} {S:List Nat} {s:Sl} {L:Prs} {t:Int} {k v:Nat} {key val:Key} {K:Sl×Int->World->Prop} (hs:shp t=((k:Int),(v:Int))) (hk0:k≠0) (hkl:key.length=k) (hvl:val.length=v) (hkB:IsB key) (hvB:IsB val) (h16:k<=1000000)
  (h:Rds encPr 2 S w s L) (hP:PrB L) (hL:L.length<=100000)
  (kk:∀ s' B' w',Buf encPr 2 w' s' (refP key val false L) B'->Fr [] w w'->(∀ b∈B',w.heap.size<=b)->K (s',0) w') :
  call Tryz.prog 18 [.slice s.a s.len s.cap,.int .i64 t,.string (strL key),.string (strL val)] [.one .slice,.one (.int .i64)] w K:=by
 refine qfi (l:=s) (t:=t) (key:=strL key) (value:=strL val) ?_
 unfold qcF
 have hlen:s.len=L.length:=h.1
 refine qgp ?_
 rw [hs,qaO,qaO]
 refine cond_false (beq_eq_false_iff_ne.2 (by dsimp only; omega)) ?_
 refine qa3 false w (fun M hM=>cond_false (by dsimp only; rw [hkl]; simp) (by dsimp only; rw [hvl]; simpa using hM)) (cond_false rfl ?_)
 refine Own.new' (Own.start [] w) fun r w1 e1 f1 ho1=>?_
 have hb0:Buf encPr 2 w1 ⟨some ⟨r,0,none⟩,0,0⟩ [] [r]:=Buf.none (ho1.at (i:=0) rfl)
 refine qak (fun q w'=>∃ i:Nat,∃ A B,q.2.2=i/\i<=L.length/\Buf encPr 2 w' q.1 A B/\A++refP key val q.2.1 (L.drop i)=refP key val false L/\A.length<=2*i/\Fr [] w w'/\(∀ b∈B,w.heap.size<=b)) (fun q _=>L.length-q.2.2.toNat) ⟨0,[],[r],rfl,Nat.zero_le _,hb0,rfl,Nat.le_refl _,f1,fun b hb=>by rw [List.mem_singleton.1 hb]; omega⟩ ?_
 rintro ⟨s1,d,x⟩ w2 ⟨i,A,B,hx,hi,hb,hA,hAl,f2,n2⟩ X hX
 dsimp only at hx hA hb ⊢
 subst hx
 refine qab (fun hc=>?_) (fun hc=>?_)
 ·have hc:=of_decide_eq_true hc
  have hin:i<L.length:=by omega
  rw [qsK hin] at hA
  obtain ⟨p1,p2,p3,p4⟩:=hP L[i] (List.getElem_mem hin)
  refine qag (fun q w'=>∃ B',q.2=(refStep key val d L[i]).2/\Buf encPr 2 w' q.1 (A++(refStep key val d L[i]).1) B'/\Fr [] w w'/\∀ b∈B',w.heap.size<=b) ?_ ?_
  ·refine Rds.str1 (h.frame0 f2) i rfl hin ?_
   refine qt4 p1 hkB p3 (by omega) fun w3 f3=>?_
   have f23:=f2.trans f3
   have hb3:=hb.frame0 f3
   refine qag (fun q w'=>∃ B',q.2=(refStep key val d L[i]).2/\Buf encPr 2 w' q.1 (A++if cmpL L[i].1 key>=0/\d=false then [(key,val)] else []) B'/\Fr [] w w'/\∀ b∈B',w.heap.size<=b) ?_ ?_
   ·refine qa3 (decide (cmpL L[i].1 key>=0/\d=false)) w3 (fun M hM=>?_) ?_
    ·refine qab (fun h1=>?_) (fun h1=>?_)
     ·have h1:=of_decide_eq_true h1
      have e:decide (cmpL L[i].1 key>=0/\d=false) = !d:=by
       cases d
       ·exact decide_eq_true ⟨h1,rfl⟩
       ·exact decide_eq_false fun h=>nomatch h.2
      rw [e] at hM; exact hM
     ·have h1:=of_decide_eq_false h1
      rw [show decide (cmpL L[i].1 key>=0/\d=false)=false from decide_eq_false fun h=>h1 h.1] at hM
      exact hM
    refine qab (fun h1=>?_) (fun h1=>?_)
    ·have h1:=of_decide_eq_true h1
     refine qjB (x:=(key,val)) hb3 rfl rfl (by omega) fun s4 B4 w4 b4 f4 n4=>?_
     refine ⟨B4,?_,by rw [if_pos h1]; exact b4,(f23.trans' f4 fun b hb=>.inr (n2 b hb)),fun b hb=>?_⟩
     ·show true=_
      unfold refStep
      dsimp only
      rw [decide_eq_true h1.1,Bool.or_true]
     ·rcases n4 b hb with h | h
      ·exact n2 b h
      ·exact Nat.le_trans f23.size h
    ·have h1:=of_decide_eq_false h1
     refine ⟨B,?_,by rw [if_neg h1,List.append_nil]; exact hb3,f23,n2⟩
     show d=_
     unfold refStep
     dsimp only
     cases d
     ·rw [Bool.false_or]; exact (decide_eq_false fun h=>h1 ⟨h,rfl⟩).symm
     ·rw [Bool.true_or]
   ·rintro ⟨s4,d4⟩ w4 ⟨B4,hd4,b4,f4,n4⟩
    dsimp only at hd4 b4 ⊢
    subst hd4
    refine qab (fun h1=>?_) (fun h1=>?_)
    ·have h1:cmpL L[i].1 key≠0:=by simpa using h1
     refine Rds.getA (cl:=[.str,.str]) (x:=L[i]) (y:=(strL L[i].1,strL L[i].2)) (h.frame0 f4) i rfl (List.getElem?_eq_getElem hin) rfl rfl ?_
     refine qjB (x:=L[i]) b4 rfl rfl (by split <;> simp <;> omega) fun s5 B5 w5 b5 f5 n5=>?_
     refine ⟨B5,rfl,?_,(f4.trans' f5 fun b hb=>.inr (n4 b hb)),fun b hb=>?_⟩
     ·unfold refStep
      dsimp only
      rw [if_pos h1,<- List.append_assoc]
      exact b5
     ·rcases n5 b hb with h | h
      ·exact n4 b h
      ·exact Nat.le_trans f4.size h
    ·have h1:cmpL L[i].1 key=0:=by simpa using h1
     refine ⟨B4,rfl,?_,f4,n4⟩
     unfold refStep
     dsimp only
     rw [if_neg (show ¬ cmpL L[i].1 key≠0 from fun h=>h h1),List.append_nil]
     exact b4
  ·rintro ⟨s4,d4⟩ w4 ⟨B4,hd4,b4,f4,n4⟩
   dsimp only at hd4 b4 ⊢
   subst hd4
   refine hX _ _ ⟨i+1,_,B4,?_,hin,b4,by rw [List.append_assoc]; exact hA,?_,f4,n4⟩ ?_
   ·show IntKind.wrap .i64 _=_
    rw [wi' _ (by omega)]; rfl
   ·rw [List.length_append]
    have:(refStep key val d L[i]).1.length<=2:=by
     unfold refStep
     dsimp only
     split <;> split <;> simp
    omega
   ·show L.length-(IntKind.wrap .i64 _).toNat<_
    rw [wi' _ (by omega)]; show _<L.length-((i:Int)).toNat; omega
 ·have hc:=of_decide_eq_false hc
  have hil:i=L.length:=by omega
  subst hil
  rw [List.drop_length,refP] at hA
  refine qag (fun q w'=>∃ B',Buf encPr 2 w' q (refP key val false L) B'/\Fr [] w w'/\∀ b∈B',w.heap.size<=b) ?_ ?_
  ·refine qab (fun h1=>?_) (fun h1=>?_)
   ·have h1:d=false:=by simpa using h1
    subst h1
    refine qjB (x:=(key,val)) hb rfl rfl (by omega) fun s4 B4 w4 b4 f4 n4=>?_
    refine ⟨B4,by rw [<- hA]; exact b4,(f2.trans' f4 fun b hb=>.inr (n2 b hb)),fun b hb=>?_⟩
    rcases n4 b hb with h | h
    ·exact n2 b h
    ·exact Nat.le_trans f2.size h
   ·have h1:d=true:=by simpa using h1
    subst h1
    refine ⟨B,by rw [<- hA]; simpa using hb,f2,n2⟩
  ·rintro q w4 ⟨B4,b4,f4,n4⟩
   exact kk q B4 w4 b4 f4 n4
theorem Rds.str2 {S:List Nat} {w:World} {s:Sl} {L:Prs} {i:Int} {K:ByteArray->Prop} (h:Rds encPr 2 S w s L) (n:Nat) (hi:i=n) (hn:n<L.length) (kk:K (strL L[n].2)):idx s i 2 fun a=>ld .str ({ block:=a.block,off:=a.off+1 }:Addr) w K:=by
 subst hi
 obtain ⟨hl,b,o,ha,_,cs,T,fr,hb,hc⟩:=h.at n (List.getElem?_eq_getElem hn)
 refine qbk ha ⟨by omega,by omega⟩ ?_
 rw [Int.toNat_natCast]
 refine qc6 _ ?_ kk
 refine (qai hb).trans ?_
 have h0:((cs.toList.drop (o+n*2)).take 2)[1]?=(encPr L[n])[1]?:=by rw [hc]
 rw [List.getElem?_take,if_pos (by decide),List.getElem?_drop] at h0
 rw [<- Array.getElem?_toList,h0]
 rfl
theorem qqD {key:Key} {x:Key×Key} {L:Prs}:getP key (x::L)=if x.1=key then some x.2 else getP key L:=by
 unfold getP
 by_cases h:x.1=key
 ·rw [if_pos h,List.find?_cons_of_pos (by simp [h])]; rfl
 ·rw [if_neg h,List.find?_cons_of_neg (by simp [h])]
theorem qsI {w:World} {S:List Nat} {s:Sl} {L:Prs} {t:Int} {k v:Nat} {key:Key} {K:ByteArray×Int->World->Prop} (hs:shp t=((k:Int),(v:Int))) (hk0:k≠0) (hkl:key.length=k) (hkB:IsB key)
  (h:Rds encPr 2 S w s L) (hP:PrB L) (hL:L.length<=100000) (kk:∀ w',Fr [] w w'->K (match getP key L with | some x=>(strL x,0) | none=>(⟨#[]⟩,5)) w') :
  call Tryz.prog 67 [.slice s.a s.len s.cap,.int .i64 t,.string (strL key)] [.one .str,.one (.int .i64)] w K:=by
 refine qfr (l:=s) (t:=t) (key:=strL key) ?_
 unfold qcN
 have hlen:s.len=L.length:=h.1
 refine qgp ?_
 rw [hs,qaO]
 refine cond_false (beq_eq_false_iff_ne.2 (by dsimp only; omega)) ?_
 refine cond_false (by dsimp only; rw [hkl]; simp) ?_
 refine qak (fun q w'=>∃ i:Nat,q=i/\i<=L.length/\getP key L=getP key (L.drop i)/\Fr [] w w') (fun q _=>L.length-q.toNat) ⟨0,rfl,Nat.zero_le _,rfl,.refl _ _⟩ ?_
 rintro q w2 ⟨i,rfl,hi,hg,f2⟩ X hX
 refine qab (fun hc=>?_) (fun hc=>?_)
 ·have hc:=of_decide_eq_true hc
  have hin:i<L.length:=by omega
  have hp:=hP L[i] (List.getElem_mem hin)
  rw [List.drop_eq_getElem_cons hin,qqD] at hg
  refine Rds.str1 (h.frame0 f2) i rfl hin ?_
  rw [qni hp.1 hkB]
  refine qab (fun h1=>?_) (fun h1=>?_)
  ·have h1:=of_decide_eq_true h1
   rw [if_pos h1] at hg
   refine Rds.str2 (h.frame0 f2) i rfl hin ?_
   have:=kk w2 f2
   rw [hg] at this
   exact this
  ·have h1:=of_decide_eq_false h1
   rw [if_neg h1] at hg
   refine hX _ _ ⟨i+1,?_,hin,hg,f2⟩ ?_
   ·rw [wi' _ (by omega)]; rfl
   ·rw [wi' _ (by omega)]; omega
 ·have hc:=of_decide_eq_false hc
  rw [List.drop_eq_nil_of_le (by omega)] at hg
  have:=kk w2 f2
  rw [hg] at this
  exact this
theorem qsg {w:World} {S:List Nat} {s:Sl} {L:Prs} {t:Int} {k v:Nat} {key:Key} {K:Sl×Int->World->Prop} (hs:shp t=((k:Int),(v:Int))) (hk0:k≠0) (hkl:key.length=k) (hkB:IsB key)
  (h:Rds encPr 2 S w s L) (hP:PrB L) (hL:L.length<=100000) (hin:key∈keysP L)
  (kk:∀ s' B' w',Buf encPr 2 w' s' (cutP key L) B'->Fr [] w w'->(∀ b∈B',w.heap.size<=b)->K (s',0) w') :
  call Tryz.prog 22 [.slice s.a s.len s.cap,.int .i64 t,.string (strL key)] [.one .slice,.one (.int .i64)] w K:=by
 refine qfa (l:=s) (t:=t) (key:=strL key) ?_
 unfold qcE
 have hlen:s.len=L.length:=h.1
 refine qsI hs hk0 hkl hkB h hP hL fun w0 f0=>?_
 obtain ⟨x,hx⟩:=qlO hin
 rw [hx]
 refine cond_false rfl ?_
 refine Own.new' (Own.start [] w0) fun r w1 e1 f1 ho1=>?_
 have hb0:Buf encPr 2 w1 ⟨some ⟨r,0,none⟩,0,0⟩ [] [r]:=Buf.none (ho1.at (i:=0) rfl)
 have hs0:=f0.size
 refine qak (fun q w'=>∃ i:Nat,∃ B,q.2=i/\i<=L.length/\Buf encPr 2 w' q.1 (cutP key (L.take i)) B/\Fr [] w w'/\(∀ b∈B,w.heap.size<=b)) (fun q _=>L.length-q.2.toNat) ⟨0,[r],rfl,Nat.zero_le _,hb0,f0.trans f1,fun b hb=>by rw [List.mem_singleton.1 hb]; omega⟩ ?_
 rintro ⟨s1,y⟩ w2 ⟨i,B,hy,hi,hb,f2,n2⟩ X hX
 dsimp only at hy hb ⊢
 subst hy
 refine qab (fun hc=>?_) (fun hc=>?_)
 ·have hc:=of_decide_eq_true hc
  have hin:i<L.length:=by omega
  have hp:=hP L[i] (List.getElem_mem hin)
  refine qag (fun q w'=>∃ B',Buf encPr 2 w' q (cutP key (L.take (i+1))) B'/\Fr [] w w'/\∀ b∈B',w.heap.size<=b) ?_ ?_
  ·refine Rds.str1 (h.frame0 f2) i rfl hin ?_
   rw [qni hp.1 hkB,qrl hin]
   refine qab (fun h1=>?_) (fun h1=>?_)
   ·have h1:¬ L[i].1=key:=by simpa using h1
    refine Rds.getA (cl:=[.str,.str]) (x:=L[i]) (y:=(strL L[i].1,strL L[i].2)) (h.frame0 f2) i rfl (List.getElem?_eq_getElem hin) rfl rfl ?_
    have hcl:(cutP key (L.take i)).length<=1000000:=by
     have h1:(cutP key (L.take i)).length<=(L.take i).length:=List.length_filter_le _ _
     rw [List.length_take] at h1
     omega
    refine qjB (x:=L[i]) hb rfl rfl hcl fun s5 B5 w5 b5 f5 n5=>?_
    refine ⟨B5,by rw [if_neg h1]; exact b5,f2.trans' f5 (fun b hb=>.inr (n2 b hb)),fun b hb=>?_⟩
    rcases n5 b hb with h | h
    ·exact n2 b h
    ·exact Nat.le_trans f2.size h
   ·have h1:L[i].1=key:=by simpa using h1
    exact ⟨B,by rw [if_pos h1,List.append_nil]; exact hb,f2,n2⟩
  ·rintro q w3 ⟨B3,b3,f3,n3⟩
   refine hX _ _ ⟨i+1,B3,?_,hin,b3,f3,n3⟩ ?_
   ·show IntKind.wrap .i64 _=_
    rw [wi' _ (by omega)]; rfl
   ·show L.length-(IntKind.wrap .i64 _).toNat<_
    rw [wi' _ (by omega)]; show _<L.length-((i:Int)).toNat; omega
 ·have hc:=of_decide_eq_false hc
  have hil:i=L.length:=by omega
  subst hil
  rw [List.take_length] at hb
  exact kk s1 B w2 hb f2 n2
section
theorem qth {k v:Key} {l:Prs} (h:SortP l):(insP k v l).length<=l.length+1:=by
 by_cases hm:k∈keysP l
 ·rw [qby h hm]; omega
 ·rw [qbA hm]; omega
theorem qt3 {k:Key} {l:Prs}:(cutP k l).length<=l.length:=List.length_filter_le _ _
theorem qjR (n:Nat):IsB (zs n):=fun x hx=>by rw [(List.mem_replicate.1 hx).2]; decide
theorem PrsOk.prB {k v:Nat} {L:Prs} (h:PrsOk k v L) (hk:k<=1000000) (hv:v<=1000000):PrB L:=fun x hx=>by
 obtain ⟨h1,h2,h3,h4⟩:=h x hx
 exact ⟨h3,h4,by omega,by omega⟩
structure HiI (k v c:Nat) (t:Int) (w0 w:World) (s:Sl) (m:Nat) (dbk pb:Nat) (FD:List Nat) (D:DiskM) (F:List Nat) (M:PgM) (P:List Int) (L:Prs) (B:List Nat):Prop where
 tw:TW dbk pb FD D 5000 w [] F M
 sole:Sole D M k v c t L P
 buf:Buf encPr 2 w s L B
 len:L.length<=m
 fr:Fr [] w0 w
 new:∀ b∈FD++F,w0.heap.size<=b
 apart:∀ b∈B,b∉F
theorem qqv {dbk pb j:Nat} {FD Y F:List Nat} {D:DiskM} {w:World} {M:PgM} (h:TW dbk pb FD D j w Y F M):∀ b∈Zo FD Y F,b<w.heap.size:=fun b hb=>by
 rcases List.mem_append.1 hb with hb | hb
 ·rcases List.mem_append.1 hb with hb | hb
  ·exact h.disk.lt b hb
  ·rcases List.mem_cons.1 hb with rfl | hb
   ·exact h.hv.lt
   ·exact h.ylt b hb
 ·exact h.pager.lt b hb
section
variable {k v c:Nat} {t:Int} {w0 w:World} {s:Sl} {m:Nat} {dbk pb:Nat} {FD F B:List Nat} {D:DiskM} {M:PgM} {P:List Int} {L:Prs}
theorem HiI.put {ks vs:Sl} {key:Key} {K:Int->World->Prop} (h:HiI k v c t w0 w s m dbk pb FD D F M P L B) (ht:0<=t/\t<8) (hs:shp t=((k:Int),(v:Int))) (hcap:CapsOk k v) (hk0:1<=k) (hm:4*m+1<=c) (hm2:m<=100000)
  (hkB:IsB key) (hkl:key.length=k) (hk:RdB (Zo FD [] F) w ks key) (hv:RdB (Zo FD [] F) w vs (zs v))
  (kk:∀ F' w' M' P',TW dbk pb FD D 5000 w' [] F' M'->Sole D M' k v c t (insP key (zs v) L) P'->Fr F w w'->(∀ b∈F',b∈F\/w.heap.size<=b)->K 0 w') :
  call Tryz.prog 17 [.pointer (some ⟨pb,0,none⟩),.int .i64 t,.slice ks.a ks.len ks.cap,.slice vs.a vs.len vs.cap] [.one (.int .i64)] w K:=by
 have hl:=h.len
 have hz:(zs v).length=v:=by simp [zs]
 obtain ⟨M',P',e,hS⟩:=h.sole.insert (key:=key) (val:=zs v) hcap ht ⟨hkl,hkB⟩ ⟨hz,qjR v⟩ (by omega) (by omega)
 obtain ⟨r1,r2,r3,r4⟩:=qa8 h.sole.tree
 refine qtv (f:=(rootM M t).2.2.toNat) hkB (qjR v) hs (by omega) hkl hz h.tw hk hv ⟨r4,by omega⟩ (h.sole.room (by omega)) (qn1 e) fun F' w' hT f n=>?_
 rw [e] at hT ⊢
 exact kk F' w' M' P' hT hS f n
theorem HiI.cut {ks:Sl} {key:Key} {K:Int->World->Prop} (h:HiI k v c t w0 w s m dbk pb FD D F M P L B) (ht:0<=t/\t<8) (hs:shp t=((k:Int),(v:Int))) (hcap:CapsOk k v) (hk0:1<=k) (hm:4*m+1<=c) (hm2:m<=100000)
  (hin:key∈keysP L) (hk:RdB (Zo FD [] F) w ks key)
  (kk:∀ F' w' M' P',TW dbk pb FD D 5000 w' [] F' M'->Sole D M' k v c t (cutP key L) P'->Fr F w w'->(∀ b∈F',b∈F\/w.heap.size<=b)->K 0 w') :
  call Tryz.prog 21 [.pointer (some ⟨pb,0,none⟩),.int .i64 t,.slice ks.a ks.len ks.cap] [.one (.int .i64)] w K:=by
 have hl:=h.len
 obtain ⟨M',P',e,hS⟩:=h.sole.remove (key:=key) hcap ht hin (by omega) (by omega)
 obtain ⟨r1,r2,r3,r4⟩:=qa8 h.sole.tree
 obtain ⟨x,hx,rfl⟩:=List.mem_map.1 hin
 obtain ⟨q1,q2,q3,q4⟩:=h.sole.tree.sort.2 x hx
 obtain ⟨y,hy⟩:=qlO hin
 have hg:=h.sole.tree.get (key:=x.1) h.sole.wf h.sole.over
 rw [hy] at hg
 refine qtk (f:=(rootM M t).2.2.toNat) (f2:=(rootM M t).2.2.toNat) q3 hcap hs (by omega) q1 h.tw hk ⟨r4,by omega⟩ (h.sole.room (by omega)) (by rw [hg]) (h.sole.tree.safe hcap hin h.sole.wf h.sole.over h.sole.nodup (h.sole.room (by omega))) fun F' w' hT f n=>?_
 rw [e] at hT ⊢
 exact kk F' w' M' P' hT hS f n
theorem qiu {X:Prop} {Y:Prop} {x:Int} (hT:TreeIs D M k v t L P) (ht:0<=t/\t<8) (hs:shp t=((k:Int),(v:Int))) (hcap:CapsOk k v) (hL:L.length<=100000) (hx:HgtIs t L.length x) (hY:Y):cond (decide (IntKind.wrap .i64 (rootM M t).2.2>x)) X Y:=by
 obtain ⟨r1,r2,r3,r4⟩:=qa8 hT
 have:=qom ht hs hcap hT hx
 refine cond_false (decide_eq_false ?_) hY
 rw [wi' _ (by omega)]
 omega
end
end
theorem qr4 {S:List Nat} {w:World} {v:Nat} {c:Int} {K:Sl->World->Prop} (hc:c=v) (hv:v<=1000000) (hS:∀ b∈S,b<w.heap.size) (kk:∀ s w',RdB S w' s (zs v)->Fr [] w w'->(∀ G:List Nat,(∀ b∈G,b<w.heap.size)->RdB G w' s (zs v))->K s w') :
  mkS 5 [.int .u8 0] 1 1 c c w K:=by
 subst hc
 refine Own.mkN (Own.start [] w) rfl (by omega) (Int.le_refl _) (by omega) (by omega) fun b w' e ho=>?_
 rw [Int.toNat_natCast] at ho ⊢
 have hb:=ho.at (i:=0) rfl
 have hall:∀ G:List Nat,(∀ b∈G,b<w.heap.size)->RdB G w' ⟨some ⟨b,0,none⟩,v,v⟩ (zs v):=fun G hG=>by
  refine ⟨by simp [zs],Nat.le_refl _,.inr ⟨b,0,_,_,_,rfl,hb,fun hm=>by have:=hG b hm; omega,fun i x hx=>?_⟩⟩
  have hi:i<v:=by have:=(List.getElem?_eq_some_iff.1 hx).1; simpa [zs] using this
  have hx0:x=0:=by
   have:=List.mem_of_getElem? hx
   exact (List.mem_replicate.1 this).2
  subst hx0
  have e1:(List.replicate v [Value.int .u8 0]).flatten=List.replicate v (Value.int .u8 0):=by simp
  rw [e1]
  simp [List.drop_replicate,List.take_replicate]
  show List.replicate (min 1 (v-i)) _=_
  rw [show min 1 (v-i)=1 by omega]
  rfl
 exact kk _ w' (hall S hS) ho.fr hall
theorem qk5 {w:World} {x:Int} {ks cs:Sl} {rows:Kps} {cuts:List Int} {K:Bool->World->Prop} (hv:Hv w) (hx:0<=x/\x<=255) (hk:RdK [] w ks rows) (hB:∀ p∈rows,IsB p.2) (hc:RdB [] w cs cuts) (hcB:IsB cuts) (kk:∀ w',Fr [] w w'->K true w') :
  call Tryz.prog 3 [.int .u8 x,.slice ks.a ks.len ks.cap,.slice cs.a cs.len cs.cap] [.one .bool] w K:=by
 refine qcr (t:=x) (keys:=ks) (cuts:=cs) ?_
 unfold qbu
 have hkl:ks.len=rows.length:=hk.len
 have hcl:cs.len=cuts.length:=hc.1
 refine qa3 (decide (ks.len>150\/cs.len>150)) w (fun M hM=>?_) ?_
 ·refine qab (fun h=>?_) (fun h=>?_)
  ·have h:=of_decide_eq_true h
   rw [decide_eq_true (.inl (by omega))] at hM
   exact hM
  ·have h:=of_decide_eq_false h
   rw [show decide (ks.len>150\/cs.len>150)=decide ((cs.len:Int)>150) from decide_eq_decide.2 (by omega)] at hM
   exact hM
 refine qab (fun h=>qnE fun w' hs=>kk w' (.of_same hs)) (fun hsm=>?_)
 have hsm:¬ (ks.len>150\/cs.len>150):=of_decide_eq_false hsm
 have hn:IntKind.wrap .i64 (x.tmod 8)=x%8:=by
  rw [Int.tmod_eq_emod_of_nonneg hx.1,wi' _ (by omega)]
 rw [hn]
 have ht:0<=x%8/\x%8<8:=by omega
 generalize x%8=t at ht
 obtain ⟨k,v,hs,hcap,hk0,hk24,hv0,hv108⟩:=qtq (t:=t) ⟨ht.1,by omega⟩
 refine qrL (n:=900) [] (fun b hb=>nomatch hb) (fun h=>nomatch h) hv (by decide) (by decide) fun dbk pb FD F D w1 hT hM f1 n1=>?_
 refine cond_false rfl ?_
 refine qgp ?_
 rw [hs]
 have hS0:Sole D (madeM 900) k v ((900-2)-needP (900-2)) t [] []:=qqL ht (by decide) (by decide) hT.wf
 have hc0:(900-2)-needP (900-2)=890:=by decide
 rw [hc0] at hS0
 have h0:HiI k v 890 t w w1 ⟨none,0,0⟩ 0 dbk pb FD D F (madeM 900) [] [] []:=⟨hT,hS0,.nil _ _ _,Nat.le_refl _,f1,n1,fun b hb=>nomatch hb⟩
 have hgo:∀ {w1 w2 w3:World} {F F' B':List Nat} {M M':PgM} {P P':List Int} {L L':Prs} {B:List Nat} {s s':Sl} {m m':Nat},HiI k v 890 t w w1 s m dbk pb FD D F M P L B->TW dbk pb FD D 5000 w2 [] F' M'->Sole D M' k v 890 t L' P'->Fr F w1 w2->(∀ b∈F',b∈F\/w1.heap.size<=b)->Fr [] w2 w3->Buf encPr 2 w3 s' L' B'->(∀ b∈B',w2.heap.size<=b)->L'.length<=m'->HiI k v 890 t w w3 s' m' dbk pb FD D F' M' P' L' B':=by
  intro w1 w2 w3 F F' B' M M' P P' L L' B s s' m m' h hT hS f n f3 hb nb hl
  refine ⟨hT.frame0 f3,hS,hb,hl,(h.fr.trans' f fun b hb=>.inr (h.new b (List.mem_append_right _ hb))).trans f3,fun b hb=>?_,fun b hb hm=>?_⟩
  ·rcases List.mem_append.1 hb with hb | hb
   ·exact h.new b (List.mem_append_left _ hb)
   ·rcases n b hb with h1 | h1
    ·exact h.new b (List.mem_append_right _ h1)
    ·exact Nat.le_trans h.fr.size h1
  ·have:=nb b hb
   have:=hT.pager.lt b hm
   omega
 refine qak (fun q w'=>∃ i:Nat,q.2=i/\i<=rows.length/\∃ F M P L B,HiI k v 890 t w w' q.1 i dbk pb FD D F M P L B) (fun q _=>rows.length-q.2.toNat) ⟨0,rfl,Nat.zero_le _,F,_,_,_,_,h0⟩ ?_
 rintro ⟨s1,y⟩ w2 ⟨i,hy,hi,F,M,P,L,B,hI⟩ X hX
 dsimp only at hy hI ⊢
 subst hy
 refine qab (fun hci=>?_) (fun hci=>?_)
 ·have hci:=of_decide_eq_true hci
  have hin:i<rows.length:=by omega
  refine qag (fun q w'=>∃ F M P L B,HiI k v 890 t w w' q (i+1) dbk pb FD D F M P L B) ?_ ?_
  ·refine RdK.get (hk.frame0 hI.fr) i rfl hin ?_
   have hrow:=(hk.frame0 hI.fr).2 _ (List.getElem_mem hin)
   have hrB:=hB _ (List.getElem_mem hin)
   generalize rows[i]=row at hrow hrB
   have hrl:=hrow.1
   refine qab (fun hlong=>?_) (fun hlong=>?_)
   ·exact ⟨F,M,P,L,B,hI.tw,hI.sole,hI.buf,Nat.le_succ_of_le hI.len,hI.fr,hI.new,hI.apart⟩
   have hlong:=of_decide_eq_false hlong
   refine qi2 (s:=row.1) (src:=23) (dst:=9) (e:=5) hrow hrB (by kernel_rfl) (by kernel_rfl) (by kernel_rfl) ?_
   refine qpk (n:=k) hrB (by omega) hk24 (by decide) fun key w3 hkeyl hkeyB f3=>?_
   have hT3:=hI.tw.frame0 f3
   refine qr4 (S:=Zo FD [] F) rfl (by omega) (qqv hT3) fun vs w4 hvs f4 hvs2=>?_
   refine qlQ (e:=5) hkeyB (by kernel_rfl) (by kernel_rfl) (by kernel_rfl) fun kb w5 hkb f5=>?_
   have f35:=(f3.trans f4).trans f5
   have hI5:HiI k v 890 t w w5 s1 i dbk pb FD D F M P L B:=⟨hI.tw.frame0 f35,hI.sole,hI.buf.frame0 f35,hI.len,hI.fr.trans f35,hI.new,hI.apart⟩
   have hvs5:=hvs.frame0 f5
   refine hI5.put ht hs hcap hk0 (by omega) (by omega) hkeyB hkeyl (hkb _ (qqv (hT3.frame0 f4))) hvs5 fun F6 w6 M6 P6 hT6 hS6 f6 n6=>?_
   refine cond_false rfl ?_
   have hvs6:RdB [] w6 vs (zs v):=Rds.frame hvs5 (f6.mono fun b hb _=>List.mem_append_right _ hb) fun b hb=>nomatch hb
   refine qi2 (s:=vs) (src:=23) (dst:=9) (e:=5) hvs6 (qjR v) (by kernel_rfl) (by kernel_rfl) (by kernel_rfl) ?_
   have hb6:Buf encPr 2 w6 s1 L B:=hI5.buf.frame f6 hI5.apart
   have hl:=hI.len
   have hsort:=hI.sole.tree.sort
   refine qsb (S:=[]) hs (by omega) hkeyl (by simp [zs]) hkeyB (qjR v) (by omega) (hb6.rds qd8 fun b _=>by simp) (hsort.2.prB (by omega) (by omega)) (by omega) fun s7 B7 w7 b7 f7 n7=>?_
   rw [qnq hsort.1] at b7
   have hlen7:=b7.len
   have hle:=qth (k:=key) (v:=zs v) hsort.1
   have hI7:HiI k v 890 t w w7 s7 (i+1) dbk pb FD D F6 M6 P6 (insP key (zs v) L) B7:=hgo hI5 hT6 hS6 f6 n6 f7 b7 n7 (by omega)
   refine hI7.tw.root fun w8 f8=>?_
   dsimp only
   rw [show IntKind.wrap .u64 ((s7.len:Nat):Int)=((insP key (zs v) L).length:Nat) by rw [hlen7,IntWalk.u64_in _ (by omega)]]
   refine qbz (by omega) fun hx w9 hh s9=>?_
   refine qiu hI7.sole.tree ht hs hcap (by omega) hh ?_
   have f89:=f8.trans (.of_same s9)
   exact ⟨F6,M6,P6,_,B7,hI7.tw.frame0 f89,hI7.sole,hI7.buf.frame0 f89,hI7.len,hI7.fr.trans f89,hI7.new,hI7.apart⟩
  ·rintro s3 w3 ⟨F3,M3,P3,L3,B3,h3⟩
   refine hX _ _ ⟨i+1,?_,hin,F3,M3,P3,L3,B3,h3⟩ ?_
   ·show IntKind.wrap .i64 _=_
    rw [wi' _ (by omega)]; rfl
   ·show rows.length-(IntKind.wrap .i64 _).toNat<_
    rw [wi' _ (by omega)]; show _<rows.length-((i:Int)).toNat; omega
 ·refine qag (fun _ w'=>Fr [] w w') ?_ fun _ w3 f3=>qnE fun w4 s4=>kk w4 (f3.trans (.of_same s4))
  have hil:i<=150:=by omega
  refine qak (fun q w'=>∃ j:Nat,q.2=j/\j<=cuts.length/\∃ F M P L B,HiI k v 890 t w w' q.1 i dbk pb FD D F M P L B) (fun q _=>cuts.length-q.2.toNat) ⟨0,rfl,Nat.zero_le _,F,M,P,L,B,hI⟩ ?_
  clear hX X hI
  rintro ⟨s2,z⟩ w3 ⟨j,hz,hj,F,M,P,L,B,hI⟩ X hX
  dsimp only at hz hI ⊢
  subst hz
  refine qab (fun hcj=>?_) (fun hcj=>hI.fr)
  have hcj:=of_decide_eq_true hcj
  have hjn:j<cuts.length:=by omega
  have hsl:=hI.buf.len
  have hl:=hI.len
  refine Rds.get (c:=.int .u8) (hc.frame0 hI.fr) j rfl (List.getElem?_eq_getElem hjn) (y:=cuts[j]) rfl ?_
  have hcb:=hcB _ (List.getElem_mem hjn)
  generalize cuts[j]=cb at hcb
  refine qab (fun h=>hI.fr) (fun h=>?_)
  have hL0:L.length≠0:=fun e=>by rw [hsl,e] at h; exact absurd h (by decide)
  refine qaX (by omega) ?_
  have hmod:Int.tmod (IntKind.wrap .i64 cb) (s2.len:Int)=((cb.toNat%L.length:Nat):Int):=by
   rw [wi' _ (by omega),Int.tmod_eq_emod_of_nonneg hcb.1,hsl]
   obtain ⟨cn,e⟩:∃ cn:Nat,cb=cn:=⟨cb.toNat,by omega⟩
   rw [e,Int.toNat_natCast]
   rfl
  have hml:cb.toNat%L.length<L.length:=Nat.mod_lt _ (by omega)
  have hrds:Rds encPr 2 [] w3 s2 L:=hI.buf.rds qd8 fun b _=>by simp
  refine Rds.str1 hrds _ hmod hml ?_
  have hkin:L[cb.toNat%L.length].1∈keysP L:=List.mem_map_of_mem (List.getElem_mem hml)
  have hsort:=hI.sole.tree.sort
  obtain ⟨q1,q2,q3,q4⟩:=hsort.2 _ (List.getElem_mem hml)
  generalize L[cb.toNat%L.length].1=key at hkin q1 q3
  refine qlQ (e:=5) q3 (by kernel_rfl) (by kernel_rfl) (by kernel_rfl) fun kb w5 hkb f5=>?_
  have hI5:HiI k v 890 t w w5 s2 i dbk pb FD D F M P L B:=⟨hI.tw.frame0 f5,hI.sole,hI.buf.frame0 f5,hI.len,hI.fr.trans f5,hI.new,hI.apart⟩
  refine hI5.cut ht hs hcap hk0 (by omega) (by omega) hkin (hkb _ (qqv hI.tw)) fun F6 w6 M6 P6 hT6 hS6 f6 n6=>?_
  refine cond_false rfl ?_
  have hb6:Buf encPr 2 w6 s2 L B:=hI5.buf.frame f6 hI5.apart
  refine qsg (S:=[]) hs (by omega) q1 q3 (hb6.rds qd8 fun b _=>by simp) (hsort.2.prB (by omega) (by omega)) (by omega) hkin fun s7 B7 w7 b7 f7 n7=>?_
  have hlen7:=b7.len
  have hle:=qt3 (k:=key) (l:=L)
  have hI7:HiI k v 890 t w w7 s7 i dbk pb FD D F6 M6 P6 (cutP key L) B7:=hgo hI5 hT6 hS6 f6 n6 f7 b7 n7 (by omega)
  refine hI7.tw.root fun w8 f8=>?_
  dsimp only
  rw [show IntKind.wrap .u64 ((s7.len:Nat):Int)=((cutP key L).length:Nat) by rw [hlen7,IntWalk.u64_in _ (by omega)]]
  refine qbz (by omega) fun hx w9 hh s9=>?_
  refine qiu hI7.sole.tree ht hs hcap (by omega) hh ?_
  have f89:=f8.trans (.of_same s9)
  refine hX _ _ ⟨j+1,?_,hjn,F6,M6,P6,_,B7,hI7.tw.frame0 f89,hI7.sole,hI7.buf.frame0 f89,hI7.len,hI7.fr.trans f89,hI7.new,hI7.apart⟩ ?_
  ·show IntKind.wrap .i64 _=_
   rw [wi' _ (by omega)]; rfl
  ·show cuts.length-(IntKind.wrap .i64 _).toNat<_
   rw [wi' _ (by omega)]; show _<cuts.length-((j:Int)).toNat; omega
end Go.Proofs.YtmmkegapckbomaaGreatDoor
end
