/- Texts TeF, TeG, TeH, TeI, TeJ, TeK, TeL, TeM, TeN, PmO, TrJ, TeO, TrK, CuP, CuQ, CuR, FormsV, CuC, CuS, CuT, CuU, CuV, CuW, MaA, StA, RfB, RfC, HiA, CuD, CuE, CuF, CuG, CuH: contracts of the program's functions, one behind the other. Conditions: those that stand in each line. -/
import Derived.Test.YtmmkegapckbomaaGreatDoorCCP4
import Derived.Test.YtmmkegapckbomaaGreatDoorCCP3
import Derived.Test.YtmmkegapckbomaaGreatDoorCCP1
import Derived.Test.YtmmkegapckbomaaGreatDoorProg
import Derived.KernelRfl
import Derived.Laws.IdiomStrings
import Derived.Laws.BytesString
set_option linter.unusedVariables false
set_option linter.unusedSimpArgs false
section
namespace Go.Proofs.YtmmkegapckbomaaGreatDoor
open Go Go.Pt List
open Classical
attribute [local irreducible] ld ldA ldV fld fldA newZ st new idx idxS idxA slc slcS slcP mkS chk nn call callV inv run runQ runU join loop held ext rng undefer s2a nxt ent IntKind.wrap
section
variable {dbk pb j:Nat} {FD S0 N0 Y F F' F0 T T1 B B' Bk Bk':List Nat} {D:DiskM} {w0 wa w w':World} {M M':PgM} {L:List (Nat×Obj)} {x x':NdC} {n n':NodeM} {i q:Nat} {ii jj:Int} {ks:Sl} {key:Key} {vb:Nat} {T':TypeId}
structure Keep (FD Y F B B':List Nat) (T:List Nat) (w w':World):Prop where
 rdb:∀ s l,RdB (Zo FD (T++(B++Y)) F) w s l->RdB (Zo FD (T++(B'++Y)) F) w' s l
 node:∀ x n,NodeR (Zo FD (T++(B++Y)) F) w x n->NodeR (Zo FD (T++(B'++Y)) F) w' x n
theorem Ed.keep (e:Ed dbk pb FD D j S0 N0 w0 w T Y F M x n B) (A:∀ b∈Bk,b∈B) (f:Fr Bk w w') (C:∀ b∈B',b∈B\/w.heap.size<=b):Keep FD Y F B B' T w w':=⟨fun s l h=>h.frame (f.mono fun b u _=>by simp [A b u]) (e.newZ C),fun x n h=>h.frame (f.mono fun b u _=>by simp [A b u]) (e.newZ C)⟩
theorem Ed.rdb {s:Sl} {l:Key} (e:Ed dbk pb FD D j F0 N0 w0 w T Y F M x n B) (A:RdB (Zo FD Y F0) w0 s l):RdB (Zo FD (T++(B++Y)) F) w s l:=
 A.frame (e.sg.tot.mono fun b u _=>zoF u) fun b u=>by
  rcases zD.1 u with u | u
  ·rcases zD.1 u with u | u
   ·exact .inl (by simp [u])
   ·rcases zG.1 u with u | u
    ·exact .inl (by simp [u])
    ·rcases zD.1 u with u | u
     ·exact (e.sg.own b u).imp (fun h=>zoF h) id
     ·rcases zD.1 u with u | u
      ·exact (e.bnew b u).imp (fun h=>zoF (e.nsub b h)) id
      ·exact .inl (by simp [u])
  ·exact (e.sg.new b u).imp (fun h=>zoF h) id
theorem Ed.sub (e:Ed dbk pb FD D j S0 N0 w0 w T Y F M x n B) (A:∀ b∈T1,b∈T):Ed dbk pb FD D j S0 N0 w0 w T1 Y F M x n B where
 sg:=⟨e.sg.tot,e.sg.new,fun b u=>e.sg.own b (A b u)⟩
 tw:=e.tw.weakY fun b u=>(zD.1 u).elim (fun h=>zH _ (A b h)) fun h=>zI _ h
 node:=e.node.weak fun b u=>.inl (by
  simp only [Zo,zD,zG] at u ⊢
  rcases u with (u | u | u | u) | u
  ·simp [u]
  ·simp [u]
  ·simp [A b u]
  ·simp [u]
  ·simp [u])
 sep:=fun b u=>e.sep b (A b u)
 bnew:=e.bnew
 nsub:=e.nsub
 ysep:=e.ysep
theorem qlr {L:List (Nat×Obj)} {q vb:Nat} {o:Obj} (h:L[q]?=some (vb,o)):vb∈bks L:=mem_map.2 ⟨_,yE h,rfl⟩
theorem Ed.insK {K:Sl->WP} (e:Ed dbk pb FD D j S0 N0 w0 w (bks L) Y F M x n B) (h:Own T wa w L) (hi:i<=n.keys.length) (J:ii=i) (O:n.keys.length<=100000) (q:Nat) (I:L[q]?=some (vb,.cells #[elSl ks] T' (0,0))) (Q:RdB (Zo FD (bks L++(B++Y)) F) w ks key) (R:IsB key)
  (U:∀ A B' w',Ed dbk pb FD D j S0 N0 w0 w' (bks L) Y F M (x.1,A,x.2.2) { n with keys:=insAt n.keys i key } B'->Own (bks L) w' w' L->Keep FD Y F B B' (bks L) w w'->K A w') :
  cW 138 [x.2.1.v,.i ii,.slice (pW vb) 1 1] [.one .slice] w K:=by
 obtain ⟨Bk,C,u,G⟩:=e.node.keysL
 refine C.ins (fun b C=>e.rd b (u b C)) hi J O (h.at I) (fun V=>e.sep vb (qlr I) (u vb V)) Q fun A Bk' w' hz f nk=>?_
 obtain ⟨B',E,hN⟩:=G A _ Bk' w' f (fun b C=>e.rd b (u b C)) nk fun a ha=>(qeq ha).elim (fun h=>by rw [h]; exact R) (e.node.2.1.1 a)
 obtain ⟨e',h'⟩:=e.edit h u f (hN _ (e.newZ E) (hz _ (e.newZ E))) E
 exact U A B' w' e' h' (e.keep u f E)
theorem Ed.insV {K:Sl->WP} (e:Ed dbk pb FD D j S0 N0 w0 w (bks L) Y F M x n B) (h:Own T wa w L) (hi:i<=n.vals.length) (J:ii=i) (O:n.vals.length<=100000) (q:Nat) (I:L[q]?=some (vb,.cells #[elSl ks] T' (0,0))) (Q:RdB (Zo FD (bks L++(B++Y)) F) w ks key) (R:IsB key)
  (U:∀ A B' w',Ed dbk pb FD D j S0 N0 w0 w' (bks L) Y F M (x.1,x.2.1,A,x.2.2.2) { n with vals:=insAt n.vals i key } B'->Own (bks L) w' w' L->Keep FD Y F B B' (bks L) w w'->K A w') :
  cW 138 [x.2.2.1.v,.i ii,.slice (pW vb) 1 1] [.one .slice] w K:=by
 obtain ⟨Bk,C,u,G⟩:=e.node.valsL
 refine C.ins (fun b C=>e.rd b (u b C)) hi J O (h.at I) (fun V=>e.sep vb (qlr I) (u vb V)) Q fun A Bk' w' hz f nk=>?_
 obtain ⟨B',E,hN⟩:=G A _ Bk' w' f (fun b C=>e.rd b (u b C)) nk fun a ha=>(qeq ha).elim (fun h=>by rw [h]; exact R) (e.node.2.1.2.1 a)
 obtain ⟨e',h'⟩:=e.edit h u f (hN _ (e.newZ E) (hz _ (e.newZ E))) E
 exact U A B' w' e' h' (e.keep u f E)
theorem Ed.insI {E:Int} {K:Sl->WP} (e:Ed dbk pb FD D j S0 N0 w0 w (bks L) Y F M x n B) (h:Own T wa w L) (hi:i<=n.kids.length) (Q:ii=i) (R:n.kids.length<=100000) (q:Nat) (O:L[q]?=some (vb,.cells #[.u E] T' (0,0))) (U:U32 E)
  (V:∀ C B' w',Ed dbk pb FD D j S0 N0 w0 w' (bks L) Y F M (x.1,x.2.1,x.2.2.1,C) { n with kids:=insAt n.kids i E } B'->Own (bks L) w' w' L->Keep FD Y F B B' (bks L) w w'->K C w') :
  cW 140 [x.2.2.2.v,.i ii,.slice (pW vb) 1 1] [.one .slice] w K:=by
 obtain ⟨Bk,G,A,I⟩:=e.node.kidsL
 refine qp5 G hi Q R (h.at O) (fun hm=>e.sep vb (qlr O) (A vb hm)) fun C Bk' w' hz f nk=>?_
 obtain ⟨B',J,hN⟩:=I C _ Bk' w' f (fun b G=>e.rd b (A b G)) nk fun a ha=>(qeq ha).elim (fun h=>by rw [h]; exact U) (e.node.2.1.2.2 a)
 obtain ⟨e',h'⟩:=e.edit h A f (hN _ (e.newZ J) hz) J
 exact V C B' w' e' h' (e.keep A f J)
theorem Ed.delK {K:Sl->WP} (e:Ed dbk pb FD D j S0 N0 w0 w (bks L) Y F M x n B) (h:Own T wa w L) (hi:i<n.keys.length) (I:ii=i) (J:jj=((i+1:Nat):Int)) (O:n.keys.length<=100000)
  (Q:∀ C B' w',Ed dbk pb FD D j S0 N0 w0 w' (bks L) Y F M (x.1,C,x.2.2) { n with keys:=delAt n.keys i } B'->Own (bks L) w' w' L->Keep FD Y F B B' (bks L) w w'->K C w') :
  cW 141 [x.2.1.v,.i ii,.i jj] [.one .slice] w K:=by
 obtain ⟨Bk,A,u,G⟩:=e.node.keysL
 refine A.del (fun b A=>e.rd b (u b A)) hi I J O fun C w' R f=>?_
 obtain ⟨B',E,U⟩:=G C _ Bk w' f (fun b A=>e.rd b (u b A)) (fun b A=>.inl A) fun a V=>e.node.2.1.1 a (qeK V)
 obtain ⟨e',h'⟩:=e.edit h u f (U _ (e.newZ E) (R _ (e.newZ E))) E
 exact Q C B' w' e' h' (e.keep u f E)
theorem Ed.delV {K:Sl->WP} (e:Ed dbk pb FD D j S0 N0 w0 w (bks L) Y F M x n B) (h:Own T wa w L) (hi:i<n.vals.length) (I:ii=i) (J:jj=((i+1:Nat):Int)) (O:n.vals.length<=100000)
  (Q:∀ C B' w',Ed dbk pb FD D j S0 N0 w0 w' (bks L) Y F M (x.1,x.2.1,C,x.2.2.2) { n with vals:=delAt n.vals i } B'->Own (bks L) w' w' L->Keep FD Y F B B' (bks L) w w'->K C w') :
  cW 141 [x.2.2.1.v,.i ii,.i jj] [.one .slice] w K:=by
 obtain ⟨Bk,A,u,G⟩:=e.node.valsL
 refine A.del (fun b A=>e.rd b (u b A)) hi I J O fun C w' R f=>?_
 obtain ⟨B',E,U⟩:=G C _ Bk w' f (fun b A=>e.rd b (u b A)) (fun b A=>.inl A) fun a V=>e.node.2.1.2.1 a (qeK V)
 obtain ⟨e',h'⟩:=e.edit h u f (U _ (e.newZ E) (R _ (e.newZ E))) E
 exact Q C B' w' e' h' (e.keep u f E)
theorem Ed.delI {K:Sl->WP} (e:Ed dbk pb FD D j S0 N0 w0 w (bks L) Y F M x n B) (h:Own T wa w L) (hi:i<n.kids.length) (I:ii=i) (J:jj=((i+1:Nat):Int)) (O:n.kids.length<=100000)
  (Q:∀ A B' w',Ed dbk pb FD D j S0 N0 w0 w' (bks L) Y F M (x.1,x.2.1,x.2.2.1,A) { n with kids:=delAt n.kids i } B'->Own (bks L) w' w' L->Keep FD Y F B B' (bks L) w w'->K A w') :
  cW 214 [x.2.2.2.v,.i ii,.i jj] [.one .slice] w K:=by
 obtain ⟨Bk,C,u,E⟩:=e.node.kidsL
 refine qqd C hi I J O fun A w' R f=>?_
 obtain ⟨B',G,U⟩:=E A _ Bk w' f (fun b C=>e.rd b (u b C)) (fun b C=>.inl C) fun a V=>e.node.2.1.2.2 a (qeK V)
 obtain ⟨e',h'⟩:=e.edit h u f (U _ (e.newZ G) R) G
 exact Q A B' w' e' h' (e.keep u f G)
theorem Ed.setK {K:WP} (e:Ed dbk pb FD D j S0 N0 w0 w (bks L) Y F M x n B) (h:Own T wa w L) (hi:i<n.keys.length) (G:ii=i) (I:RdB (Zo FD (bks L++(B++Y)) F) w ks key) (J:IsB key)
  (O:∀ B' w',Ed dbk pb FD D j S0 N0 w0 w' (bks L) Y F M (x.1,x.2.1,x.2.2) { n with keys:=n.keys.set i key } B'->Own (bks L) w' w' L->Keep FD Y F B B' (bks L) w w'->K w') :
  idx x.2.1 ii 1 fun a=>st a [ks.v] w K:=by
 obtain ⟨Bk,A,u,E⟩:=e.node.keysL
 refine A.set (fun b A=>e.rd b (u b A)) hi G I fun w' Q f=>?_
 obtain ⟨B',C,R⟩:=E x.2.1 _ Bk w' f (fun b A=>e.rd b (u b A)) (fun b A=>.inl A) fun a U=>(mem_or_eq_of_mem_set U).elim (e.node.2.1.1 a) fun h=>by rw [h]; exact J
 obtain ⟨V,h'⟩:=e.edit h u f (R _ (e.newZ C) (Q _ (e.newZ C))) C
 exact O B' w' V h' (e.keep u f C)
theorem Ed.setV {K:WP} (e:Ed dbk pb FD D j S0 N0 w0 w (bks L) Y F M x n B) (h:Own T wa w L) (hi:i<n.vals.length) (G:ii=i) (I:RdB (Zo FD (bks L++(B++Y)) F) w ks key) (J:IsB key)
  (O:∀ B' w',Ed dbk pb FD D j S0 N0 w0 w' (bks L) Y F M (x.1,x.2.1,x.2.2.1,x.2.2.2) { n with vals:=n.vals.set i key } B'->Own (bks L) w' w' L->Keep FD Y F B B' (bks L) w w'->K w') :
  idx x.2.2.1 ii 1 fun a=>st a [ks.v] w K:=by
 obtain ⟨Bk,A,u,E⟩:=e.node.valsL
 refine A.set (fun b A=>e.rd b (u b A)) hi G I fun w' Q f=>?_
 obtain ⟨B',C,R⟩:=E x.2.2.1 _ Bk w' f (fun b A=>e.rd b (u b A)) (fun b A=>.inl A) fun a U=>(mem_or_eq_of_mem_set U).elim (e.node.2.1.2.1 a) fun h=>by rw [h]; exact J
 obtain ⟨V,h'⟩:=e.edit h u f (R _ (e.newZ C) (Q _ (e.newZ C))) C
 exact O B' w' V h' (e.keep u f C)
theorem Ed.setI {E:Int} {K:WP} (e:Ed dbk pb FD D j S0 N0 w0 w (bks L) Y F M x n B) (h:Own T wa w L) (hi:i<n.kids.length) (J:ii=i) (O:U32 E)
  (Q:∀ B' w',Ed dbk pb FD D j S0 N0 w0 w' (bks L) Y F M (x.1,x.2.1,x.2.2.1,x.2.2.2) { n with kids:=n.kids.set i E } B'->Own (bks L) w' w' L->Keep FD Y F B B' (bks L) w w'->K w') :
  idx x.2.2.2 ii 1 fun a=>st a [.u E] w K:=by
 obtain ⟨Bk,C,A,G⟩:=e.node.kidsL
 refine quS C hi J fun w' R f=>?_
 obtain ⟨B',I,U⟩:=G x.2.2.2 _ Bk w' f (fun b C=>e.rd b (A b C)) (fun b C=>.inl C) fun a V=>(mem_or_eq_of_mem_set V).elim (e.node.2.1.2.2 a) fun h=>by rw [h]; exact O
 obtain ⟨e',h'⟩:=e.edit h A f (U _ (e.newZ I) R) I
 exact Q B' w' e' h' (e.keep A f I)
theorem Ed.appK {K:Sl->WP} (e:Ed dbk pb FD D j S0 N0 w0 w (bks L) Y F M x n B) (h:Own T wa w L) (I:n.keys.length<=100000) (q:Nat) (J:L[q]?=some (vb,.cells #[elSl ks] T' (0,0))) (O:RdB (Zo FD (bks L++(B++Y)) F) w ks key) (Q:IsB key)
  (R:∀ A B' w',Ed dbk pb FD D j S0 N0 w0 w' (bks L) Y F M (x.1,A,x.2.2) { n with keys:=n.keys++[key] } B'->Own (bks L) w' w' L->Keep FD Y F B B' (bks L) w w'->K A w') :
  Pt.run [Ty1.one Cell.slice] ((Builtin.append_ #[22,22] 22 #[x.2.1.v,.slice (pW vb) 1 1]).run Tryz.prog w) K:=by
 obtain ⟨Bk,C,u,G⟩:=e.node.keysL
 refine C.app1 (fun b C=>e.rd b (u b C)) I (h.at J) O fun A Bk' w' U f V=>?_
 obtain ⟨B',E,hN⟩:=G A _ Bk' w' f (fun b C=>e.rd b (u b C)) V fun a ha=>(zD.1 ha).elim (e.node.2.1.1 a) fun h=>by rw [zE.1 h]; exact Q
 obtain ⟨e',h'⟩:=e.edit h u f (hN _ (e.newZ E) (U _ (e.newZ E))) E
 exact R A B' w' e' h' (e.keep u f E)
theorem Ed.appV {K:Sl->WP} (e:Ed dbk pb FD D j S0 N0 w0 w (bks L) Y F M x n B) (h:Own T wa w L) (I:n.vals.length<=100000) (q:Nat) (J:L[q]?=some (vb,.cells #[elSl ks] T' (0,0))) (O:RdB (Zo FD (bks L++(B++Y)) F) w ks key) (Q:IsB key)
  (R:∀ A B' w',Ed dbk pb FD D j S0 N0 w0 w' (bks L) Y F M (x.1,x.2.1,A,x.2.2.2) { n with vals:=n.vals++[key] } B'->Own (bks L) w' w' L->Keep FD Y F B B' (bks L) w w'->K A w') :
  Pt.run [Ty1.one Cell.slice] ((Builtin.append_ #[22,22] 22 #[x.2.2.1.v,.slice (pW vb) 1 1]).run Tryz.prog w) K:=by
 obtain ⟨Bk,C,u,G⟩:=e.node.valsL
 refine C.app1 (fun b C=>e.rd b (u b C)) I (h.at J) O fun A Bk' w' U f V=>?_
 obtain ⟨B',E,hN⟩:=G A _ Bk' w' f (fun b C=>e.rd b (u b C)) V fun a ha=>(zD.1 ha).elim (e.node.2.1.2.1 a) fun h=>by rw [zE.1 h]; exact Q
 obtain ⟨e',h'⟩:=e.edit h u f (hN _ (e.newZ E) (U _ (e.newZ E))) E
 exact R A B' w' e' h' (e.keep u f E)
theorem Ed.appI {E:Int} {K:Sl->WP} (e:Ed dbk pb FD D j S0 N0 w0 w (bks L) Y F M x n B) (h:Own T wa w L) (O:n.kids.length<=100000) (q:Nat) (Q:L[q]?=some (vb,.cells #[.u E] T' (0,0))) (R:U32 E)
  (U:∀ C B' w',Ed dbk pb FD D j S0 N0 w0 w' (bks L) Y F M (x.1,x.2.1,x.2.2.1,C) { n with kids:=n.kids++[E] } B'->Own (bks L) w' w' L->Keep FD Y F B B' (bks L) w w'->K C w') :
  Pt.run [Ty1.one Cell.slice] ((Builtin.append_ #[92,92] 92 #[x.2.2.2.v,.slice (pW vb) 1 1]).run Tryz.prog w) K:=by
 obtain ⟨Bk,G,A,I⟩:=e.node.kidsL
 refine qpd G O (h.at Q) fun C Bk' w' V f nk=>?_
 obtain ⟨B',J,hN⟩:=I C _ Bk' w' f (fun b G=>e.rd b (A b G)) nk fun a ha=>(zD.1 ha).elim (e.node.2.1.2.2 a) fun h=>by rw [zE.1 h]; exact R
 obtain ⟨e',h'⟩:=e.edit h A f (hN _ (e.newZ J) V) J
 exact U C B' w' e' h' (e.keep A f J)
theorem Ed.appAllK {src:Sl} {ps:Kps} {S:List Nat} {K:Sl->WP} (e:Ed dbk pb FD D j S0 N0 w0 w (bks L) Y F M x n B) (h:Own T wa w L) (J:n.keys.length+ps.length<=100000) (O:Rds encSl 1 S w src (slsP ps)) (G:∀ p∈ps,RdB (Zo FD (bks L++(B++Y)) F) w p.1 p.2) (Q:∀ a∈keyP ps,IsB a)
  (R:∀ A B' w',Ed dbk pb FD D j S0 N0 w0 w' (bks L) Y F M (x.1,A,x.2.2) { n with keys:=n.keys++keyP ps } B'->Own (bks L) w' w' L->Keep FD Y F B B' (bks L) w w'->K A w') :
  Pt.run [Ty1.one Cell.slice] ((Builtin.append_ #[22,22] 22 #[x.2.1.v,src.v]).run Tryz.prog w) K:=by
 obtain ⟨Bk,C,u,I⟩:=e.node.keysL
 refine C.appAll (fun b C=>e.rd b (u b C)) J O G fun A Bk' w' U f V=>?_
 obtain ⟨B',E,hN⟩:=I A _ Bk' w' f (fun b C=>e.rd b (u b C)) V fun a ha=>(zD.1 ha).elim (e.node.2.1.1 a) (Q a)
 obtain ⟨e',h'⟩:=e.edit h u f (hN _ (e.newZ E) (U _ (e.newZ E))) E
 exact R A B' w' e' h' (e.keep u f E)
theorem Ed.appAllV {src:Sl} {ps:Kps} {S:List Nat} {K:Sl->WP} (e:Ed dbk pb FD D j S0 N0 w0 w (bks L) Y F M x n B) (h:Own T wa w L) (J:n.vals.length+ps.length<=100000) (O:Rds encSl 1 S w src (slsP ps)) (G:∀ p∈ps,RdB (Zo FD (bks L++(B++Y)) F) w p.1 p.2) (Q:∀ a∈keyP ps,IsB a)
  (R:∀ A B' w',Ed dbk pb FD D j S0 N0 w0 w' (bks L) Y F M (x.1,x.2.1,A,x.2.2.2) { n with vals:=n.vals++keyP ps } B'->Own (bks L) w' w' L->Keep FD Y F B B' (bks L) w w'->K A w') :
  Pt.run [Ty1.one Cell.slice] ((Builtin.append_ #[22,22] 22 #[x.2.2.1.v,src.v]).run Tryz.prog w) K:=by
 obtain ⟨Bk,C,u,I⟩:=e.node.valsL
 refine C.appAll (fun b C=>e.rd b (u b C)) J O G fun A Bk' w' U f V=>?_
 obtain ⟨B',E,hN⟩:=I A _ Bk' w' f (fun b C=>e.rd b (u b C)) V fun a ha=>(zD.1 ha).elim (e.node.2.1.2.1 a) (Q a)
 obtain ⟨e',h'⟩:=e.edit h u f (hN _ (e.newZ E) (U _ (e.newZ E))) E
 exact R A B' w' e' h' (e.keep u f E)
theorem Ed.appAllI {src:Sl} {ys:List Int} {S:List Nat} {K:Sl->WP} (e:Ed dbk pb FD D j S0 N0 w0 w (bks L) Y F M x n B) (h:Own T wa w L) (I:n.kids.length+ys.length<=100000) (J:Rds encU 1 S w src ys) (O:∀ y∈ys,U32 y)
  (Q:∀ A B' w',Ed dbk pb FD D j S0 N0 w0 w' (bks L) Y F M (x.1,x.2.1,x.2.2.1,A) { n with kids:=n.kids++ys } B'->Own (bks L) w' w' L->Keep FD Y F B B' (bks L) w w'->K A w') :
  Pt.run [Ty1.one Cell.slice] ((Builtin.append_ #[92,92] 92 #[x.2.2.2.v,src.v]).run Tryz.prog w) K:=by
 obtain ⟨Bk,C,u,E⟩:=e.node.kidsL
 refine qtU C I J fun A Bk' w' R f U=>?_
 obtain ⟨B',G,V⟩:=E A _ Bk' w' f (fun b C=>e.rd b (u b C)) U fun a ha=>(zD.1 ha).elim (e.node.2.1.2.2 a) (O a)
 obtain ⟨e',h'⟩:=e.edit h u f (V _ (e.newZ G) R) G
 exact Q A B' w' e' h' (e.keep u f G)
end
section
theorem qcK {D:DiskM} {M:PgM} {k v:Nat} {p:Int} {n:NodeM} (h:loadN D M k v p=(n,0)):rightV n k v:=by
 unfold loadN at h
 split at h
 ·rename_i u
  exact absurd (congrArg (·.2) h) u
 ·have:=qnW (kind:=(pagerReadM D M p).1) (b:=(pagerReadM D M p).2.1) (k:=k) (v:=v) (by rw [h])
  rw [h] at this
  exact this
theorem qa6 {n:NodeM} {k v:Nat} (h:rightV n k v):n.keys.length<=498/\n.vals.length<=498/\n.kids.length<=498/\(n.leaf=true->n.vals.length=n.keys.length/\n.keys.length<=(capsV k v).1)/\(n.leaf=false->n.keys.length+1=n.kids.length/\n.kids.length<=(capsV k v).2/\2<=n.kids.length):=by
 have J:=qfc (k:=k) (v:=v)
 obtain ⟨_,_,_,u⟩:=h
 cases G:n.leaf with
 | true=>
  rw [G,if_pos rfl] at u
  obtain ⟨A,I,C,E⟩:=u
  rw [A]
  exact ⟨by omega,by omega,by simp,fun _=>⟨E,C⟩,fun h=>nomatch h⟩
 | false=>
  rw [G,if_neg (by decide)] at u
  obtain ⟨_,A,I,C,E⟩:=u
  rw [A]
  exact ⟨by omega,by simp,by omega,fun h=>(nomatch h),fun _=>⟨E,C,I⟩⟩
section
variable {D:DiskM} {M M1:PgM} {k v f:Nat} {key val:Key} {p e0 e1:Int} {n:NodeM} {g:Grown}
theorem qsI (h:loadN D M k v p=(n,e0)) (u:e0≠0):putN D k v key val (f+1) M p=((zeroG,e0),M):=by
 unfold putN; rw [h,if_pos u]
theorem qsv (h:loadN D M k v p=(n,0)) (u:n.leaf=true) (A:n.keys[placeV n.keys key]?=some key):putN D k v key val (f+1) M p=splitN k v M p { n with vals:=n.vals.set (placeV n.keys key) val } false:=by
 unfold putN; rw [h,if_neg (fun h=>h rfl),if_pos u,if_pos A]
theorem qqB (h:loadN D M k v p=(n,0)) (u:n.leaf=true) (A:¬ n.keys[placeV n.keys key]?=some key):putN D k v key val (f+1) M p=splitN k v M p { n with keys:=insAt n.keys (placeV n.keys key) key,vals:=insAt n.vals (placeV n.keys key) val } true:=by
 unfold putN; rw [h,if_neg (fun h=>h rfl),if_pos u,if_neg A]
theorem ql8 (h:loadN D M k v p=(n,0)) (u:¬ n.leaf=true) (A:putN D k v key val f M (n.kids.getD (kidV n.keys key) 0)=((g,e1),M1)) (C:e1≠0):putN D k v key val (f+1) M p=((zeroG,e1),M1):=by
 unfold putN; rw [h,if_neg (fun h=>h rfl),if_neg u]; dsimp only; rw [A,if_pos C]
theorem qq8 (h:loadN D M k v p=(n,0)) (u:¬ n.leaf=true) (A:putN D k v key val f M (n.kids.getD (kidV n.keys key) 0)=((g,0),M1)) (C:g.page=n.kids.getD (kidV n.keys key) 0/\g.other=0):putN D k v key val (f+1) M p=((⟨p,g.fresh,[],0⟩,0),M1):=by
 unfold putN; rw [h,if_neg (fun h=>h rfl),if_neg u]; dsimp only; rw [A,if_neg (fun h=>h rfl),if_pos C]
theorem qtW (h:loadN D M k v p=(n,0)) (u:¬ n.leaf=true) (A:putN D k v key val f M (n.kids.getD (kidV n.keys key) 0)=((g,0),M1)) (C:¬ (g.page=n.kids.getD (kidV n.keys key) 0/\g.other=0)):putN D k v key val (f+1) M p=splitN k v M1 p (grownN n (kidV n.keys key) g) g.fresh:=by
 unfold putN; rw [h,if_neg (fun h=>h rfl),if_neg u]; dsimp only; rw [A,if_neg (fun h=>h rfl),if_neg C]
end
theorem qr1 {n:NodeM} {k v:Nat} (u:n.leaf=true) (A:n.vals.length=n.keys.length):(sizeN n k v).1>(sizeN n k v).2->MidOk n ((sizeN n k v).1 / 2):=fun h=>by
 unfold MidOk
 have e:(sizeN n k v).1=n.keys.length:=by unfold sizeN; rw [if_pos u]
 rw [if_pos u,A]
 rw [e] at h ⊢
 omega
theorem qqD {n:NodeM} {k v:Nat} (u:¬ n.leaf=true) (A:n.keys.length+1=n.kids.length) (C:2<=n.kids.length):(sizeN n k v).1>(sizeN n k v).2->MidOk n ((sizeN n k v).1 / 2):=fun h=>by
 unfold MidOk
 have e:(sizeN n k v).1=n.kids.length:=by unfold sizeN; rw [if_neg u]
 rw [if_neg u]
 rw [e] at h ⊢
 omega
theorem qdq {α:Type} {l:List α} {i:Nat} {x:α} (h:i<=l.length):(insAt l i x).length=l.length+1:=by unfold insAt; simp; omega
theorem Rds.getU {S:List Nat} {w:World} {s:Sl} {l:List Int} {i:Int} {K:Addr->Int->Prop} (h:Rds encU 1 S w s l) (n:Nat) (hi:i=n) (J:n<l.length) (O:∀ a,(∀ S' w',Rds encU 1 S' w' s l->w'.cell? a=some (.u l[n]))->K a l[n]):idx s i 1 fun a=>ld .u a w fun y=>K a y:=by
 subst hi
 have G:l[n]?=some l[n]:=zA J
 obtain ⟨V,b,o,I,_,cs,T,fr,hb,hc⟩:=h.at n G
 refine qa0 I ⟨by omega,by omega⟩ ?_
 rw [zJ]
 have key:∀ S' w',Rds encU 1 S' w' s l->w'.cell? ⟨b,o+n*1,none⟩=some (.u l[n]):=fun S' w' Q=>by
  obtain ⟨_,b',o',A,_,R,T',U,C,E⟩:=Q.at n G
  rw [I] at A
  cases A
  rw [qaf C]
  have:=congrArg (·[0]?) E
  simpa [encU] using this
 exact qaE l[n] (key S w h) (O _ key)
section
variable {dbk pb j:Nat} {FD S0 N0 Y F F' F0 T B:List Nat} {D:DiskM} {w0 wa w w':World} {M M':PgM} {L:List (Nat×Obj)} {x:NdC} {n:NodeM} {k v:Nat} {t:Int}
theorem Ed.load {w7:World} (A:∀ b∈N0,b∈S0) (g:Sg S0 w0 wa F T) (h:Own T wa w L) (E:TW dbk pb FD D j w7 (B++(bks L++Y)) F M) (G:NodeB (Zo FD (B++(bks L++Y)) F) w7 x n B) (f:Fr [] w w7) (C:∀ c∈B,w.heap.size<=c) (I:∀ b∈Y,b<w.heap.size) :
  Ed dbk pb FD D j S0 N0 w0 w7 (bks L) Y F M x n B/\Own (bks L) w7 w7 L:=by
 refine ⟨⟨g.next0 h f,E.weakY fun b u=>?_,G.weak fun b u=>.inl ?_,fun b u J=>?_,fun b u=>.inr (zL (g.fr h).size (C b u)),A,fun b u K=>?_⟩,qaK h f fun _ _ h=>nomatch h⟩
 ·simp only [zD] at u ⊢
  rcases u with u | u | u <;> simp [u]
 ·simp only [Zo,zD,zG] at u ⊢
  rcases u with (u | u | u | u | u) | u <;> simp [u]
 ·have:=qhW h b u; have:=C b J; omega
 ·have:=I b K; have:=C b u; omega
theorem Ed.kidsR (e:Ed dbk pb FD D j S0 N0 w0 w T Y F M x n B):Rds encU 1 (Zo FD (T++Y) F) w x.2.2.2 n.kids:=e.nodeR.2.2.2.2
theorem Ed.fr (e:Ed dbk pb FD D j S0 N0 w0 w T Y F M x n B):Fr S0 w0 w:=e.sg.tot
theorem qam {L':List (Nat×Obj)} (h:Own T wa w L) (u:L'.Sublist L):Own (bks L') w w L':=(h.sub u).rebase
theorem qk0 {ks vs:Sl} {key val:Key} (ac:IsB key) (af:IsB val):∀ (f:Nat) {Y F:List Nat} {w0:World} {M:PgM} {p:Int} {K:GrC×Int->WP} (hT:TW dbk pb FD D j w0 Y F M) (hp:U32 p) (hk:RdB (Zo FD Y F) w0 ks key) (hv:RdB (Zo FD Y F) w0 vs val) (aj:(putN D k v key val f M p).1.2≠-1)
  (kk:∀ gs F' w',GOk (putN D k v key val f M p).1.1->TW dbk pb FD D j w' Y F' (putN D k v key val f M p).2->RdB (Zo FD Y F') w' gs (putN D k v key val f M p).1.1.key->Fr F w0 w'->(∀ b∈F',b∈F\/w0.heap.size<=b)->K (grX (putN D k v key val f M p).1.1 gs,(putN D k v key val f M p).1.2) w'),
  cW 108 [.agg (wkV (wkX k v pb t)),.u p,ks.v,vs.v] [.agg qaV,.one .i] w0 K
 | 0,_,_,_,_,_,_,_,_,_,_,aj,_=>absurd rfl aj
 | f+1,Y,F,w0,M,p,K,hT,hp,hk,hv,aj,kk=>by
  refine qjM ?_
  unfold qfr qbM qcz qbL
  have h:=Own.start [] w0
  have g:=Sg.start F w0
  refine Own.new' h fun r1 w2 _ _ h=>?_
  refine Own.new' h fun r3 w4 _ _ h=>?_
  refine Own.ldA h 1 rfl (wkX k v pb t) rfl ?_
  rcases J:loadN D M k v p with ⟨n,e0⟩
  refine qeZ (k:=k) (v:=v) (hT.now0 h) hp fun x B w7 bb aI f7 bc=>?_
  rw [J] at aI ⊢
  dsimp only at aI
  obtain ⟨e,h⟩:=Ed.load (N0:=[]) (fun _ h=>nomatch h) g h bb aI f7 bc fun b hb=>yC (hT.ylt b hb) h.fr.size
  refine Own.new' h fun r8 w9 _ _ h=>?_
  refine Own.sz h 0 rfl (ndV x) fun bM h _=>?_
  refine qaa (fun R=>?_) (fun R=>?_)
  ·have aS:e0≠0:=by
    rw [zT] at R
    exact zR.1 R
   rw [qsI J aS] at kk
   refine Own.sz h 1 rfl (grV (0,false,⟨none,0,0⟩,0)) fun bd h _=>?_
   refine Own.ldA h 1 rfl (0,false,⟨none,0,0⟩,0) rfl ?_
   exact kk ⟨none,0,0⟩ F bd qjl (e.now h).tw'.drop0 (.nil _ _ _ _) (e.now h).fr (e.now h).sg.new
  have bf:e0=0:=by
   rw [yD] at R
   exact yO.1 R
  subst bf
  have hr:=qcK J
  obtain ⟨l1,l2,l3,l4,l5⟩:=qa6 hr
  have e:=e.now h
  have h:=qam h (.refl _)
  have aT:x.1=n.leaf:=e.node.1
  refine Own.ld h 0 rfl x.1 rfl ?_
  refine qaa (fun R=>?_) (fun R=>?_)
  ·rw [aT] at R
   obtain ⟨l6,l7⟩:=l4 R
   refine Own.ldA h 0 rfl x rfl ?_
   refine qf9 e.nodeR (e.rdb hk) ac hr.2.2.1 (by omega) fun bQ bi=>?_
   obtain ⟨e,h⟩:=e.next0 h bi
   have al:=qhF n.keys key
   refine qag (fun _ w'=>∃ x' n' B',Own [r8,r3,r1] w' w' [(r8,.cells (ndV x') ND (0,0)),(r3,.cells (grV (0,false,⟨none,0,0⟩,0)) GR (0,0)),(r1,.cells (wkV (wkX k v pb t)) WK (0,0))]/\Ed dbk pb FD D j F [] w0 w' [r8,r3,r1] Y F M x' n' B'/\
    putN D k v key val (f+1) M p=splitN k v M p n' (!decide (n.keys[placeV n.keys key]?=some key))/\n'.leaf=true/\n'.vals.length=n'.keys.length/\n'.keys.length<=1000/\n'.kids.length<=1000) ?_ ?_
   ·refine qaa (fun O=>?_) (fun O=>?_)
    ·have aK:=zC O
     have bR:=(zP.1 aK).1
     refine Own.ld h 0 rfl x.2.2.1 rfl ?_
     refine e.setV h (i:=placeV n.keys key) (by omega) rfl (e.rdb hv) af fun B' bS e h _=>?_
     refine ⟨x,_,B',h,e,?_,R,by dsimp only; rw [xF]; exact l6,by dsimp only; omega,by dsimp only; omega⟩
     rw [qsv J R aK,zZ aK]
     rfl
    ·have az:=zB O
     have G:putN D k v key val (f+1) M p=splitN k v M p { n with keys:=insAt n.keys (placeV n.keys key) key,vals:=insAt n.vals (placeV n.keys key) val } (!decide (n.keys[placeV n.keys key]?=some key)):=by
      rw [qqB J R az,zU az]; rfl
     have am:(insAt n.vals (placeV n.keys key) val).length=(insAt n.keys (placeV n.keys key) key).length:=by rw [qdq (by omega),qdq al,l6]
     have an:(insAt n.keys (placeV n.keys key) key).length<=1000:=by rw [qdq al]; omega
     refine ⟨?_,?_,?_⟩
     ·have h:=Own.drew h
      refine Own.ld h 0 rfl x.2.1 rfl ?_
      refine Own.ld h 0 rfl x.2.2.1 rfl ?_
      refine Own.new' h fun bT bU _ _ h=>?_
      refine qar (h.cell 1 rfl rfl) (h.cell 1 rfl rfl) ?_
      have e:=e.now h
      refine e.insK h (i:=placeV n.keys key) al rfl (by omega) 0 rfl (e.rdb hk) ac fun U B1 aU e h _=>?_
      refine qah (h.cell 1 rfl rfl) ?_
      refine Own.new' h fun bV bW _ _ h=>?_
      refine qar (h.cell 2 rfl rfl) (h.cell 2 rfl rfl) ?_
      have e:=e.now h
      refine e.insV h (i:=placeV n.keys key) (by dsimp only; omega) rfl (by dsimp only; omega) 0 rfl (e.rdb hv) af fun ao B2 aV e h _=>?_
      refine Own.sz h 2 rfl (ndV (x.1,U,x.2.2.1,x.2.2.2)) fun aW h _=>?_
      refine Own.sz h 2 rfl (ndV (x.1,U,ao,x.2.2.2)) fun aX h _=>?_
      exact ⟨_,_,B2,qam h (.cons _ (.cons _ (.refl _))),(e.now h).sub (by simp),G,R,am,an,by dsimp only; omega⟩
     ·have h:=Own.drew h
      refine Own.ld h 0 rfl x.2.1 rfl ?_
      refine Own.ld h 0 rfl x.2.2.1 rfl ?_
      refine Own.new' h fun bX bY _ _ h=>?_
      refine qar (h.cell 1 rfl rfl) (h.cell 1 rfl rfl) ?_
      refine Own.new' h fun bZ b0 _ _ h=>?_
      refine qar (h.cell 2 rfl rfl) (h.cell 2 rfl rfl) ?_
      have e:=e.now h
      refine e.insK h (i:=placeV n.keys key) al rfl (by omega) 1 rfl (e.rdb hk) ac fun U B1 aU e h _=>?_
      refine qah (h.cell 2 rfl rfl) ?_
      refine e.insV h (i:=placeV n.keys key) (by dsimp only; omega) rfl (by dsimp only; omega) 0 rfl (e.rdb hv) af fun ao B2 aV e h _=>?_
      refine Own.sz h 2 rfl (ndV (x.1,U,x.2.2.1,x.2.2.2)) fun aW h _=>?_
      refine Own.sz h 2 rfl (ndV (x.1,U,ao,x.2.2.2)) fun aX h _=>?_
      exact ⟨_,_,B2,qam h (.cons _ (.cons _ (.refl _))),(e.now h).sub (by simp),G,R,am,an,by dsimp only; omega⟩
     ·have h:=Own.drew h
      refine Own.ld h 0 rfl x.2.1 rfl ?_
      refine Own.ld h 0 rfl x.2.2.1 rfl ?_
      refine Own.new' h fun b1 b2 _ _ h=>?_
      refine qar (h.cell 1 rfl rfl) (h.cell 1 rfl rfl) ?_
      refine Own.new' h fun b3 b4 _ _ h=>?_
      refine qar (h.cell 2 rfl rfl) (h.cell 2 rfl rfl) ?_
      have e:=e.now h
      refine e.insK h (i:=placeV n.keys key) al rfl (by omega) 0 rfl (e.rdb hk) ac fun U B1 aU e h _=>?_
      refine qah (h.cell 2 rfl rfl) ?_
      refine e.insV h (i:=placeV n.keys key) (by dsimp only; omega) rfl (by dsimp only; omega) 1 rfl (e.rdb hv) af fun ao B2 aV e h _=>?_
      refine Own.sz h 2 rfl (ndV (x.1,U,x.2.2.1,x.2.2.2)) fun aW h _=>?_
      refine Own.sz h 2 rfl (ndV (x.1,U,ao,x.2.2.2)) fun aX h _=>?_
      exact ⟨_,_,B2,qam h (.cons _ (.cons _ (.refl _))),(e.now h).sub (by simp),G,R,am,an,by dsimp only; omega⟩
   rintro _ b5 ⟨x',n',B',h,e,G,m0,m1,m2,m3⟩
   rw [G] at kk
   refine Own.ldA h 2 rfl (wkX k v pb t) rfl ?_
   refine Own.ldA h 0 rfl x' rfl ?_
   refine qlF (Y:=[r8,r3,r1]++Y) e.tw' e.nodeR (by omega) (by omega) (by omega) (qr1 m0 m1) hp fun gs F' b8 hG aY A aZ bj=>?_
   have g:=e.sg.next h aZ bj
   have h:=qaK h aZ fun b hb=>e.tw'.yf b (by simp at hb ⊢; rcases hb with h | h | h <;> simp [h])
   refine Own.st' h 1 rfl (grV (grX (splitN k v M p n' (!decide (n.keys[placeV n.keys key]?=some key))).1.1 gs)) rfl rfl (zO rfl) fun bk h _=>?_
   refine Own.ldA h 1 rfl (grX (splitN k v M p n' (!decide (n.keys[placeV n.keys key]?=some key))).1.1 gs) rfl ?_
   exact kk gs F' bk hG (aY.now h).drop0 (qjt (qaF A h)) (g.fr h) g.new
  ·rw [aT] at R
   have ag:¬ n.leaf=true:=by rw [R]; decide
   obtain ⟨l6,l7,l8⟩:=l5 R
   refine Own.ldA h 0 rfl x rfl ?_
   refine qg4 e.nodeR (e.rdb hk) ac hr.2.2.1 (by omega) fun b9 bl=>?_
   obtain ⟨e,h⟩:=e.next0 h bl
   have ap:=qdL n.keys key
   generalize au:kidV n.keys key=c at ap ⊢
   have ah:c<n.kids.length:=by omega
   have aL:n.kids.getD c 0=n.kids[c]:=by rw [yQ,zA ah]; rfl
   have hu:U32 n.kids[c]:=e.node.2.1.2.2 _ (zW ah)
   rcases aq:putN D k v key val f M n.kids[c] with ⟨⟨C,e1⟩,M1⟩
   have V:putN D k v key val f M (n.kids.getD (kidV n.keys key) 0)=((C,e1),M1):=by rw [au,aL]; exact aq
   have aB:e1≠-1:=fun h1=>by
    rw [h1] at V
    rw [ql8 J ag V (by decide)] at aj
    exact aj rfl
   refine ⟨?a,?b⟩
   case' a=>
    have h:=Own.drew h
    have e:=e.now h
    refine Own.ldA h 2 rfl (wkX k v pb t) rfl ?_
    refine Own.ld h 0 rfl x.2.2.2 rfl ?_
    refine Rds.getU e.kidsR c rfl ah fun bm hh=>?_
    refine qk0 ac af f e.tw hu (e.rdb hk) (e.rdb hv) (by rw [aq]; exact aB) fun gs F1 bn hG aa A aM aN=>?_
    rw [aq] at hG aa A ⊢
    obtain ⟨e,h⟩:=e.next h aa aM aN
    refine Own.new' h fun ar bo _ _ h=>?_
    refine qan (hh _ _ (e.now h).kidsR) (h.cell 1 rfl rfl) (h.cells 3 rfl rfl) ?_
    refine Own.sz h 0 rfl (grV (grX C gs)) fun a1 h _=>?_
    have A:=qaF A h
    have e:=e.now h
    have h:=qam h (.refl _)
   case' b=>
    have h:=Own.drew h
    have e:=e.now h
    have h:=qam h (.refl _)
    refine Own.ldA h 2 rfl (wkX k v pb t) rfl ?_
    refine Own.ld h 0 rfl x.2.2.2 rfl ?_
    refine Rds.getU e.kidsR c rfl ah fun bm hh=>?_
    refine Own.new' h fun ar bo _ _ h=>?_
    have e:=e.now h
    refine qan (hh _ _ e.kidsR) (h.cell 1 rfl rfl) (h.cells 3 rfl rfl) ?_
    refine qk0 ac af f e.tw hu (e.rdb hk) (e.rdb hv) (by rw [aq]; exact aB) fun gs F1 bn hG aa A aM aN=>?_
    rw [aq] at hG aa A ⊢
    obtain ⟨e,h⟩:=e.next h aa aM aN
    refine Own.sz h 0 rfl (grV (grX C gs)) fun a1 h _=>?_
    have A:=qaF A h
    have e:=e.now h
    have h:=qam h (.refl _)
   all_goals
    refine qaa (fun O=>?_) (fun O=>?_)
    ·have a2:e1≠0:=by
      rw [zT] at O
      exact zR.1 O
     rw [ql8 J ag V a2] at kk
     refine Own.sz h 2 rfl (grV (0,false,⟨none,0,0⟩,0)) fun bp h _=>?_
     refine Own.ldA h 2 rfl (0,false,⟨none,0,0⟩,0) rfl ?_
     exact kk ⟨none,0,0⟩ F1 bp qjl (e.now h).tw'.drop0 (.nil _ _ _ _) (e.now h).fr (e.now h).sg.new
    have bq:e1=0:=by
     rw [yD] at O
     exact yO.1 O
    subst bq
    refine qag (fun b w'=>b=decide (C.page=n.kids[c]/\C.other=0)/\w'=a1.drew) ?_ ?_
    ·have h:=Own.drew h
     refine Own.ld h 0 rfl C.page rfl ?_
     refine Own.ld h 1 rfl x.2.2.2 rfl ?_
     refine Rds.get (e.now h).kidsR c rfl (zA ah) (y:=n.kids[c]) rfl ?_
     refine qaa (fun E=>?_) (fun E=>?_)
     ·have E:C.page=n.kids[c]:=yO.1 E
      refine Own.ld h 0 rfl C.other rfl ⟨?_,rfl⟩
      rw [Bool.eq_iff_iff,yO,yM]
      exact ⟨fun h=>⟨E,h⟩,fun h=>h.2⟩
     ·have E:C.page≠n.kids[c]:=zR.1 E
      exact ⟨(zU fun h=>E h.1).symm,rfl⟩
    rintro bt bu ⟨rfl,rfl⟩
    have h:=Own.drew h
    have A:=qaF A h
    have e:=e.now h
    have h:=qam h (.refl _)
    refine qaa (fun E=>?_) (fun E=>?_)
    ·have E:=zC E
     rw [<- aL,<- au] at E
     rw [qq8 J ag V E] at kk
     refine Own.ld h 0 rfl C.fresh rfl ?_
     refine Own.sz h 2 rfl (grV (p,C.fresh,⟨none,0,0⟩,0)) fun a3 h _=>?_
     refine Own.ldA h 2 rfl (p,C.fresh,⟨none,0,0⟩,0) rfl ?_
     exact kk ⟨none,0,0⟩ F1 a3 ⟨hp,qc7,.nil⟩ (e.now h).tw'.drop0 (.nil _ _ _ _) (e.now h).fr (e.now h).sg.new
    ·have E:=zB E
     rw [<- aL,<- au] at E
     have G:=qtW J ag V E
     rw [au] at G
     rw [G] at kk
     refine Own.ld h 1 rfl x.2.2.2 rfl ?_
     refine Own.ld h 0 rfl C.page rfl ?_
     refine e.setI h (i:=c) ah rfl hG.page fun B1 bv e h kp=>?_
     have A:=kp.rdb _ _ A
     refine qag (fun _ w'=>∃ x' B',Own [ar,r8,r3,r1] w' w' [(ar,.cells (grV (grX C gs)) GR (0,0)),(r8,.cells (ndV x') ND (0,0)),(r3,.cells (grV (0,false,⟨none,0,0⟩,0)) GR (0,0)),(r1,.cells (wkV (wkX k v pb t)) WK (0,0))]/\Ed dbk pb FD D j F [] w0 w' [ar,r8,r3,r1] Y F1 M1 x' (grownN n c C) B'/\
      ¬ (grownN n c C).leaf=true/\(grownN n c C).keys.length+1=(grownN n c C).kids.length/\2<=(grownN n c C).kids.length/\(grownN n c C).kids.length<=1000/\(grownN n c C).vals.length<=1000) ?_ ?_
     ·refine Own.ld h 0 rfl C.other rfl ?_
      refine qaa (fun Q=>?_) (fun Q=>?_)
      ·have Q:C.other≠0:=by
        rw [zT] at Q
        exact zR.1 Q
       have eg:grownN n c C={ n with kids:=insAt (n.kids.set c C.page) (c+1) C.other,keys:=insAt n.keys c C.key }:=by unfold grownN; rw [if_pos Q]
       have ae:¬ (grownN n c C).leaf=true/\(grownN n c C).keys.length+1=(grownN n c C).kids.length/\2<=(grownN n c C).kids.length/\(grownN n c C).kids.length<=1000/\(grownN n c C).vals.length<=1000:=by
        rw [eg]
        dsimp only
        rw [qdq ap,qdq (l:=n.kids.set c C.page) (by rw [xF]; omega),xF]
        exact ⟨ag,by omega,by omega,by omega,by omega⟩
       rw [eg] at ae ⊢
       have ew:IntKind.wrap .i64 ((c:Int)+1)=((c+1:Nat):Int):=qbs (by omega)
       rw [ew]
       refine ⟨?_,?_,?_⟩
       ·have h:=Own.drew h
        refine Own.ld h 1 rfl x.2.2.2 rfl ?_
        refine Own.ld h 0 rfl C.other rfl ?_
        refine Own.ld h 1 rfl x.2.1 rfl ?_
        refine Own.ld h 0 rfl gs rfl ?_
        refine Own.new' h fun bw bx _ _ h=>?_
        refine qan (h.cell 1 rfl rfl) (h.cell 2 rfl rfl) (h.cell 2 rfl rfl) ?_
        have A:=qaF A h
        have e:=e.now h
        refine e.insI h (i:=c+1) (by dsimp only; rw [xF]; omega) rfl (by dsimp only; rw [xF]; omega) 0 rfl hG.other fun I B2 aC e h kp=>?_
        have A:=kp.rdb _ _ A
        refine qar (h.cell 1 rfl rfl) (h.cell 2 rfl rfl) ?_
        refine Own.new' h fun bz bA _ _ h=>?_
        refine qan (h.cell 3 rfl rfl) (h.cell 2 rfl rfl) (h.cell 3 rfl rfl) ?_
        have A:=qaF A h
        have e:=e.now h
        refine e.insK h (i:=c) ap rfl (by dsimp only; omega) 0 rfl A hG.key fun ab B3 aD e h _=>?_
        refine Own.sz h 3 rfl (ndV (x.1,x.2.1,x.2.2.1,I)) fun aE h _=>?_
        refine Own.sz h 3 rfl (ndV (x.1,ab,x.2.2.1,I)) fun aF h _=>?_
        exact ⟨_,B3,qam h (.cons _ (.cons _ (.refl _))),(e.now h).sub (by simp),ae⟩
       ·have h:=Own.drew h
        refine Own.ld h 1 rfl x.2.2.2 rfl ?_
        refine Own.ld h 0 rfl C.other rfl ?_
        refine Own.ld h 1 rfl x.2.1 rfl ?_
        refine Own.ld h 0 rfl gs rfl ?_
        refine Own.new' h fun bB bC _ _ h=>?_
        refine qan (h.cell 1 rfl rfl) (h.cell 2 rfl rfl) (h.cell 2 rfl rfl) ?_
        refine Own.new' h fun bD bE _ _ h=>?_
        refine qan (h.cell 3 rfl rfl) (h.cell 2 rfl rfl) (h.cell 3 rfl rfl) ?_
        have A:=qaF A h
        have e:=e.now h
        refine e.insI h (i:=c+1) (by dsimp only; rw [xF]; omega) rfl (by dsimp only; rw [xF]; omega) 1 rfl hG.other fun I B2 aC e h kp=>?_
        have A:=kp.rdb _ _ A
        refine qar (h.cell 2 rfl rfl) (h.cell 3 rfl rfl) ?_
        refine e.insK h (i:=c) ap rfl (by dsimp only; omega) 0 rfl A hG.key fun ab B3 aD e h _=>?_
        refine Own.sz h 3 rfl (ndV (x.1,x.2.1,x.2.2.1,I)) fun aE h _=>?_
        refine Own.sz h 3 rfl (ndV (x.1,ab,x.2.2.1,I)) fun aF h _=>?_
        exact ⟨_,B3,qam h (.cons _ (.cons _ (.refl _))),(e.now h).sub (by simp),ae⟩
       ·have h:=Own.drew h
        refine Own.ld h 1 rfl x.2.2.2 rfl ?_
        refine Own.ld h 0 rfl C.other rfl ?_
        refine Own.ld h 1 rfl x.2.1 rfl ?_
        refine Own.ld h 0 rfl gs rfl ?_
        refine Own.new' h fun bF bG _ _ h=>?_
        refine qan (h.cell 2 rfl rfl) (h.cell 1 rfl rfl) (h.cell 2 rfl rfl) ?_
        refine Own.new' h fun bH bI _ _ h=>?_
        refine qan (h.cell 2 rfl rfl) (h.cell 3 rfl rfl) (h.cell 3 rfl rfl) ?_
        have A:=qaF A h
        have e:=e.now h
        refine e.insI h (i:=c+1) (by dsimp only; rw [xF]; omega) rfl (by dsimp only; rw [xF]; omega) 0 rfl hG.other fun I B2 aC e h kp=>?_
        have A:=kp.rdb _ _ A
        refine qar (h.cell 2 rfl rfl) (h.cell 3 rfl rfl) ?_
        refine e.insK h (i:=c) ap rfl (by dsimp only; omega) 1 rfl A hG.key fun ab B3 aD e h _=>?_
        refine Own.sz h 3 rfl (ndV (x.1,x.2.1,x.2.2.1,I)) fun aE h _=>?_
        refine Own.sz h 3 rfl (ndV (x.1,ab,x.2.2.1,I)) fun aF h _=>?_
        exact ⟨_,B3,qam h (.cons _ (.cons _ (.refl _))),(e.now h).sub (by simp),ae⟩
      ·have Q:¬ C.other≠0:=by
        rw [yD] at Q
        exact fun hh=>hh (yO.1 Q)
       have eg:grownN n c C={ n with kids:=n.kids.set c C.page }:=by unfold grownN; rw [if_neg Q]
       rw [eg]
       exact ⟨x,B1,h,e,ag,by dsimp only; rw [xF]; omega,by dsimp only; rw [xF]; omega,by dsimp only; rw [xF]; omega,by dsimp only; omega⟩
     rintro _ bJ ⟨x',B',h,e,q1,q2,q3,q4,q5⟩
     refine Own.ldA h 3 rfl (wkX k v pb t) rfl ?_
     refine Own.ldA h 1 rfl x' rfl ?_
     refine Own.ld h 0 rfl C.fresh rfl ?_
     refine qlF (Y:=[ar,r8,r3,r1]++Y) e.tw' e.nodeR (by omega) (by omega) (by omega) (qqD q1 q2 q3) hp fun aP F2 bK br aQ a5 aG a6=>?_
     have g:=e.sg.next h aG a6
     have h:=qaK h aG fun b hb=>e.tw'.yf b (by simp at hb ⊢; rcases hb with h | h | h | h <;> simp [h])
     refine Own.st' h 2 rfl (grV (grX (splitN k v M1 p (grownN n c C) C.fresh).1.1 aP)) rfl rfl (zO rfl) fun a7 h _=>?_
     refine Own.ldA h 2 rfl (grX (splitN k v M1 p (grownN n c C) C.fresh).1.1 aP) rfl ?_
     exact kk aP F2 a7 br (aQ.now h).drop0 (qjt (qaF a5 h)) (g.fr h) g.new
end
end
section
theorem qaz {H u A C:WP} {w:World} {K:Prop} (h:H w) (E:u w) (G:A w) (I:C w) (k:K):held [H,u,A,C] w K:=by
 unfold held
 exact ⟨⟨h,E,G,I⟩,k⟩
structure Opn (S0 Z:List Nat) (w:World) (x:NdC) (n:NodeM) (pk pv:Kps):Prop where
 lens:NodeL x n
 nb:NB n
 keys:keyP pk=n.keys
 vals:keyP pv=n.vals
 rk:Rds encSl 1 S0 w x.2.1 (slsP pk)
 rv:Rds encSl 1 S0 w x.2.2.1 (slsP pv)
 ri:Rds encU 1 S0 w x.2.2.2 n.kids
 ek:∀ p∈pk,RdB Z w p.1 p.2
 ev:∀ p∈pv,RdB Z w p.1 p.2
section
variable {S S0 S0' Z Z' B:List Nat} {w w':World} {x:NdC} {n:NodeM} {pk pv:Kps}
theorem NodeB.opn (h:NodeB Z w x n B) (A:∀ b∈B,b∉S0):∃ pk pv,Opn S0 Z w x n pk pv:=by
 have E:NodeR [] w x n:=h.rd (fun _ _ h=>(nomatch h)) fun _ h=>nomatch h
 have G:=E.lens
 obtain ⟨h0,C,Bk,Bv,Bi,rfl,I,⟨pk,J,K,O⟩,⟨pv,Q,R,U⟩,V⟩:=h
 exact ⟨pk,pv,G,C,K,R,J.rds qcl fun b u=>A b (by simp [u]),Q.rds qcl fun b u=>A b (by simp [u]),V.rds qaZ fun b u=>A b (by simp [u]),O,U⟩
theorem Opn.frame (h:Opn S0 Z w x n pk pv) (f:Fr S w w') (E:∀ b∈S,b∈S0) (C:∀ b∈S,b∈Z) (A:NewZ S0 w S0') (I:NewZ Z w Z'):Opn S0' Z' w' x n pk pv where
 lens:=h.lens
 nb:=h.nb
 keys:=h.keys
 vals:=h.vals
 rk:=h.rk.frame (f.mono fun b u _=>E b u) A
 rv:=h.rv.frame (f.mono fun b u _=>E b u) A
 ri:=h.ri.frame (f.mono fun b u _=>E b u) A
 ek:=fun p G=>(h.ek p G).frame (f.mono fun b u _=>C b u) I
 ev:=fun p G=>(h.ev p G).frame (f.mono fun b u _=>C b u) I
theorem Opn.klen (h:Opn S0 Z w x n pk pv):pk.length=n.keys.length:=by rw [<- h.keys,zK]
theorem Opn.vlen (h:Opn S0 Z w x n pk pv):pv.length=n.vals.length:=by rw [<- h.vals,zK]
theorem Opn.rdK (h:Opn S0 Z w x n pk pv) (u:∀ b∈S0,b∈Z):RdK S0 w x.2.1 pk:=⟨h.rk,fun p A=>(h.ek p A).frame (.refl _ _) fun b C=>.inl (u b C)⟩
theorem Opn.rdV (h:Opn S0 Z w x n pk pv) (u:∀ b∈S0,b∈Z):RdK S0 w x.2.2.1 pv:=⟨h.rv,fun p A=>(h.ev p A).frame (.refl _ _) fun b C=>.inl (u b C)⟩
theorem Rds.getS {s:Sl} {ps:Kps} {i:Int} {K:Addr->Sl->Prop} (h:Rds encSl 1 S w s (slsP ps)) (n:Nat) (hi:i=n) (I:n<ps.length) (J:∀ a,(∀ S' w',Rds encSl 1 S' w' s (slsP ps)->w'.cell? a=some (.slice ps[n].1.a ps[n].1.len ps[n].1.cap))->K a ps[n].1):idx s i 1 fun a=>ld .slice a w fun y=>K a y:=by
 subst hi
 have E:(slsP ps)[n]?=some ps[n].1:=by rw [zQ,zA I]; rfl
 obtain ⟨U,b,o,G,_,V,T,fr,hb,hc⟩:=h.at n E
 refine qa0 G ⟨by omega,by omega⟩ ?_
 rw [zJ]
 have key:∀ S' w',Rds encSl 1 S' w' s (slsP ps)->w'.cell? ⟨b,o+n*1,none⟩=some (.slice ps[n].1.a ps[n].1.len ps[n].1.cap):=fun S' w' O=>by
  obtain ⟨_,b',o',u,_,Q,T',R,A,C⟩:=O.at n E
  rw [G] at u
  cases u
  rw [qaf A]
  have:=congrArg (·[0]?) C
  simpa [encSl] using this
 exact qaE ps[n].1 (key S w h) (J _ key)
theorem Opn.keyAt (h:Opn S0 Z w x n pk pv) {i:Nat} (hi:i<pk.length):n.keys.getD i []=pk[i].2:=by rw [<- h.keys,qc2 hi]
theorem Opn.valAt (h:Opn S0 Z w x n pk pv) {i:Nat} (hi:i<pv.length):n.vals.getD i []=pv[i].2:=by rw [<- h.vals,qc2 hi]
theorem qc5 {n:NodeM} {i:Nat} (hi:i<n.kids.length):n.kids.getD i 0=n.kids[i]:=by rw [yQ,zA hi]; rfl
end
structure ShapeN (n:NodeM):Prop where
 leaf:n.leaf=true->n.vals.length=n.keys.length
 inner:n.leaf=false->n.kids.length=n.keys.length+1
 keys:n.keys.length<=2000
 vals:n.vals.length<=2000
 kids:n.kids.length<=2000
section
variable {dbk pb j:Nat} {FD Y F Bl Br:List Nat} {D:DiskM} {w0:World} {M:PgM} {xl xr:NdC} {nl nr:NodeM} {ks:Sl} {key:Key}
theorem zoT {T:List Nat} {b:Nat} (h:b∈T):b∈Zo FD (T++Y) F:=by simp [h]
theorem qh1 {T:List Nat}:∀ b∈Zo FD Y F,b∈Zo FD (T++(Bl++Y)) F:=fun b h=>by
 simp only [Zo,zD,zG] at h ⊢
 rcases h with (h | h | h) | h <;> simp [h]
theorem qff {α:Type} (l:List α) (x:α):insAt l 0 x=x::l:=by unfold insAt; simp
theorem qsY {K:NdC×NdC×Sl->WP} (hT:TW dbk pb FD D j w0 (Br++(Bl++Y)) F M) (hl:NodeB (Zo FD (Br++(Bl++Y)) F) w0 xl nl Bl) (hr:NodeB (Zo FD (Br++(Bl++Y)) F) w0 xr nr Br) (d1:∀ b∈Br,b∉Bl) (d2:∀ b∈Br,b∉Y) (d3:∀ b∈Bl,b∉Y) (hk:RdB (Zo FD (Br++(Bl++Y)) F) w0 ks key) (ar:IsB key)
  (bb:nl.leaf=nr.leaf) (h1:1<=nl.keys.length) (sl:ShapeN nl) (sr:ShapeN nr)
  (kk:∀ yl yr az w',TW dbk pb FD D j w' Y F M->NodeR (Zo FD Y F) w' yl (giveN nl nr key).1->NodeR (Zo FD Y F) w' yr (giveN nl nr key).2.1->RdB (Zo FD Y F) w' az (giveN nl nr key).2.2->Fr (Br++F) w0 w'->K (yl,yr,az) w') :
  cW 180 [.agg (ndV xl),.agg (ndV xr),ks.v] [.agg qac,.agg qac,.one .slice] w0 K:=by
 refine qn4 ?_
 unfold qkF qc6 qc3
 obtain ⟨pk,pv,o⟩:=hl.opn (S0:=Br++Zo FD Y F) fun b u U=>by
  rcases zD.1 U with U | U
  ·exact d1 b U u
  ·have h0:=hT.sep b (by simp [u])
   simp only [Zo,zD,zG] at U
   rcases U with (U | U | U) | U
   ·exact h0.1 U
   ·exact h0.2 U
   ·exact d3 b u U
   ·exact hT.yf b (by simp [u]) U
 have e0:Ed dbk pb FD D j (Br++F) Br w0 w0 [] (Bl++Y) F M xr nr Br:=⟨⟨.refl _ _,fun b u=>.inl (by simp [u]),fun _ h=>nomatch h⟩,hT,hr,fun _ h=>(nomatch h),fun b u=>.inl u,fun b u=>by simp [u],fun b u U=>(zD.1 U).elim (d1 b u) (d2 b u)⟩
 have aa:∀ b∈Br++Zo FD Y F,b∈Zo FD (Br++(Bl++Y)) F:=fun b u=>by
  simp only [Zo,zD,zG] at u ⊢
  rcases u with u | (u | u | u) | u <;> simp [u]
 have ab:∀ b∈Br++F,b∈Br++Zo FD Y F:=fun b u=>by
  simp only [Zo,zD,zG] at u ⊢
  rcases u with u | u <;> simp [u]
 have nZ:∀ {w' T x' n' B'},Ed dbk pb FD D j (Br++F) Br w0 w' T (Bl++Y) F M x' n' B'->NewZ (Zo FD (Br++(Bl++Y)) F) w0 (Zo FD (T++(B'++(Bl++Y))) F):=fun e b u=>by
  simp only [Zo,zD,zG] at u
  rcases u with (u | u | u | u | u | u) | u
  ·exact .inl (by simp [u])
  ·exact .inl (by simp [u])
  ·exact (e.sg.own b u).imp (fun h=>aa b (ab b h)) id
  ·exact (e.bnew b u).imp (fun h=>aa b (ab b (e.nsub b h))) id
  ·exact .inl (by simp [u])
  ·exact .inl (by simp [u])
  ·exact .inl (by simp [u])
 have J:∀ {w' T x' n' B'},Ed dbk pb FD D j (Br++F) Br w0 w' T (Bl++Y) F M x' n' B'->Opn (Br++Zo FD Y F) (Zo FD (T++(B'++(Bl++Y))) F) w' xl nl pk pv:=fun e=>o.frame e.fr ab (fun b u=>aa b (ab b u)) (fun b u=>.inl u) (nZ e)
 have aA:=o.rdK aa
 have aB:=o.rdV aa
 have ac:∀ {w' T x' n' B'},Ed dbk pb FD D j (Br++F) Br w0 w' T (Bl++Y) F M x' n' B'->Fr (Br++Zo FD Y F) w0 w':=fun e=>e.fr.mono fun b u _=>ab b u
 have ad:∀ b∈Zo FD Y F,b∈Br++Zo FD Y F\/w0.heap.size<=b:=fun b u=>.inl (zI _ u)
 have O:=o.lens
 have kl:=o.klen
 have vl:=o.vlen
 have sk:=sl.keys
 have bc:=sr.keys
 have bd:=sr.vals
 have bf:=sr.kids
 have aL:IntKind.wrap .i64 ((xl.2.1.len:Int)-1)=((nl.keys.length-1:Nat):Int):=by rw [O.keys,wi' _ (by omega)]; omega
 have h:=Own.start [] w0
 refine Own.new' h fun r1 w2 _ _ h=>?_
 refine Own.new' h fun r3 w4 _ _ h=>?_
 refine Own.new' h fun r5 w6 _ _ h=>?_
 refine Own.new' h fun r7 w8 _ _ h=>?_
 refine Own.ld h 3 rfl xl.2.1 rfl ?_
 refine Own.ld h 3 rfl xl.1 rfl ?_
 rw [aL]
 refine qaa (fun hc=>?_) (fun hc=>?_)
 ·rw [O.leaf] at hc
  have bg:=sl.leaf hc
  have hG:giveN nl nr key=({ nl with keys:=nl.keys.take (nl.keys.length-1),vals:=nl.vals.take (nl.keys.length-1) },{ nr with keys:=nl.keys.getD (nl.keys.length-1) []::nr.keys,vals:=nl.vals.getD (nl.keys.length-1) []::nr.vals },nl.keys.getD (nl.keys.length-1) []):=by unfold giveN; rw [if_pos hc]
  have hi:nl.keys.length-1<pk.length:=by omega
  have Q:nl.keys.length-1<pv.length:=by omega
  rw [hG,o.keyAt hi,o.valAt Q] at kk
  have V:IsB pk[nl.keys.length-1].2:=by rw [<- o.keyAt hi]; exact qa2 o.nb.1 _
  have av:IsB pv[nl.keys.length-1].2:=by rw [<- o.valAt Q]; exact qa2 o.nb.2.1 _
  refine ⟨?a1,?a2,?a3⟩
  case' a1=>
   have h:=Own.drew h
   refine Own.ld h 2 rfl xr.2.1 rfl ?_
   refine Own.ld h 3 rfl xl.2.1 rfl ?_
   refine Rds.getS ((o.rk).frame0 h.fr) (nl.keys.length-1) rfl hi fun af E=>?_
   refine Own.ld h 2 rfl xr.2.2.1 rfl ?_
   refine Own.ld h 3 rfl xl.2.2.1 rfl ?_
   refine Rds.getS ((o.rv).frame0 h.fr) (nl.keys.length-1) rfl Q fun aC R=>?_
   refine Own.new' h fun ag ah _ _ h=>?_
   have e:=e0.now h
   refine qaz (R _ _ (J e).rv) (h.cell 4 rfl rfl) (h.cell 3 rfl rfl) (h.cell 3 rfl rfl) ?_
   refine e.insK h (i:=0) (yW _) rfl (by omega) 0 rfl ((J e).ek _ (zW hi)) V fun A B1 ai e h _=>?_
   refine qan (R _ _ (J e).rv) (h.cell 4 rfl rfl) (h.cell 3 rfl rfl) ?_
   refine Own.new' h fun aj ak _ _ h=>?_
   have e:=e.now h
   refine qaz (h.cell 4 rfl rfl) (E _ _ (J e).rk) (h.cell 5 rfl rfl) (h.cell 4 rfl rfl) ?_
   refine e.insV h (i:=0) (yW _) rfl (by dsimp only; omega) 0 rfl ((J e).ev _ (zW Q)) av fun C B2 al e h _=>?_
  case' a2=>
   have h:=Own.drew h
   refine Own.ld h 2 rfl xr.2.1 rfl ?_
   refine Own.ld h 3 rfl xl.2.1 rfl ?_
   refine Rds.getS ((o.rk).frame0 h.fr) (nl.keys.length-1) rfl hi fun af E=>?_
   refine Own.ld h 2 rfl xr.2.2.1 rfl ?_
   refine Own.ld h 3 rfl xl.2.2.1 rfl ?_
   refine Rds.getS ((o.rv).frame0 h.fr) (nl.keys.length-1) rfl Q fun aC R=>?_
   refine Own.new' h fun ag ah _ _ h=>?_
   refine qaz (R _ _ (J (e0.now h)).rv) (h.cell 4 rfl rfl) (h.cell 3 rfl rfl) (h.cell 3 rfl rfl) ?_
   refine Own.new' h fun aj ak _ _ h=>?_
   have e:=e0.now h
   refine qaz (h.cell 4 rfl rfl) (E _ _ (J e).rk) (h.cell 5 rfl rfl) (h.cell 4 rfl rfl) ?_
   refine e.insK h (i:=0) (yW _) rfl (by omega) 1 rfl ((J e).ek _ (zW hi)) V fun A B1 ai e h _=>?_
   refine qan (R _ _ (J e).rv) (h.cell 5 rfl rfl) (h.cell 4 rfl rfl) ?_
   refine e.insV h (i:=0) (yW _) rfl (by dsimp only; omega) 0 rfl ((J e).ev _ (zW Q)) av fun C B2 al e h _=>?_
  case' a3=>
   have h:=Own.drew h
   refine Own.ld h 2 rfl xr.2.1 rfl ?_
   refine Own.ld h 3 rfl xl.2.1 rfl ?_
   refine Rds.getS ((o.rk).frame0 h.fr) (nl.keys.length-1) rfl hi fun af E=>?_
   refine Own.ld h 2 rfl xr.2.2.1 rfl ?_
   refine Own.ld h 3 rfl xl.2.2.1 rfl ?_
   refine Rds.getS ((o.rv).frame0 h.fr) (nl.keys.length-1) rfl Q fun aC R=>?_
   refine Own.new' h fun ag ah _ _ h=>?_
   refine qaz (h.cell 3 rfl rfl) (E _ _ (J (e0.now h)).rk) (h.cell 4 rfl rfl) (h.cell 3 rfl rfl) ?_
   refine Own.new' h fun aj ak _ _ h=>?_
   have e:=e0.now h
   refine qaz (R _ _ (J e).rv) (h.cell 5 rfl rfl) (h.cell 4 rfl rfl) (h.cell 4 rfl rfl) ?_
   refine e.insK h (i:=0) (yW _) rfl (by omega) 0 rfl ((J e).ek _ (zW hi)) V fun A B1 ai e h _=>?_
   refine qan (R _ _ (J e).rv) (h.cell 5 rfl rfl) (h.cell 4 rfl rfl) ?_
   refine e.insV h (i:=0) (yW _) rfl (by dsimp only; omega) 1 rfl ((J e).ev _ (zW Q)) av fun C B2 al e h _=>?_
  all_goals
   refine Own.sz h 4 rfl (ndV (xr.1,A,xr.2.2.1,xr.2.2.2)) fun aN h _=>?_
   refine Own.sz h 4 rfl (ndV (xr.1,A,C,xr.2.2.2)) fun aO h _=>?_
   have h:=Own.drew h
   refine Own.ld h 5 rfl xl.2.1 rfl ?_
   refine RdK.upto aA (nl.keys.length-1) rfl (by omega) fun G am=>?_
   refine Own.ld h 5 rfl xl.2.2.1 rfl ?_
   refine RdK.upto aB (nl.keys.length-1) rfl (by omega) fun I an=>?_
   refine Own.sz h 5 rfl (ndV (xl.1,G,xl.2.2.1,xl.2.2.2)) fun aP h _=>?_
   refine Own.sz h 5 rfl (ndV (xl.1,G,I,xl.2.2.2)) fun aQ h _=>?_
   have h:=Own.drew h
   refine Own.ldA h 5 rfl (xl.1,G,I,xl.2.2.2) rfl ?_
   refine Own.ldA h 4 rfl (xr.1,A,C,xr.2.2.2) rfl ?_
   refine Own.ld h 4 rfl A rfl ?_
   have e:=e.now h
   have h:=qam h (.refl _)
   obtain ⟨q0,qN,⟨qk,ap,aF⟩,q4,q5⟩:=e.nodeR
   have aw:0<qk.length:=by
    have:=congrArg List.length aF
    dsimp only at this
    rw [qff,zK,yH] at this
    omega
   have aR:qk[0].2=pk[nl.keys.length-1].2:=by
    rw [<- qc2 aw,aF]
    dsimp only
    rw [qff]; rfl
   refine Rds.getS ap.1 0 rfl aw fun bh aG=>?_
   refine Own.sz h 3 rfl (ndV (xl.1,G,I,xl.2.2.2)) fun aS h _=>?_
   refine qan (aG [] _ (ap.1.frame (h.fr.mono fun b u _=>zoT u) fun _ h=>nomatch h)) (h.cell 4 rfl rfl) (h.cells 4 rfl rfl) ?_
   refine Own.sz h 2 rfl (ndV (xr.1,A,C,xr.2.2.2)) fun ax h _=>?_
   refine qar (aG [] _ (ap.1.frame (h.fr.mono fun b u _=>zoT u) fun _ h=>nomatch h)) (h.cell 4 rfl rfl) ?_
   refine Own.ldA h 3 rfl (xl.1,G,I,xl.2.2.2) rfl ?_
   refine Own.ldA h 2 rfl (xr.1,A,C,xr.2.2.2) rfl ?_
   have aq:=qaF (ap.2 _ (zW aw)) h
   rw [aR] at aq
   have e:=e.now h
   have hR:=e.nodeR.weak (S':=Zo FD Y F) fun b u=>.inl (qh1 b u)
   rw [qff,qff] at hR
   exact kk (xl.1,G,I,xl.2.2.2) (xr.1,A,C,xr.2.2.2) _ ax (e.tw'.weakY fun b u=>by simp [u]) ⟨O.leaf,⟨fun a ha=>o.nb.1 a (yU ha),fun a ha=>o.nb.2.1 a (yU ha),o.nb.2.2⟩,⟨_,am.frame (ac e) ad,by rw [qcq,o.keys]⟩,⟨_,an.frame (ac e) ad,by rw [qcq,o.vals]⟩,o.ri.frame (ac e) ad⟩
    hR (aq.frame (.refl _ _) fun b u=>.inl (qh1 b u)) e.fr
 ·rw [O.leaf] at hc
  have aT:¬ nl.leaf=true:=by rw [hc]; decide
  have il:=sl.inner hc
  have hG:giveN nl nr key=({ nl with keys:=nl.keys.take (nl.keys.length-1),kids:=nl.kids.take (nl.keys.length-1+1) },{ nr with keys:=key::nr.keys,kids:=nl.kids.getD (nl.keys.length-1+1) 0::nr.kids },nl.keys.getD (nl.keys.length-1) []):=by unfold giveN; rw [if_neg aT]
  have hi:nl.keys.length-1<pk.length:=by omega
  have ao:nl.keys.length-1+1<nl.kids.length:=by omega
  rw [hG,o.keyAt hi,qc5 ao] at kk
  have V:U32 nl.kids[nl.keys.length-1+1]:=o.nb.2.2 _ (zW ao)
  have aU:IntKind.wrap .i64 (((nl.keys.length-1:Nat):Int)+1)=((nl.keys.length-1+1:Nat):Int):=qbs (by omega)
  rw [aU]
  have kw:∀ {w' T x' n' B'},Ed dbk pb FD D j (Br++F) Br w0 w' T (Bl++Y) F M x' n' B'->RdB (Zo FD (T++(B'++(Bl++Y))) F) w' ks key:=fun e=>hk.frame (e.fr.mono fun b u _=>aa b (ab b u)) (nZ e)
  refine Own.ld h 3 rfl xl.2.1 rfl ?_
  refine Rds.getS ((o.rk).frame0 h.fr) (nl.keys.length-1) rfl hi fun a5 a6=>?_
  refine ⟨?b1,?b2,?b3⟩
  case' b1=>
   have h:=Own.drew h
   refine Own.ld h 2 rfl xr.2.1 rfl ?_
   refine Own.ld h 2 rfl xr.2.2.2 rfl ?_
   refine Own.ld h 3 rfl xl.2.2.2 rfl ?_
   refine Rds.getU ((o.ri).frame0 h.fr) (nl.keys.length-1+1) rfl ao fun af E=>?_
   refine Own.new' h fun ag ah _ _ h=>?_
   have e:=e0.now h
   refine qaz (E _ _ (J e).ri) (h.cell 4 rfl rfl) (h.cell 3 rfl rfl) (h.cell 3 rfl rfl) ?_
   refine e.insK h (i:=0) (yW _) rfl (by omega) 0 rfl (kw e) ar fun A B1 ai e h _=>?_
   refine qan (E _ _ (J e).ri) (h.cell 4 rfl rfl) (h.cell 3 rfl rfl) ?_
   refine Own.new' h fun aj ak _ _ h=>?_
   have e:=e.now h
   refine qar (h.cell 4 rfl rfl) (h.cell 4 rfl rfl) ?_
   refine e.insI h (i:=0) (yW _) rfl (by dsimp only; omega) 0 rfl V fun C B2 al e h _=>?_
  case' b2=>
   have h:=Own.drew h
   refine Own.ld h 2 rfl xr.2.1 rfl ?_
   refine Own.ld h 2 rfl xr.2.2.2 rfl ?_
   refine Own.ld h 3 rfl xl.2.2.2 rfl ?_
   refine Rds.getU ((o.ri).frame0 h.fr) (nl.keys.length-1+1) rfl ao fun af E=>?_
   refine Own.new' h fun ag ah _ _ h=>?_
   refine qaz (E _ _ (J (e0.now h)).ri) (h.cell 4 rfl rfl) (h.cell 3 rfl rfl) (h.cell 3 rfl rfl) ?_
   refine Own.new' h fun aj ak _ _ h=>?_
   have e:=e0.now h
   refine qar (h.cell 4 rfl rfl) (h.cell 4 rfl rfl) ?_
   refine e.insK h (i:=0) (yW _) rfl (by omega) 1 rfl (kw e) ar fun A B1 ai e h _=>?_
   refine qan (E _ _ (J e).ri) (h.cell 5 rfl rfl) (h.cell 4 rfl rfl) ?_
   refine e.insI h (i:=0) (yW _) rfl (by dsimp only; omega) 0 rfl V fun C B2 al e h _=>?_
  case' b3=>
   have h:=Own.drew h
   refine Own.ld h 2 rfl xr.2.1 rfl ?_
   refine Own.ld h 2 rfl xr.2.2.2 rfl ?_
   refine Own.ld h 3 rfl xl.2.2.2 rfl ?_
   refine Rds.getU ((o.ri).frame0 h.fr) (nl.keys.length-1+1) rfl ao fun af E=>?_
   refine Own.new' h fun ag ah _ _ h=>?_
   refine qar (h.cell 3 rfl rfl) (h.cell 3 rfl rfl) ?_
   refine Own.new' h fun aj ak _ _ h=>?_
   have e:=e0.now h
   refine qaz (E _ _ (J e).ri) (h.cell 5 rfl rfl) (h.cell 4 rfl rfl) (h.cell 4 rfl rfl) ?_
   refine e.insK h (i:=0) (yW _) rfl (by omega) 0 rfl (kw e) ar fun A B1 ai e h _=>?_
   refine qan (E _ _ (J e).ri) (h.cell 5 rfl rfl) (h.cell 4 rfl rfl) ?_
   refine e.insI h (i:=0) (yW _) rfl (by dsimp only; omega) 1 rfl V fun C B2 al e h _=>?_
  all_goals
   refine Own.sz h 4 rfl (ndV (xr.1,A,xr.2.2.1,xr.2.2.2)) fun aN h _=>?_
   refine Own.sz h 4 rfl (ndV (xr.1,A,xr.2.2.1,C)) fun aO h _=>?_
   have h:=Own.drew h
   refine Own.ld h 5 rfl xl.2.1 rfl ?_
   refine RdK.upto aA (nl.keys.length-1) rfl (by omega) fun G am=>?_
   refine Own.ld h 5 rfl xl.2.2.2 rfl ?_
   refine Rds.upto1 o.ri (nl.keys.length-1+1) rfl (by omega) fun I an=>?_
   refine Own.sz h 5 rfl (ndV (xl.1,G,xl.2.2.1,xl.2.2.2)) fun aP h _=>?_
   refine Own.sz h 5 rfl (ndV (xl.1,G,xl.2.2.1,I)) fun aQ h _=>?_
   have h:=Own.drew h
   refine Own.ldA h 5 rfl (xl.1,G,xl.2.2.1,I) rfl ?_
   refine Own.ldA h 4 rfl (xr.1,A,xr.2.2.1,C) rfl ?_
   refine Own.sz h 3 rfl (ndV (xl.1,G,xl.2.2.1,I)) fun aS h _=>?_
   refine qah (h.cells 4 rfl rfl) ?_
   refine Own.sz h 2 rfl (ndV (xr.1,A,xr.2.2.1,C)) fun ax h _=>?_
   refine Own.ldA h 3 rfl (xl.1,G,xl.2.2.1,I) rfl ?_
   refine Own.ldA h 2 rfl (xr.1,A,xr.2.2.1,C) rfl ?_
   have e:=e.now h
   have hR:=e.nodeR.weak (S':=Zo FD Y F) fun b u=>.inl (qh1 b u)
   rw [qff,qff] at hR
   exact kk (xl.1,G,xl.2.2.1,I) (xr.1,A,xr.2.2.1,C) _ ax (e.tw'.weakY fun b u=>by simp [u]) ⟨O.leaf,⟨fun a ha=>o.nb.1 a (yU ha),o.nb.2.1,fun a ha=>o.nb.2.2 a (yU ha)⟩,⟨_,am.frame (ac e) ad,by rw [qcq,o.keys]⟩,⟨_,aB.frame (ac e) ad,o.vals⟩,an.frame (ac e) ad⟩
    hR (((J e).ek _ (zW hi)).frame (.refl _ _) fun b u=>.inl (by
     simp only [Zo,zD,zG] at u ⊢
     rcases u with (u | u | u) | u <;> simp [u])) e.fr
end
end
section
section
variable {dbk pb j:Nat} {FD Y F Bl Br:List Nat} {D:DiskM} {w0:World} {M:PgM} {xl xr:NdC} {nl nr:NodeM} {ks:Sl} {key:Key}
theorem qr8 {K:NdC×NdC×Sl->WP} (hT:TW dbk pb FD D j w0 (Bl++(Br++Y)) F M) (hl:NodeB (Zo FD (Bl++(Br++Y)) F) w0 xl nl Bl) (hr:NodeB (Zo FD (Bl++(Br++Y)) F) w0 xr nr Br) (d1:∀ b∈Bl,b∉Br) (d2:∀ b∈Bl,b∉Y) (d3:∀ b∈Br,b∉Y) (hk:RdB (Zo FD (Bl++(Br++Y)) F) w0 ks key) (ap:IsB key)
  (ax:nl.leaf=nr.leaf) (h1:1<=nr.keys.length) (h2:nr.leaf=true->2<=nr.keys.length) (sl:ShapeN nl) (sr:ShapeN nr)
  (kk:∀ yl yr ay w',TW dbk pb FD D j w' Y F M->NodeR (Zo FD Y F) w' yl (takeN nl nr key).1->NodeR (Zo FD Y F) w' yr (takeN nl nr key).2.1->RdB (Zo FD Y F) w' ay (takeN nl nr key).2.2->Fr (Bl++F) w0 w'->K (yl,yr,ay) w') :
  cW 181 [.agg (ndV xl),.agg (ndV xr),ks.v] [.agg qac,.agg qac,.one .slice] w0 K:=by
 refine qmV ?_
 unfold qkB qc8 qda
 obtain ⟨pk,pv,o⟩:=hr.opn (S0:=Bl++Zo FD Y F) fun b u V=>by
  rcases zD.1 V with V | V
  ·exact d1 b V u
  ·have h0:=hT.sep b (by simp [u])
   simp only [Zo,zD,zG] at V
   rcases V with (V | V | V) | V
   ·exact h0.1 V
   ·exact h0.2 V
   ·exact d3 b u V
   ·exact hT.yf b (by simp [u]) V
 have e0:Ed dbk pb FD D j (Bl++F) Bl w0 w0 [] (Br++Y) F M xl nl Bl:=⟨⟨.refl _ _,fun b u=>.inl (by simp [u]),fun _ h=>nomatch h⟩,hT,hl,fun _ h=>(nomatch h),fun b u=>.inl u,fun b u=>by simp [u],fun b u V=>(zD.1 V).elim (d1 b u) (d2 b u)⟩
 have ab:∀ b∈Bl++Zo FD Y F,b∈Zo FD (Bl++(Br++Y)) F:=fun b u=>by
  simp only [Zo,zD,zG] at u ⊢
  rcases u with u | (u | u | u) | u <;> simp [u]
 have ac:∀ b∈Bl++F,b∈Bl++Zo FD Y F:=fun b u=>by
  simp only [Zo,zD,zG] at u ⊢
  rcases u with u | u <;> simp [u]
 have nZ:∀ {w' T x' n' B'},Ed dbk pb FD D j (Bl++F) Bl w0 w' T (Br++Y) F M x' n' B'->NewZ (Zo FD (Bl++(Br++Y)) F) w0 (Zo FD (T++(B'++(Br++Y))) F):=fun e b u=>by
  simp only [Zo,zD,zG] at u
  rcases u with (u | u | u | u | u | u) | u
  ·exact .inl (by simp [u])
  ·exact .inl (by simp [u])
  ·exact (e.sg.own b u).imp (fun h=>ab b (ac b h)) id
  ·exact (e.bnew b u).imp (fun h=>ab b (ac b (e.nsub b h))) id
  ·exact .inl (by simp [u])
  ·exact .inl (by simp [u])
  ·exact .inl (by simp [u])
 have I:∀ {w' T x' n' B'},Ed dbk pb FD D j (Bl++F) Bl w0 w' T (Br++Y) F M x' n' B'->Opn (Bl++Zo FD Y F) (Zo FD (T++(B'++(Br++Y))) F) w' xr nr pk pv:=fun e=>o.frame e.fr ac (fun b u=>ab b (ac b u)) (fun b u=>.inl u) (nZ e)
 have az:=o.rdK ab
 have aA:=o.rdV ab
 have O:∀ {w' T x' n' B'},Ed dbk pb FD D j (Bl++F) Bl w0 w' T (Br++Y) F M x' n' B'->Fr (Bl++Zo FD Y F) w0 w':=fun e=>e.fr.mono fun b u _=>ac b u
 have ad:∀ b∈Zo FD Y F,b∈Bl++Zo FD Y F\/w0.heap.size<=b:=fun b u=>.inl (zI _ u)
 have ak:=o.lens
 have kl:=o.klen
 have vl:=o.vlen
 have sk:=sr.keys
 have bh:=sl.keys
 have bi:=sl.vals
 have bj:=sl.kids
 have h:=Own.start [] w0
 refine Own.new' h fun r1 w2 _ _ h=>?_
 refine Own.new' h fun r3 w4 _ _ h=>?_
 refine Own.new' h fun r5 w6 _ _ h=>?_
 refine Own.new' h fun r7 w8 _ _ h=>?_
 refine Own.ld h 3 rfl xl.1 rfl ?_
 refine qaa (fun hc=>?_) (fun hc=>?_)
 ·rw [hl.1] at hc
  have aB:nr.leaf=true:=by rw [<- ax]; exact hc
  have h2:=h2 aB
  have bk:=sr.leaf aB
  have hG:takeN nl nr key=({ nl with keys:=nl.keys++[nr.keys.getD 0 []],vals:=nl.vals++[nr.vals.getD 0 []] },{ nr with keys:=nr.keys.drop 1,vals:=nr.vals.drop 1 },(nr.keys.drop 1).getD 0 []):=by unfold takeN; rw [if_pos hc]
  have hi:0<pk.length:=by omega
  have Q:0<pv.length:=by omega
  have ar:0<(pk.drop 1).length:=by rw [yB]; omega
  have aU:(nr.keys.drop 1).getD 0 []=(pk.drop 1)[0].2:=by rw [<- o.keys,<- qbO,qc2 ar]
  rw [hG,o.keyAt hi,o.valAt Q,aU] at kk
  have aa:IsB pk[0].2:=by rw [<- o.keyAt hi]; exact qa2 o.nb.1 _
  have au:IsB pv[0].2:=by rw [<- o.valAt Q]; exact qa2 o.nb.2.1 _
  refine ⟨?a1,?a2,?a3⟩
  case' a1=>
   have h:=Own.drew h
   refine Own.ld h 3 rfl xl.2.1 rfl ?_
   refine Own.ld h 2 rfl xr.2.1 rfl ?_
   refine Rds.getS ((o.rk).frame0 h.fr) 0 rfl hi fun aC af=>?_
   refine Own.ld h 3 rfl xl.2.2.1 rfl ?_
   refine Own.ld h 2 rfl xr.2.2.1 rfl ?_
   refine Rds.getS ((o.rv).frame0 h.fr) 0 rfl Q fun aD R=>?_
   refine Own.new' h fun aE aF _ _ h=>?_
   have e:=e0.now h
   refine qaz (R _ _ (I e).rv) (h.cell 3 rfl rfl) (h.cell 4 rfl rfl) (h.cell 4 rfl rfl) ?_
   refine e.appK h (by omega) 0 rfl ((I e).ek _ (zW hi)) aa fun A B1 aH e h _=>?_
   refine qan (R _ _ (I e).rv) (h.cell 3 rfl rfl) (h.cell 4 rfl rfl) ?_
   refine Own.new' h fun aI aJ _ _ h=>?_
   have e:=e.now h
   refine qaz (h.cell 5 rfl rfl) (af _ _ (I e).rk) (h.cell 4 rfl rfl) (h.cell 5 rfl rfl) ?_
   refine e.appV h (by dsimp only; omega) 0 rfl ((I e).ev _ (zW Q)) au fun C B2 aL e h _=>?_
  case' a2=>
   have h:=Own.drew h
   refine Own.ld h 3 rfl xl.2.1 rfl ?_
   refine Own.ld h 2 rfl xr.2.1 rfl ?_
   refine Rds.getS ((o.rk).frame0 h.fr) 0 rfl hi fun aC af=>?_
   refine Own.ld h 3 rfl xl.2.2.1 rfl ?_
   refine Own.ld h 2 rfl xr.2.2.1 rfl ?_
   refine Rds.getS ((o.rv).frame0 h.fr) 0 rfl Q fun aD R=>?_
   refine Own.new' h fun aE aF _ _ h=>?_
   refine qaz (R _ _ (I (e0.now h)).rv) (h.cell 3 rfl rfl) (h.cell 4 rfl rfl) (h.cell 4 rfl rfl) ?_
   refine Own.new' h fun aI aJ _ _ h=>?_
   have e:=e0.now h
   refine qaz (h.cell 5 rfl rfl) (af _ _ (I e).rk) (h.cell 4 rfl rfl) (h.cell 5 rfl rfl) ?_
   refine e.appK h (by omega) 1 rfl ((I e).ek _ (zW hi)) aa fun A B1 aH e h _=>?_
   refine qan (R _ _ (I e).rv) (h.cell 4 rfl rfl) (h.cell 5 rfl rfl) ?_
   refine e.appV h (by dsimp only; omega) 0 rfl ((I e).ev _ (zW Q)) au fun C B2 aL e h _=>?_
  case' a3=>
   have h:=Own.drew h
   refine Own.ld h 3 rfl xl.2.1 rfl ?_
   refine Own.ld h 2 rfl xr.2.1 rfl ?_
   refine Rds.getS ((o.rk).frame0 h.fr) 0 rfl hi fun aC af=>?_
   refine Own.ld h 3 rfl xl.2.2.1 rfl ?_
   refine Own.ld h 2 rfl xr.2.2.1 rfl ?_
   refine Rds.getS ((o.rv).frame0 h.fr) 0 rfl Q fun aD R=>?_
   refine Own.new' h fun aE aF _ _ h=>?_
   refine qaz (h.cell 4 rfl rfl) (af _ _ (I (e0.now h)).rk) (h.cell 3 rfl rfl) (h.cell 4 rfl rfl) ?_
   refine Own.new' h fun aI aJ _ _ h=>?_
   have e:=e0.now h
   refine qaz (R _ _ (I e).rv) (h.cell 4 rfl rfl) (h.cell 5 rfl rfl) (h.cell 5 rfl rfl) ?_
   refine e.appK h (by omega) 0 rfl ((I e).ek _ (zW hi)) aa fun A B1 aH e h _=>?_
   refine qan (R _ _ (I e).rv) (h.cell 4 rfl rfl) (h.cell 5 rfl rfl) ?_
   refine e.appV h (by dsimp only; omega) 1 rfl ((I e).ev _ (zW Q)) au fun C B2 aL e h _=>?_
  all_goals
   refine Own.sz h 5 rfl (ndV (xl.1,A,xl.2.2.1,xl.2.2.2)) fun aj h _=>?_
   refine Own.sz h 5 rfl (ndV (xl.1,A,C,xl.2.2.2)) fun aV h _=>?_
   have h:=Own.drew h
   refine Own.ld h 4 rfl xr.2.1 rfl ?_
   refine RdK.from az 1 rfl (by omega) fun E J=>?_
   refine Own.ld h 4 rfl xr.2.2.1 rfl ?_
   refine RdK.from aA 1 rfl (by omega) fun G ag=>?_
   refine Own.sz h 4 rfl (ndV (xr.1,E,xr.2.2.1,xr.2.2.2)) fun aW h _=>?_
   refine Own.sz h 4 rfl (ndV (xr.1,E,G,xr.2.2.2)) fun aX h _=>?_
   have h:=Own.drew h
   refine Own.ldA h 5 rfl (xl.1,A,C,xl.2.2.2) rfl ?_
   refine Own.ldA h 4 rfl (xr.1,E,G,xr.2.2.2) rfl ?_
   refine Own.ld h 4 rfl E rfl ?_
   refine Rds.getS (J.frame (O (e.now h)) fun b u=>.inl u).1 0 rfl ar fun bl aM=>?_
   refine Own.sz h 3 rfl (ndV (xl.1,A,C,xl.2.2.2)) fun aY h _=>?_
   refine qan (aM _ _ (J.frame (O (e.now h)) fun b u=>.inl u).1) (h.cell 4 rfl rfl) (h.cells 4 rfl rfl) ?_
   refine Own.sz h 2 rfl (ndV (xr.1,E,G,xr.2.2.2)) fun av h _=>?_
   refine qar (aM _ _ (J.frame (O (e.now h)) fun b u=>.inl u).1) (h.cell 4 rfl rfl) ?_
   refine Own.ldA h 3 rfl (xl.1,A,C,xl.2.2.2) rfl ?_
   refine Own.ldA h 2 rfl (xr.1,E,G,xr.2.2.2) rfl ?_
   have e:=e.now h
   have hR:=e.nodeR.weak (S':=Zo FD Y F) fun b u=>.inl (qh1 b u)
   have ah:=J.frame (O e) ad
   exact kk (xl.1,A,C,xl.2.2.2) (xr.1,E,G,xr.2.2.2) _ av (e.tw'.weakY fun b u=>by simp [u]) hR ⟨ak.leaf,⟨fun a ha=>o.nb.1 a (yT ha),fun a ha=>o.nb.2.1 a (yT ha),o.nb.2.2⟩,⟨_,ah,by rw [qbO,o.keys]⟩,⟨_,ag.frame (O e) ad,by rw [qbO,o.vals]⟩,o.ri.frame (O e) ad⟩
    (ah.2 _ (zW ar)) e.fr
 ·rw [hl.1] at hc
  have a0:¬ nl.leaf=true:=by rw [hc]; decide
  have il:=sr.inner (by rw [<- ax]; exact hc)
  have hG:takeN nl nr key=({ nl with keys:=nl.keys++[key],kids:=nl.kids++[nr.kids.getD 0 0] },{ nr with keys:=nr.keys.drop 1,kids:=nr.kids.drop 1 },nr.keys.getD 0 []):=by unfold takeN; rw [if_neg a0]
  have hi:0<pk.length:=by omega
  have ai:0<nr.kids.length:=by omega
  rw [hG,o.keyAt hi,qc5 ai] at kk
  have aa:U32 nr.kids[0]:=o.nb.2.2 _ (zW ai)
  have kw:∀ {w' T x' n' B'},Ed dbk pb FD D j (Bl++F) Bl w0 w' T (Br++Y) F M x' n' B'->RdB (Zo FD (T++(B'++(Br++Y))) F) w' ks key:=fun e=>hk.frame (e.fr.mono fun b u _=>ab b (ac b u)) (nZ e)
  refine Own.ld h 2 rfl xr.2.1 rfl ?_
  refine Rds.getS ((o.rk).frame0 h.fr) 0 rfl hi fun ba bb=>?_
  refine ⟨?b1,?b2,?b3⟩
  case' b1=>
   have h:=Own.drew h
   refine Own.ld h 3 rfl xl.2.1 rfl ?_
   refine Own.ld h 3 rfl xl.2.2.2 rfl ?_
   refine Own.ld h 2 rfl xr.2.2.2 rfl ?_
   refine Rds.getU ((o.ri).frame0 h.fr) 0 rfl ai fun aN U=>?_
   refine Own.new' h fun al am _ _ h=>?_
   have e:=e0.now h
   refine qaz (U _ _ (I e).ri) (h.cell 3 rfl rfl) (h.cell 4 rfl rfl) (h.cell 4 rfl rfl) ?_
   refine e.appK h (by omega) 0 rfl (kw e) ap fun A B1 aO e h _=>?_
   refine qan (U _ _ (I e).ri) (h.cell 3 rfl rfl) (h.cell 4 rfl rfl) ?_
   refine Own.new' h fun an ao _ _ h=>?_
   have e:=e.now h
   refine qar (h.cell 5 rfl rfl) (h.cell 5 rfl rfl) ?_
   refine e.appI h (by dsimp only; omega) 0 rfl aa fun C B2 aj e h _=>?_
  case' b2=>
   have h:=Own.drew h
   refine Own.ld h 3 rfl xl.2.1 rfl ?_
   refine Own.ld h 3 rfl xl.2.2.2 rfl ?_
   refine Own.ld h 2 rfl xr.2.2.2 rfl ?_
   refine Rds.getU ((o.ri).frame0 h.fr) 0 rfl ai fun aN U=>?_
   refine Own.new' h fun al am _ _ h=>?_
   refine qaz (U _ _ (I (e0.now h)).ri) (h.cell 3 rfl rfl) (h.cell 4 rfl rfl) (h.cell 4 rfl rfl) ?_
   refine Own.new' h fun an ao _ _ h=>?_
   have e:=e0.now h
   refine qar (h.cell 5 rfl rfl) (h.cell 5 rfl rfl) ?_
   refine e.appK h (by omega) 1 rfl (kw e) ap fun A B1 aO e h _=>?_
   refine qan (U _ _ (I e).ri) (h.cell 4 rfl rfl) (h.cell 5 rfl rfl) ?_
   refine e.appI h (by dsimp only; omega) 0 rfl aa fun C B2 aj e h _=>?_
  case' b3=>
   have h:=Own.drew h
   refine Own.ld h 3 rfl xl.2.1 rfl ?_
   refine Own.ld h 3 rfl xl.2.2.2 rfl ?_
   refine Own.ld h 2 rfl xr.2.2.2 rfl ?_
   refine Rds.getU ((o.ri).frame0 h.fr) 0 rfl ai fun aN U=>?_
   refine Own.new' h fun al am _ _ h=>?_
   refine qar (h.cell 4 rfl rfl) (h.cell 4 rfl rfl) ?_
   refine Own.new' h fun an ao _ _ h=>?_
   have e:=e0.now h
   refine qaz (U _ _ (I e).ri) (h.cell 4 rfl rfl) (h.cell 5 rfl rfl) (h.cell 5 rfl rfl) ?_
   refine e.appK h (by omega) 0 rfl (kw e) ap fun A B1 aO e h _=>?_
   refine qan (U _ _ (I e).ri) (h.cell 4 rfl rfl) (h.cell 5 rfl rfl) ?_
   refine e.appI h (by dsimp only; omega) 1 rfl aa fun C B2 aj e h _=>?_
  all_goals
   refine Own.sz h 5 rfl (ndV (xl.1,A,xl.2.2.1,xl.2.2.2)) fun aj h _=>?_
   refine Own.sz h 5 rfl (ndV (xl.1,A,xl.2.2.1,C)) fun aV h _=>?_
   have h:=Own.drew h
   refine Own.ld h 4 rfl xr.2.1 rfl ?_
   refine RdK.from az 1 rfl (by omega) fun E J=>?_
   refine Own.ld h 4 rfl xr.2.2.2 rfl ?_
   refine Rds.from1 o.ri 1 rfl (by omega) fun G ag=>?_
   refine Own.sz h 4 rfl (ndV (xr.1,E,xr.2.2.1,xr.2.2.2)) fun aW h _=>?_
   refine Own.sz h 4 rfl (ndV (xr.1,E,xr.2.2.1,G)) fun aX h _=>?_
   have h:=Own.drew h
   refine Own.ldA h 5 rfl (xl.1,A,xl.2.2.1,C) rfl ?_
   refine Own.ldA h 4 rfl (xr.1,E,xr.2.2.1,G) rfl ?_
   refine Own.sz h 3 rfl (ndV (xl.1,A,xl.2.2.1,C)) fun aY h _=>?_
   refine qah (h.cells 4 rfl rfl) ?_
   refine Own.sz h 2 rfl (ndV (xr.1,E,xr.2.2.1,G)) fun av h _=>?_
   refine Own.ldA h 3 rfl (xl.1,A,xl.2.2.1,C) rfl ?_
   refine Own.ldA h 2 rfl (xr.1,E,xr.2.2.1,G) rfl ?_
   have e:=e.now h
   have hR:=e.nodeR.weak (S':=Zo FD Y F) fun b u=>.inl (qh1 b u)
   exact kk (xl.1,A,xl.2.2.1,C) (xr.1,E,xr.2.2.1,G) _ av (e.tw'.weakY fun b u=>by simp [u]) hR ⟨ak.leaf,⟨fun a ha=>o.nb.1 a (yT ha),o.nb.2.1,fun a ha=>o.nb.2.2 a (yT ha)⟩,⟨_,J.frame (O e) ad,by rw [qbO,o.keys]⟩,⟨_,aA.frame (O e) ad,o.vals⟩,ag.frame (O e) ad⟩
    (((I e).ek _ (zW hi)).frame (.refl _ _) fun b u=>.inl (by
     simp only [Zo,zD,zG] at u ⊢
     rcases u with (u | u | u) | u <;> simp [u])) e.fr
end
end
section
section
variable {dbk pb j:Nat} {FD S S0 S1 N0 Y Y1 F F' T B Bl Br Bn:List Nat} {D:DiskM} {w0 wa w w':World} {M M':PgM} {L:List (Nat×Obj)} {x xl xr:NdC} {n nl nr:NodeM} {k v:Nat} {t:Int}
theorem qtg (g:Sg S0 w0 wa F T) (u:∀ b∈S0,b∈S1):Sg S1 w0 wa F T:=⟨g.tot.mono fun b h _=>u b h,fun b h=>(g.new b h).imp (u b) id,fun b h=>(g.own b h).imp (u b) id⟩
structure Oth (FD F:List Nat) (w:World) (T R:List Nat) (x:NdC) (n:NodeM) (B:List Nat):Prop where
 node:NodeB (Zo FD (T++R) F) w x n B
 sep:∀ b∈T,b∉B
theorem Oth.now {R:List Nat} (o:Oth FD F wa T R x n B) (h:Own T wa w L):Oth FD F w (bks L) R x n B:=
 ⟨o.node.frame h.fr (fun b u A=>o.sep b A u) (fun b u=>.inl (by simp [u])) (qjS h),fun b u A=>by
  obtain ⟨q,E,rfl⟩:=mem_map.1 u
  rcases h.own q E with C | C
  ·exact o.sep _ C A
  ·have:=o.node.lt _ A; omega⟩
theorem Ed.base {Z:List Nat} (e:Ed dbk pb FD D j S0 N0 w0 w T Y F M x n B) (A:∀ b∈S0,b∈Z) (C:∀ b∈FD,b∈Z) (E:HG∈Z) (G:∀ b∈Y,b∈Z):NewZ Z w0 (Zo FD (T++(B++Y)) F):=fun b u=>by
 simp only [Zo,zD,zG] at u
 rcases u with (u | u | u | u | u) | u
 ·exact .inl (C b u)
 ·rw [u]; exact .inl E
 ·exact (e.sg.own b u).imp (A b) id
 ·exact (e.bnew b u).imp (fun h=>A b (e.nsub b h)) id
 ·exact .inl (G b u)
 ·exact (e.sg.new b u).imp (A b) id
theorem Ed.other {Z:List Nat} (e:Ed dbk pb FD D j S0 N0 w0 w T Y F M x n B) (V:NodeB Z w0 xl nl Bn) (O:∀ b∈Bn,b∉S0) (Q:∀ b∈S0,b∈Z) (E:∀ b∈FD,b∈Z) (G:HG∈Z) (hY:∀ b∈Y,b∈Z) (A:∀ b∈Bn++Y1,b∈Y) (I:∀ b∈Bn,b∉Y1) (J:∀ b∈Bn,b<w0.heap.size) :
  Ed dbk pb FD D j (Bn++S0) Bn w0 w T Y1 F M xl nl Bn:=by
 have hz:=e.base Q E G hY
 have C:∀ b∈Zo FD (T++(Bn++Y1)) F,b∈Zo FD (T++(B++Y)) F:=fun b u=>by
  simp only [Zo,zD,zG] at u ⊢
  have K:=fun h=>A b h
  simp only [zD] at K
  rcases u with (u | u | u | u | u) | u
  ·simp [u]
  ·simp [u]
  ·simp [u]
  ·simp [K (.inl u)]
  ·simp [K (.inr u)]
  ·simp [u]
 refine ⟨qtg e.sg fun b u=>zI _ u,e.tw.weakY fun b u=>?_,V.frame e.fr O (fun b u=>.inl (Q b u)) fun b u=>hz b (C b u),fun b u R=>?_,fun b u=>.inl u,fun b u=>zH _ u,I⟩
 ·rcases zD.1 u with u | u
  ·simp [u]
  ·exact zI _ (zI _ (A b u))
 ·rcases e.sg.own b u with U | U
  ·exact O b R U
  ·have:=J b R; omega
theorem quA:∀ b∈Bn++(Br++Y),b∈Zo FD (Bl++(Bn++(Br++Y))) F:=fun b u=>by
 simp only [Zo,zD,zG] at u ⊢
 rcases u with h | h | h <;> simp [h]
theorem qut:∀ b∈Bn++Y,b∈Bn++(Br++Y):=fun b u=>by
 simp only [zD] at u ⊢
 rcases u with h | h <;> simp [h]
theorem qub:∀ b∈Zo FD (T++(Bn++Y)) F,b∈Zo FD (T++(Bn++(Br++Y))) F:=fun b u=>by
 simp only [Zo,zD,zG] at u ⊢
 rcases u with (h | h | h | h | h) | h <;> simp [h]
theorem qsz {i:Nat} {K:NdC×Int->WP} (hT:TW dbk pb FD D j w0 (Bl++(Bn++(Br++Y))) F M) (hl:NodeB (Zo FD (Bl++(Bn++(Br++Y))) F) w0 xl nl Bl) (hn:NodeB (Zo FD (Bl++(Bn++(Br++Y))) F) w0 x n Bn) (hr:NodeB (Zo FD (Bl++(Bn++(Br++Y))) F) w0 xr nr Br)
  (d1:∀ b∈Bl,b∉Bn) (d2:∀ b∈Bl,b∉Br) (d3:∀ b∈Bl,b∉Y) (d4:∀ b∈Bn,b∉Br) (d5:∀ b∈Bn,b∉Y) (sl:ShapeN nl) (sr:ShapeN nr) (sn:ShapeN n) (hi:i<n.keys.length) (az:n.leaf=false)
  (O:∀ yn B' F' w',TW dbk pb FD D j w' (B'++Y) F' (joinM k v M n i nl nr).2->NodeB (Zo FD (B'++Y) F') w' yn (joinM k v M n i nl nr).1.1 B'->Fr (Bn++(Bl++F)) w0 w'->(∀ b∈B',b∈Bn\/w0.heap.size<=b)->(∀ b∈F',b∈Bn++(Bl++F)\/w0.heap.size<=b)->K (yn,(joinM k v M n i nl nr).1.2) w') :
  cW 179 [.agg (wkV (wkX k v pb t)),.agg (ndV x),.i i,.agg (ndV xl),.agg (ndV xr)] [.agg qac,.one .i] w0 K:=by
 refine qit ?_
 unfold qer
 have e0:Ed dbk pb FD D j (Bl++F) Bl w0 w0 [] (Bn++(Br++Y)) F M xl nl Bl:=⟨⟨.refl _ _,fun b u=>.inl (by simp [u]),fun _ h=>nomatch h⟩,hT,hl,fun _ h=>(nomatch h),fun b u=>.inl u,fun b u=>by simp [u],fun b u G=>by
  simp only [zD] at G
  rcases G with G | G | G
  ·exact d1 b u G
  ·exact d2 b u G
  ·exact d3 b u G⟩
 have hF:∀ {Bx:List Nat},(∀ b∈Bx,b∈Bn\/b∈Br)->(∀ b∈Bx,b∉Bl)->∀ b∈Bx,b∉Bl++F:=fun h1 h2 b u G=>(zD.1 G).elim (h2 b u) fun G=>hT.yf b (by rcases h1 b u with h | h <;> simp [h]) G
 have dn:=hF (Bx:=Bn) (fun b u=>.inl u) fun b u G=>d1 b G u
 obtain ⟨nk,nv,on⟩:=hn.opn (S0:=Bl++F) dn
 obtain ⟨rk,rv,E⟩:=hr.opn (S0:=Bl++F) (hF (fun b u=>.inr u) fun b u G=>d2 b G u)
 have aa:∀ b∈Bl++F,b∈Zo FD (Bl++(Bn++(Br++Y))) F:=fun b u=>by
  rcases zD.1 u with u | u <;> simp [u]
 have nZ:∀ {w' T x' n' B'},Ed dbk pb FD D j (Bl++F) Bl w0 w' T (Bn++(Br++Y)) F M x' n' B'->NewZ (Zo FD (Bl++(Bn++(Br++Y))) F) w0 (Zo FD (T++(B'++(Bn++(Br++Y)))) F):=fun e=>e.base aa (fun b u=>by simp [u]) (by simp) fun b u=>by simp only [Zo,zD,zG] at u ⊢; rcases u with h | h | h <;> simp [h]
 have nw:∀ {w' T x' n' B'},Ed dbk pb FD D j (Bl++F) Bl w0 w' T (Bn++(Br++Y)) F M x' n' B'->Opn (Bl++F) (Zo FD (T++(B'++(Bn++(Br++Y)))) F) w' x n nk nv:=fun e=>on.frame e.fr (fun b u=>u) aa (fun b u=>.inl u) (nZ e)
 have R:∀ {w' T x' n' B'},Ed dbk pb FD D j (Bl++F) Bl w0 w' T (Bn++(Br++Y)) F M x' n' B'->Opn (Bl++F) (Zo FD (T++(B'++(Bn++(Br++Y)))) F) w' xr nr rk rv:=fun e=>E.frame e.fr (fun b u=>u) aa (fun b u=>.inl u) (nZ e)
 have ab:i<nk.length:=by rw [on.klen]; exact hi
 have a4:=sn.inner az
 have ac:i<n.kids.length:=by omega
 have ae:i+1<n.kids.length:=by omega
 have z1:=sl.keys
 have z2:=sl.vals
 have z3:=sl.kids
 have z4:=sr.keys
 have z5:=sr.vals
 have z6:=sr.kids
 have z7:=sn.keys
 have z8:=sn.kids
 have a5:=E.klen
 have a6:=E.vlen
 have h:=Own.start [] w0
 refine Own.new' h fun r1 w2 _ _ h=>?_
 refine Own.new' h fun r3 w4 _ _ h=>?_
 refine Own.new' h fun r5 w6 _ _ h=>?_
 refine Own.new' h fun r7 w8 _ _ h=>?_
 refine Own.new' h fun r9 a7 _ _ h=>?_
 refine qag (fun _ w'=>∃ I B',Own [r9,r7,r5,r3,r1] w' w' [(r9,.cells (ndV zeroX) ND (0,0)),(r7,.cells (ndV xr) ND (0,0)),(r5,.cells (ndV (xl.1,I,xl.2.2)) ND (0,0)),(r3,.cells (ndV x) ND (0,0)),(r1,.cells (wkV (wkX k v pb t)) WK (0,0))]/\
  Ed dbk pb FD D j (Bl++F) Bl w0 w' [r9,r7,r5,r3,r1] (Bn++(Br++Y)) F M (xl.1,I,xl.2.2) { nl with keys:=if nl.leaf then nl.keys else nl.keys++[n.keys.getD i []] } B') ?_ ?_
 ·refine Own.ld h 2 rfl xl.1 rfl ?_
  refine qaa (fun C=>?_) (fun C=>?_)
  ·have C:nl.leaf=false:=by rw [hl.1,zT] at C; exact C
   rw [if_neg (show ¬ nl.leaf=true by rw [C]; decide),on.keyAt ab]
   have h:=Own.drew h
   refine Own.ld h 2 rfl xl.2.1 rfl ?_
   refine Own.ld h 3 rfl x.2.1 rfl ?_
   refine Rds.get (on.rk.frame0 h.fr) i rfl (x:=nk[i].1) (by rw [zQ,zA ab]; rfl) (y:=nk[i].1) rfl ?_
   refine Own.new' h fun a8 a9 _ _ h=>?_
   refine qah (h.cell 3 rfl rfl) ?_
   have e:=e0.now h
   refine e.appK h (by omega) 0 rfl ((nw e).ek _ (zW ab)) (by rw [<- on.keyAt ab]; exact qa2 on.nb.1 _) fun I B1 a' e h _=>?_
   refine Own.sz h 3 rfl (ndV (xl.1,I,xl.2.2)) fun ba h _=>?_
   exact ⟨I,B1,qam h (.cons _ (.refl _)),(e.now h).sub (by simp)⟩
  ·have C:nl.leaf=true:=by rw [hl.1,yD] at C; exact C
   rw [if_pos C]
   exact ⟨xl.2.1,Bl,qam h (.refl _),e0.now h⟩
 rintro _ bb ⟨I,B1,h,e⟩
 have e:=e.now h
 have h:=qam h (.refl _)
 refine Own.ld h 2 rfl I rfl ?_
 refine Own.ld h 1 rfl xr.2.1 rfl ?_
 have aS:(if nl.leaf then nl.keys else nl.keys++[n.keys.getD i []]).length<=2001:=by
  split
  ·omega
  ·rw [zF,xL]; omega
 refine e.appAllK h (by dsimp only; omega) (R e).rk (R e).ek (by rw [E.keys]; exact E.nb.1) fun U B2 bd e h _=>?_
 rw [E.keys] at e
 refine Own.sz h 2 rfl (ndV (xl.1,U,xl.2.2.1,xl.2.2.2)) fun bf h _=>?_
 refine Own.ld h 2 rfl xl.2.2.1 rfl ?_
 refine Own.ld h 1 rfl xr.2.2.1 rfl ?_
 have e:=e.now h
 refine e.appAllV h (by dsimp only; omega) (R e).rv (R e).ev (by rw [E.vals]; exact E.nb.2.1) fun ad B3 bg e h _=>?_
 rw [E.vals] at e
 refine Own.sz h 2 rfl (ndV (xl.1,U,ad,xl.2.2.2)) fun bh h _=>?_
 refine Own.ld h 2 rfl xl.2.2.2 rfl ?_
 refine Own.ld h 1 rfl xr.2.2.2 rfl ?_
 have e:=e.now h
 refine e.appAllI h (by dsimp only; omega) (R e).ri E.nb.2.2 fun af B4 bi e h _=>?_
 refine Own.sz h 2 rfl (ndV (xl.1,U,ad,af)) fun bj h _=>?_
 have h:=Own.drew h
 have e:=e.now h
 have h:=qam h (.refl _)
 refine Own.ldA h 4 rfl (wkX k v pb t) rfl ?_
 refine Own.ld h 3 rfl x.2.2.2 rfl ?_
 refine Rds.get (nw e).ri i rfl (x:=n.kids[i]) (zA ac) (y:=n.kids[i]) rfl ?_
 refine Own.ldA h 2 rfl (xl.1,U,ad,af) rfl ?_
 have hJ:({ leaf:=nl.leaf,keys:=(if nl.leaf then nl.keys else nl.keys++[n.keys.getD i []])++nr.keys,vals:=nl.vals++nr.vals,kids:=nl.kids++nr.kids }:NodeM)=joinN nl nr (n.keys.getD i []):=rfl
 have aB:n.kids.getD i 0=n.kids[i]:=qc5 ac
 have an:n.kids.getD (i+1) 0=n.kids[i+1]:=qc5 ae
 unfold joinM at O
 rw [aB,an,<- hJ] at O
 have aC:=e.nodeR.weak (fun b u=>.inl (qub b u))
 have e:=e.other hn dn aa (fun b u=>by simp [u]) (by simp) quA (Y1:=Y) qut d5 hn.lt
 refine qbj e.tw aC (by dsimp only; rw [zF]; omega) (by dsimp only; rw [zF]; omega) (by dsimp only; rw [zF]; omega) fun F1 bm ao aD aE=>?_
 obtain ⟨e,h⟩:=e.next h ao aD aE
 generalize aF:storeN k v M n.kids[i] { leaf:=nl.leaf,keys:=(if nl.leaf then nl.keys else nl.keys++[n.keys.getD i []])++nr.keys,vals:=nl.vals++nr.vals,kids:=nl.kids++nr.kids }=st at O e ⊢
 have hu:U32 st.1.1:=by rw [<- aF]; exact qbk hT.wf (hn.2.1.2.2 _ (zW ac))
 obtain ⟨⟨bn,J⟩,M1⟩:=st
 dsimp only at O e hu ⊢
 refine qag (fun er w'=>∃ F2,er=(if J=0 then (dropV M1 n.kids[i+1]).1 else J)/\Own [r9,r7,r5,r3,r1] w' w' [(r9,.cells (ndV zeroX) ND (0,0)),(r7,.cells (ndV xr) ND (0,0)),(r5,.cells (ndV (xl.1,U,ad,af)) ND (0,0)),(r3,.cells (ndV x) ND (0,0)),(r1,.cells (wkV (wkX k v pb t)) WK (0,0))]/\
  Ed dbk pb FD D j (Bn++(Bl++F)) Bn w0 w' [r9,r7,r5,r3,r1] Y F2 (if J=0 then (dropV M1 n.kids[i+1]).2 else M1) x n Bn) ?_ ?_
 ·refine qaa (fun C=>?_) (fun C=>?_)
  ·have C:J=0:=yO.1 C
   rw [if_pos C,if_pos C]
   have h:=Own.drew h
   refine Own.ld h 4 rfl (pW pb) rfl ?_
   refine Own.ld h 3 rfl x.2.2.2 rfl ?_
   have e:=e.now h
   have ew:IntKind.wrap .i64 ((i:Int)+1)=((i+1:Nat):Int):=qbs (by omega)
   refine Rds.get e.kidsR (i+1) ew (x:=n.kids[i+1]) (zA ae) (y:=n.kids[i+1]) rfl ?_
   refine TW.drop e.tw fun F2 bo ap aG aH=>?_
   obtain ⟨e,h⟩:=e.next h ap aG aH
   exact ⟨F2,rfl,h,e⟩
  ·have C:¬ J=0:=zR.1 C
   rw [if_neg C,if_neg C]
   exact ⟨F1,rfl,h,e⟩
 rintro er bp ⟨F2,rfl,h,e⟩
 have e:=e.now h
 have h:=qam h (.refl _)
 have aI:∀ {A B:(NodeM×Int)×PgM},(if J≠0 then A else B)=if J=0 then B else A:=by
  intro A B
  by_cases h:J=0
  ·rw [if_neg (fun h'=>h' h),if_pos h]
  ·rw [if_pos h,if_neg h]
 rw [aI] at O
 refine qaa (fun C=>?_) (fun C=>?_)
 ·have C:(if J=0 then (dropV M1 n.kids[i+1]).1 else J)≠0:=by
   rw [zT] at C
   exact zR.1 C
  refine Own.sz h 0 rfl (ndV zeroX) fun aq h _=>?_
  refine Own.ldA h 0 rfl zeroX rfl ?_
  have e:=e.now h
  by_cases h0:J=0
  ·rw [if_pos h0] at O C e ⊢
   rw [if_pos C] at O
   exact O zeroX [] F2 aq e.tw'.drop0 (.zero _ _) e.fr (fun _ h=>(nomatch h)) e.sg.new
  ·rw [if_neg h0] at O C e ⊢
   exact O zeroX [] F2 aq e.tw'.drop0 (.zero _ _) e.fr (fun _ h=>(nomatch h)) e.sg.new
 ·have C:(if J=0 then (dropV M1 n.kids[i+1]).1 else J)=0:=by
   rw [yD] at C
   exact yO.1 C
  by_cases h0:J=0
  ·rw [if_pos h0] at O C e
   rw [if_neg (fun h=>h C)] at O
   refine Own.ld h 3 rfl x.2.2.2 rfl ?_
   refine e.setI h (i:=i) ac rfl hu fun B1 br e h _=>?_
   have h:=Own.drew h
   refine Own.ld h 3 rfl x.2.2.2 rfl ?_
   refine Own.ld h 3 rfl x.2.1 rfl ?_
   have e:=e.now h
   have ew:IntKind.wrap .i64 ((i:Int)+1)=((i+1:Nat):Int):=qbs (by omega)
   have aJ:IntKind.wrap .i64 ((i:Int)+2)=((i+1+1:Nat):Int):=by rw [wi' _ (by omega)]; omega
   refine e.delI h (i:=i+1) (by dsimp only; rw [xF]; omega) ew aJ (by dsimp only; rw [xF]; omega) fun Q B2 bs e h _=>?_
   refine qah (h.cell 3 rfl rfl) ?_
   refine e.delK h (i:=i) hi rfl ew (by dsimp only; omega) fun V B3 bt e h _=>?_
   refine Own.sz h 3 rfl (ndV (x.1,x.2.1,x.2.2.1,Q)) fun bu h _=>?_
   refine Own.sz h 3 rfl (ndV (x.1,V,x.2.2.1,Q)) fun bv h _=>?_
   refine Own.ldA h 3 rfl (x.1,V,x.2.2.1,Q) rfl ?_
   refine Own.sz h 0 rfl (ndV (x.1,V,x.2.2.1,Q)) fun aK h _=>?_
   refine Own.ldA h 0 rfl (x.1,V,x.2.2.1,Q) rfl ?_
   have e:=e.now h
   refine O (x.1,V,x.2.2.1,Q) B3 F2 aK e.tw.drop0 (e.node.weak fun b u=>.inl (by
    simp only [Zo,zD,zG] at u ⊢
    rcases u with (u | u | u | u) | u <;> simp [u])) e.fr e.bnew e.sg.new
  ·rw [if_neg h0] at C
   exact absurd C h0
end
end
section
section
variable {D:DiskM} {M:PgM} {k v side c:Nat} {n nx ny:NodeM}
theorem qsl {e:Int} (h:loadN D M k v (n.kids.getD side 0)=(ny,e)) (u:e≠0):evenM D k v M n side c nx=((zeroN,e),M):=by
 unfold evenM; rw [h,if_pos u]
theorem qrl (h:loadN D M k v (n.kids.getD side 0)=(ny,0)) (u:¬ spareN ny k v):evenM D k v M n side c nx=joinM k v M n (if side<c then side else c) (if side<c then ny else nx) (if side<c then nx else ny):=by
 unfold evenM; rw [h,if_neg (fun h=>h rfl)]
 by_cases hsd:side<c
 ·rw [if_pos hsd,if_pos hsd,if_pos hsd,if_pos hsd,if_pos u]
 ·rw [if_neg hsd,if_neg hsd,if_neg hsd,if_neg hsd,if_pos u]
theorem qra (h:loadN D M k v (n.kids.getD side 0)=(ny,0)) (u:spareN ny k v):evenM D k v M n side c nx=bothM k v M n (if side<c then side else c) (if side<c then giveN ny nx (n.keys.getD side []) else takeN nx ny (n.keys.getD c [])):=by
 unfold evenM; rw [h,if_neg (fun h=>h rfl)]
 by_cases hsd:side<c
 ·rw [if_pos hsd,if_pos hsd,if_pos hsd,if_neg (fun h=>h u)]
 ·rw [if_neg hsd,if_neg hsd,if_neg hsd,if_neg (fun h=>h u)]
theorem qiO {n:NodeM} {k v:Nat} (h:rightV n k v):ShapeN n:=by
 obtain ⟨C,E,G,u,A⟩:=qa6 h
 exact ⟨fun h=>(u h).1,fun h=>(A h).1.symm,by omega,by omega,by omega⟩
theorem qp2 (C:CapsOk k v) (u:spareN n k v) (sn:ShapeN n):1<=n.keys.length/\(n.leaf=true->2<=n.keys.length):=by
 have E:=C.leaf
 have G:=C.inner
 unfold spareN at u
 unfold sizeN at u
 cases A:n.leaf with
 | true=>rw [A,if_pos rfl] at u; dsimp only at u; exact ⟨by omega,fun _=>by omega⟩
 | false=>
  have:=sn.inner A
  rw [A,if_neg (by decide)] at u
  dsimp only at u
  exact ⟨by omega,fun h=>nomatch h⟩
end
section
variable {dbk pb j:Nat} {FD S S0 N0 Y F F' T B Bl Br Bn Bx By:List Nat} {D:DiskM} {w0 wa w w' w7:World} {M M':PgM} {L:List (Nat×Obj)} {x xx xy:NdC} {n nx ny:NodeM} {k v:Nat} {t:Int}
theorem Ed.more (e:Ed dbk pb FD D j S0 N0 w0 w (bks L) Y F M x n B) (h:Own T wa w L) (I:TW dbk pb FD D j w7 (By++(bks L++(B++Y))) F M) (J:NodeB (Zo FD (By++(bks L++(B++Y))) F) w7 xy ny By) (f:Fr [] w w7) (C:∀ c∈By,w.heap.size<=c) :
  Ed dbk pb FD D j S0 N0 w0 w7 (bks L) (By++Y) F M x n B/\Own (bks L) w7 w7 L/\Oth FD F w7 (bks L) (B++(By++Y)) xy ny By:=by
 have A:∀ b∈Zo FD (bks L++(B++(By++Y))) F,b∈Zo FD (By++(bks L++(B++Y))) F:=fun b u=>by
  simp only [Zo,zD,zG] at u ⊢
  rcases u with (u | u | u | u | u | u) | u <;> simp [u]
 have E:∀ b∈Zo FD (bks L++(B++(By++Y))) F,b∈Zo FD (bks L++(B++Y)) F\/w.heap.size<=b:=fun b u=>by
  simp only [Zo,zD,zG] at u ⊢
  rcases u with (u | u | u | u | u | u) | u
  ·simp [u]
  ·simp [u]
  ·simp [u]
  ·simp [u]
  ·exact .inr (C b u)
  ·simp [u]
  ·simp [u]
 refine ⟨⟨⟨e.sg.tot.trans' f (fun _ h=>nomatch h),e.sg.new,e.sg.own⟩,I.weakY fun b u=>?_,e.node.frame f (fun _ _ h=>nomatch h) (fun _ h=>nomatch h) E,e.sep,e.bnew,e.nsub,fun b u A=>?_⟩,qaK h f (fun _ _ h=>nomatch h),J.weak fun b u=>.inl (A b u),fun b u A=>?_⟩
 ·simp only [zD] at u ⊢
  rcases u with u | u | u | u <;> simp [u]
 ·rcases zD.1 A with G | G
  ·have:=e.node.lt b u; have:=C b G; omega
  ·exact e.ysep b u G
 ·have:=qhW h b u; have:=C b A; omega
theorem Oth.more (o:Oth FD F w (bks L) (B++Y) x n Bx) (f:Fr [] w w7) (A:∀ c∈By,w.heap.size<=c):Oth FD F w7 (bks L) (B++(By++Y)) x n Bx:=
 ⟨o.node.frame f (fun _ _ h=>nomatch h) (fun _ h=>nomatch h) fun b u=>by
  simp only [Zo,zD,zG] at u ⊢
  rcases u with (u | u | u | u | u | u) | u
  ·simp [u]
  ·simp [u]
  ·simp [u]
  ·simp [u]
  ·exact .inr (A b u)
  ·simp [u]
  ·simp [u],o.sep⟩
theorem Oth.frame0 {R:List Nat} (o:Oth FD F w T R x n B) (f:Fr [] w w'):Oth FD F w' T R x n B:=⟨o.node.frame0 f,o.sep⟩
theorem qrd {nl nr:NodeM} {key:Key} (h:∀ a∈nl.keys,IsB a) (sl:ShapeN nl) (u:ShapeN nr):IsB (giveN nl nr key).2.2/\(giveN nl nr key).1.keys.length<=9000/\(giveN nl nr key).1.vals.length<=9000/\(giveN nl nr key).1.kids.length<=9000/\(giveN nl nr key).2.1.keys.length<=9000/\(giveN nl nr key).2.1.vals.length<=9000/\(giveN nl nr key).2.1.kids.length<=9000:=by
 obtain ⟨_,_,A,C,E⟩:=sl
 obtain ⟨_,_,G,I,J⟩:=u
 unfold giveN
 split
 ·refine ⟨qa2 h _,?_⟩
  simp only [yK,yH]
  omega
 ·refine ⟨qa2 h _,?_⟩
  simp only [yK,yH]
  omega
theorem qqP {nl nr:NodeM} {key:Key} (h:∀ a∈nr.keys,IsB a) (sl:ShapeN nl) (u:ShapeN nr):IsB (takeN nl nr key).2.2/\(takeN nl nr key).1.keys.length<=9000/\(takeN nl nr key).1.vals.length<=9000/\(takeN nl nr key).1.kids.length<=9000/\(takeN nl nr key).2.1.keys.length<=9000/\(takeN nl nr key).2.1.vals.length<=9000/\(takeN nl nr key).2.1.kids.length<=9000:=by
 obtain ⟨_,_,C,E,G⟩:=sl
 obtain ⟨_,_,I,J,K⟩:=u
 unfold takeN
 split
 ·refine ⟨qa2 (fun a A=>h a (yT A)) _,?_⟩
  simp only [zF,yB,yH,xJ]
  omega
 ·refine ⟨qa2 h _,?_⟩
  simp only [zF,yB,yH,xJ]
  omega
theorem qbw {Y':List Nat} (h:∀ b∈Y',b∈Y):∀ b∈Zo FD Y' F,b∈Zo FD Y F:=fun b u=>by
 simp only [Zo,zD,zG] at u ⊢
 rcases u with (u | u | u) | u
 ·simp [u]
 ·simp [u]
 ·simp [h b u]
 ·simp [u]
theorem Ed.nextS {Y1:List Nat} (e:Ed dbk pb FD D j S0 N0 w0 w (bks L) Y F M x n B) (h:Own T wa w L) (J:TW dbk pb FD D j w' (bks L++(B++Y1)) F M) (f:Fr S w w') (E:∀ b∈S,b∈S0\/w0.heap.size<=b) (A:∀ b∈S,b∉B/\b∉bks L) (G:∀ b∈S,b∈Zo FD (bks L++(B++Y)) F) (I:∀ b∈Y1,b∈Y) :
  Ed dbk pb FD D j S0 N0 w0 w' (bks L) Y1 F M x n B/\Own (bks L) w' w' L:=
 ⟨⟨⟨e.sg.tot.trans' f E,e.sg.new,e.sg.own⟩,J,e.node.frame f (fun b u C=>(A b C).1 u) (fun b u=>.inl (G b u)) fun b u=>.inl (by
  simp only [Zo,zD,zG] at u ⊢
  rcases u with (u | u | u | u | u) | u
  ·simp [u]
  ·simp [u]
  ·simp [u]
  ·simp [u]
  ·simp [I b u]
  ·simp [u]),e.sep,e.bnew,e.nsub,fun b u C=>e.ysep b u (I b C)⟩,qaK h f fun b u C=>(A b C).2 u⟩
set_option maxHeartbeats 4000000 in
theorem qso {side c:Nat} {K:NdC×Int->WP} (hT:TW dbk pb FD D j w0 (Bn++(Bx++Y)) F M) (hn:NodeB (Zo FD (Bn++(Bx++Y)) F) w0 x n Bn) (hx:NodeB (Zo FD (Bn++(Bx++Y)) F) w0 xx nx Bx)
  (d1:∀ b∈Bn,b∉Bx) (d2:∀ b∈Bn,b∉Y) (d3:∀ b∈Bx,b∉Y) (sn:ShapeN n) (sx:ShapeN nx) (a0:n.leaf=false) (cn:side+1=c\/c+1=side) (hs:side<n.kids.length) (co:c<n.kids.length)
  (bE:∀ ny,loadN D M k v (n.kids.getD side 0)=(ny,0)->ny.leaf=nx.leaf) (a3:CapsOk k v)
  (kk:∀ yn B' F' w',TW dbk pb FD D j w' (B'++Y) F' (evenM D k v M n side c nx).2->NodeB (Zo FD (B'++Y) F') w' yn (evenM D k v M n side c nx).1.1 B'->Fr (Bn++(Bx++F)) w0 w'->(∀ b∈B',b∈Bn\/w0.heap.size<=b)->(∀ b∈F',b∈Bn++(Bx++F)\/w0.heap.size<=b)->K (yn,(evenM D k v M n side c nx).1.2) w') :
  cW 143 [.agg (wkV (wkX k v pb t)),.agg (ndV x),.i side,.i c,.agg (ndV xx)] [.agg qac,.one .i] w0 K:=by
 refine qiw ?_
 unfold qeO qb8 qb6
 have ei:(if (c:Int)<(side:Int) then (c:Int) else (side:Int))=(((if side<c then side else c):Nat):Int):=by
  by_cases h1:c<side
  ·rw [if_pos (by omega),if_neg (by omega)]
  ·rw [if_neg (by omega),if_pos (by omega)]
 have al:(if side<c then side else c)+1<n.kids.length:=by split <;> omega
 rw [ei]
 generalize az:(if side<c then side else c)=i at al ⊢
 have il:=sn.inner a0
 have s1:=sn.keys
 have s3:=sn.kids
 have aA:i<n.keys.length:=by omega
 have ew:IntKind.wrap .i64 ((i:Int)+1)=((i+1:Nat):Int):=qbs (by omega)
 rw [ew]
 have e0:Ed dbk pb FD D j (Bn++(Bx++F)) Bn w0 w0 [] (Bx++Y) F M x n Bn:=⟨⟨.refl _ _,fun b u=>.inl (by simp [u]),fun _ h=>nomatch h⟩,hT,hn,fun _ h=>(nomatch h),fun b u=>.inl u,fun b u=>by simp [u],fun b u G=>(zD.1 G).elim (d1 b u) (d2 b u)⟩
 have o0:Oth FD F w0 [] (Bn++(Bx++Y)) xx nx Bx:=⟨hx,fun _ h=>nomatch h⟩
 rcases ai:loadN D M k v (n.kids.getD side 0) with ⟨ny,ey⟩
 have bG:n.kids.getD side 0=n.kids[side]:=qc5 hs
 have aI:loadN D M k v n.kids[side]=(ny,ey):=by rw [<- bG]; exact ai
 have a4:=hx.lt
 have a5:∀ b∈Y,b<w0.heap.size:=fun b u=>hT.ylt b (by simp [u])
 have a6:U32 n.kids[side]:=hn.2.1.2.2 _ (zW hs)
 have h:=Own.start [] w0
 refine Own.new' h fun I w2 _ _ h=>?_
 refine Own.new' h fun J w4 _ _ h=>?_
 refine Own.new' h fun O w6 _ _ h=>?_
 refine Own.new' h fun Q w8 _ _ h=>?_
 have h:=Own.drew h
 refine ⟨?a,?b⟩
 case' a=>
  have e:=e0.now h
  have o:=o0.now h
  refine Own.ldA h 3 rfl (wkX k v pb t) rfl ?_
  refine Own.ld h 2 rfl x.2.2.2 rfl ?_
  refine Rds.getU e.kidsR side rfl hs fun bH hh=>?_
  have aN:=e.fr.size
  refine qeZ (k:=k) (v:=v) e.tw a6 fun xy By bJ am U an V=>?_
  rw [aI] at U ⊢
  dsimp only at U
  obtain ⟨e,h,oy⟩:=e.more h am U an V
  have ox:=o.more (By:=By) an V
  refine Own.new' h fun A bK _ _ h=>?_
  refine qan (hh _ _ (e.now h).kidsR) (h.cell 3 rfl rfl) (h.cells 4 rfl rfl) ?_
  refine Own.sz h 0 rfl (ndV xy) fun bL h _=>?_
  have oy:=oy.now h
  have ox:=ox.now h
  have e:=e.now h
  have h:=qam h (.refl _)
  have aB:∀ b∈By,w0.heap.size<=b:=fun b u=>zL aN (V b u)
 case' b=>
  have e:=e0.now h
  have o:=o0.now h
  have h:=qam h (.refl _)
  refine Own.ldA h 3 rfl (wkX k v pb t) rfl ?_
  refine Own.ld h 2 rfl x.2.2.2 rfl ?_
  refine Rds.getU e.kidsR side rfl hs fun bH hh=>?_
  refine Own.new' h fun A bK _ _ h=>?_
  have e:=e.now h
  have o:=o.now h
  refine qan (hh _ _ e.kidsR) (h.cell 3 rfl rfl) (h.cells 4 rfl rfl) ?_
  have aN:=e.fr.size
  refine qeZ (k:=k) (v:=v) e.tw a6 fun xy By bJ am U an V=>?_
  rw [aI] at U ⊢
  dsimp only at U
  obtain ⟨e,h,oy⟩:=e.more h am U an V
  have ox:=o.more (By:=By) an V
  refine Own.sz h 0 rfl (ndV xy) fun bL h _=>?_
  have oy:=oy.now h
  have ox:=ox.now h
  have e:=e.now h
  have h:=qam h (.refl _)
  have aB:∀ b∈By,w0.heap.size<=b:=fun b u=>zL aN (V b u)
 all_goals
  refine qaa (fun hc=>?_) (fun hc=>?_)
  ·have ao:ey≠0:=by
    rw [zT] at hc
    exact zR.1 hc
   rw [qsl ai ao] at kk
   refine Own.sz h 1 rfl (ndV zeroX) fun bM h _=>?_
   refine Own.ldA h 1 rfl zeroX rfl ?_
   have e:=e.now h
   exact kk zeroX [] F bM (e.tw'.weakY fun b u=>by simp at u ⊢; simp [u]) (.zero _ _) e.fr (fun _ h=>(nomatch h)) e.sg.new
  have bN:ey=0:=by
   rw [yD] at hc
   exact yO.1 hc
  subst bN
  have bO:=qcK ai
  have sy:=qiO bO
  have aJ:=bE ny ai
  have aO:∀ b∈By,b∉Bx:=fun b u G=>by have:=aB b u; have:=a4 b G; omega
  have a8:∀ b∈By,b∉Y:=fun b u G=>by have:=aB b u; have:=a5 b G; omega
  refine ⟨?_,?_⟩
  have h:=Own.drew h
  refine Own.ldA h 2 rfl xx rfl ?_
  refine Own.ldA h 0 rfl xy rfl ?_
  refine Own.new' h fun C bP _ _ h=>?_
  refine qar (h.cells 1 rfl rfl) (h.cells 3 rfl rfl) ?_
  refine Own.new' h fun E bQ _ _ h=>?_
  refine qar (h.cells 2 rfl rfl) (h.cells 4 rfl rfl) ?_
  refine Own.sz h 1 rfl (ndV xx) fun bR h _=>?_
  refine qah (h.cells 2 rfl rfl) ?_
  refine Own.sz h 0 rfl (ndV xy) fun bS h _=>?_
  rotate_left
  have h:=Own.drew h
  refine Own.ldA h 2 rfl xx rfl ?_
  refine Own.ldA h 0 rfl xy rfl ?_
  refine Own.new' h fun E bP _ _ h=>?_
  refine qar (h.cells 1 rfl rfl) (h.cells 3 rfl rfl) ?_
  refine Own.new' h fun C bQ _ _ h=>?_
  refine qar (h.cells 2 rfl rfl) (h.cells 4 rfl rfl) ?_
  refine Own.sz h 0 rfl (ndV xx) fun bR h _=>?_
  refine qah (h.cells 2 rfl rfl) ?_
  refine Own.sz h 1 rfl (ndV xy) fun bS h _=>?_
  have h:=qf7 h (List.Perm.swap _ _ _)
  all_goals
   obtain ⟨xl,nl,Bl,xr,nr,Br,hP⟩:∃ xl nl Bl xr nr Br,(side<c/\xl=xy/\nl=ny/\Bl=By/\xr=xx/\nr=nx/\Br=Bx)\/(¬ side<c/\xl=xx/\nl=nx/\Bl=Bx/\xr=xy/\nr=ny/\Br=By):=by
    by_cases R:side<c
    ·exact ⟨_,_,_,_,_,_,.inl ⟨R,rfl,rfl,rfl,rfl,rfl,rfl⟩⟩
    ·exact ⟨_,_,_,_,_,_,.inr ⟨R,rfl,rfl,rfl,rfl,rfl,rfl⟩⟩
   refine qag (fun _ w'=>Own [E,C,A,Q,O,J,I] w' w' [(E,.cells (ndV xr) ND (0,0)),(C,.cells (ndV xl) ND (0,0)),(A,.cells (ndV xy) ND (0,0)),(Q,.cells (ndV zeroX) ND (0,0)),(O,.cells (ndV xx) ND (0,0)),(J,.cells (ndV x) ND (0,0)),(I,.cells (wkV (wkX k v pb t)) WK (0,0))]/\
    Ed dbk pb FD D j (Bn++(Bx++F)) Bn w0 w' [E,C,A,Q,O,J,I] (By++(Bx++Y)) F M x n Bn/\Oth FD F w' [E,C,A,Q,O,J,I] (Bn++(By++(Bx++Y))) xx nx Bx/\Oth FD F w' [E,C,A,Q,O,J,I] (Bn++(By++(Bx++Y))) xy ny By) ?_ ?_
   ·refine qaa (fun hc=>?_) (fun hc=>?_)
    ·have R:side<c:=by have:=zC hc; omega
     rcases hP with ⟨_,rfl,rfl,rfl,rfl,rfl,rfl⟩ | ⟨hn,_⟩
     ·have h:=Own.drew h
      refine Own.ldA h 2 rfl xl rfl ?_
      refine Own.ldA h 4 rfl xr rfl ?_
      refine Own.sz h 1 rfl (ndV xl) fun cr h _=>?_
      refine qah (h.cells 4 rfl rfl) ?_
      refine Own.sz h 0 rfl (ndV xr) fun cs h _=>?_
      exact ⟨qam h (.refl _),e.now h,ox.now h,oy.now h⟩
     ·exact absurd R hn
    ·have R:¬ side<c:=by have:=zB hc; omega
     rcases hP with ⟨hn,_⟩ | ⟨_,rfl,rfl,rfl,rfl,rfl,rfl⟩
     ·exact absurd hn R
     ·exact ⟨qam h (.refl _),e.now h,ox.now h,oy.now h⟩
   rintro _ ct ⟨h,e,ox,oy⟩
   refine Own.ldA h 6 rfl (shX k v) rfl ?_
   refine Own.ldA h 2 rfl xy rfl ?_
   have ly:NodeL xy ny:=(oy.node.rd (S:=[]) (fun _ _ h=>(nomatch h)) fun _ h=>nomatch h).lens
   refine qsd ly fun aj bT=>?_
   have h:=h.frame0 bT
   have e:=e.now h
   have ox:=ox.now h
   have oy:=oy.now h
   have h:=qam h (.refl _)
   refine qaa (fun hc=>?_) (fun hc=>?_)
   ·have aD:¬ spareN ny k v:=by
     rw [zT] at hc
     exact zB hc
    rw [qrl ai aD] at kk
    have hj:(if side<c then ny else nx)=nl/\(if side<c then nx else ny)=nr:=by
     rcases hP with ⟨h1,_,h2,_,_,h3,_⟩ | ⟨h1,_,h2,_,_,h3,_⟩
     ·rw [if_pos h1,if_pos h1,h2,h3]; exact ⟨rfl,rfl⟩
     ·rw [if_neg h1,if_neg h1,h2,h3]; exact ⟨rfl,rfl⟩
    rw [az,hj.1,hj.2] at kk
    have e:=e.sub (T1:=[E,C,A,Q,O,J,I]) fun b u=>u
    have aP:Oth FD F aj [E,C,A,Q,O,J,I] (Bn++(By++(Bx++Y))) xl nl Bl:=by
     rcases hP with ⟨_,rfl,rfl,rfl,_⟩ | ⟨_,rfl,rfl,rfl,_⟩ <;> assumption
    have bW:Oth FD F aj [E,C,A,Q,O,J,I] (Bn++(By++(Bx++Y))) xr nr Br:=by
     rcases hP with ⟨_,_,_,_,rfl,rfl,rfl⟩ | ⟨_,_,_,_,rfl,rfl,rfl⟩ <;> assumption
    have a9:ShapeN nl/\ShapeN nr:=by
     rcases hP with ⟨_,_,rfl,_,_,rfl,_⟩ | ⟨_,_,rfl,_,_,rfl,_⟩ <;> exact ⟨by assumption,by assumption⟩
    have bX:(∀ b∈Bl,b∈By\/b∈Bx)/\(∀ b∈Br,b∈By\/b∈Bx)/\∀ b∈Bl,b∉Br:=by
     rcases hP with ⟨_,_,_,rfl,_,_,rfl⟩ | ⟨_,_,_,rfl,_,_,rfl⟩
     ·exact ⟨fun b u=>.inl u,fun b u=>.inr u,aO⟩
     ·exact ⟨fun b u=>.inr u,fun b u=>.inl u,fun b u G=>aO b G u⟩
    obtain ⟨aE,a',bY⟩:=bX
    have aQ:∀ b,b∈By\/b∈Bx->b∉Bn/\b∉Y:=fun b u=>by
     rcases u with u | u
     ·exact ⟨fun G=>e.ysep b G (by simp [u]),a8 b u⟩
     ·exact ⟨fun G=>e.ysep b G (by simp [u]),d3 b u⟩
    have ap:∀ b∈Bl++(Bn++(Br++([E,C,A,Q,O,J,I]++Y))),b∈[E,C,A,Q,O,J,I]++(Bn++(By++(Bx++Y))):=fun b u=>by
     have a1:=aE b
     have a2:=a' b
     rw [zD,zD,zD,zD] at u ⊢
     rcases u with u | u | u | u | u
     ·rcases a1 u with h | h <;> simp [h]
     ·simp [u]
     ·rcases a2 u with h | h <;> simp [h]
     ·simp [u]
     ·simp [u]
    have hZ:∀ b∈Zo FD (Bl++(Bn++(Br++([E,C,A,Q,O,J,I]++Y)))) F,b∈Zo FD ([E,C,A,Q,O,J,I]++(Bn++(By++(Bx++Y)))) F:=qbw ap
    refine Own.ldA h 6 rfl (wkX k v pb t) rfl ?_
    refine Own.ldA h 5 rfl x rfl ?_
    refine Own.ldA h 1 rfl xl rfl ?_
    refine Own.ldA h 0 rfl xr rfl ?_
    refine qsz (Y:=[E,C,A,Q,O,J,I]++Y) (e.tw.weakY ap) (aP.node.weak fun b u=>.inl (hZ b u)) (e.node.weak fun b u=>.inl (hZ b u)) (bW.node.weak fun b u=>.inl (hZ b u)) (fun b u=>(aQ b (aE b u)).1) bY (fun b u G=>(zD.1 G).elim (fun G=>aP.sep b G u) (aQ b (aE b u)).2) (fun b u G=>(aQ b (a' b G)).1 u) (fun b u G=>(zD.1 G).elim (fun G=>e.sep b G u) (d2 b u)) a9.1 a9.2 sn aA a0 fun yn B' F' b1 ba bb bc nB nF=>?_
    have b2:∀ b∈[E,C,A,Q,O,J,I],b<aj.heap.size:=fun b u=>e.tw.ylt b (zH _ u)
    have hS:∀ b∈Bn++(Bl++F),b∈Bn++(Bx++F)\/w0.heap.size<=b:=fun b u=>by
     rcases zD.1 u with u | u
     ·exact .inl (by simp [u])
     ·rcases zD.1 u with u | u
      ·rcases aE b u with h1 | h1
       ·exact .inr (aB b h1)
       ·exact .inl (by simp [h1])
      ·exact .inl (by simp [u])
    have h:=qaK h bc fun b u G=>by
     rcases zD.1 G with G | G
     ·exact e.sep b u G
     ·rcases zD.1 G with G | G
      ·exact aP.sep b u G
      ·exact e.tw.yf b (zH _ u) G
    refine Own.sz h 3 rfl (ndV yn) fun b3 h _=>?_
    refine Own.ldA h 3 rfl yn rfl ?_
    have bd:∀ b∈[E,C,A,Q,O,J,I]++(B'++Y),b∈B'++([E,C,A,Q,O,J,I]++Y):=fun b u=>by
     rw [zD,zD] at u ⊢
     rcases u with u | u | u <;> simp [u]
    have o:Oth FD F' b1 [E,C,A,Q,O,J,I] (B'++Y) yn _ B':=⟨bb.weak fun b u=>.inl (qbw bd b u),fun b u G=>(nB b G).elim (e.sep b u) fun h1=>by have:=b2 b u; omega⟩
    have b4:=ba.weakY bd
    exact kk yn B' F' b3 (TW.now (T:=[E,C,A,Q,O,J,I]) b4 h).drop0 ((o.now h).node.weak fun b u=>.inl (qdQ b u)) ((e.fr.trans' bc hS).trans' h.fr e.sg.own) (fun b u=>(nB b u).imp id fun h1=>zL e.fr.size h1) fun b u=>(nF b u).elim (hS b) fun h1=>.inr (zL e.fr.size h1)
   ·have aD:spareN ny k v:=by
     rw [yD] at hc
     exact zC hc
    rw [qra ai aD,az] at kk
    obtain ⟨y1,y2⟩:=qp2 a3 aD sy
    have e:=e.sub (T1:=[E,C,A,Q,O,J,I]) fun b u=>u
    have ox:Oth FD F aj [E,C,A,Q,O,J,I] (Bn++(By++(Bx++Y))) xx nx Bx:=ox
    have oy:Oth FD F aj [E,C,A,Q,O,J,I] (Bn++(By++(Bx++Y))) xy ny By:=oy
    have bf:∀ b∈Bx++(By++([E,C,A,Q,O,J,I]++(Bn++Y))),b∈[E,C,A,Q,O,J,I]++(Bn++(By++(Bx++Y))):=fun b u=>by
     rw [zD,zD,zD,zD] at u ⊢
     rcases u with u | u | u | u | u <;> simp [u]
    have aR:∀ b∈Zo FD (Bx++(By++([E,C,A,Q,O,J,I]++(Bn++Y)))) F,b∈Zo FD ([E,C,A,Q,O,J,I]++(Bn++(By++(Bx++Y)))) F:=qbw bf
    have bg:∀ b∈Bx,b∉By:=fun b u G=>aO b G u
    have aK:∀ b∈Bx,b∉[E,C,A,Q,O,J,I]++(Bn++Y):=fun b u G=>by
     rcases zD.1 G with G | G
     ·exact ox.sep b G u
     ·rcases zD.1 G with G | G
      ·exact d1 b G u
      ·exact d3 b u G
    have aL:∀ b∈By,b∉[E,C,A,Q,O,J,I]++(Bn++Y):=fun b u G=>by
     rcases zD.1 G with G | G
     ·exact oy.sep b G u
     ·rcases zD.1 G with G | G
      ·exact e.ysep b G (by simp [u])
      ·exact a8 b u G
    obtain ⟨nk,nv,on⟩:=e.node.opn (S0:=[]) fun _ _ h=>nomatch h
    have aq:i<nk.length:=by rw [on.klen]; exact aA
    have bh:IsB nk[i].2:=by rw [<- on.keyAt aq]; exact qa2 on.nb.1 _
    have bi:=(on.ek _ (zW aq)).frame (.refl _ _) fun b u=>.inl (aR b u)
    have bj:n.keys.getD i []=nk[i].2:=on.keyAt aq
    have bk:=e.tw.weakY bf
    have bl:=ox.node.weak fun b u=>.inl (aR b u)
    have aG:=oy.node.weak fun b u=>.inl (aR b u)
    refine qag (fun _ w'=>∃ yl yr r B',Own [E,C,A,Q,O,J,I] w' w' [(E,.cells (ndV yr) ND (0,0)),(C,.cells (ndV yl) ND (0,0)),(A,.cells (ndV xy) ND (0,0)),(Q,.cells (ndV zeroX) ND (0,0)),(O,.cells (ndV xx) ND (0,0)),(J,.cells (ndV x) ND (0,0)),(I,.cells (wkV (wkX k v pb t)) WK (0,0))]/\
     Ed dbk pb FD D j (Bn++(Bx++F)) Bn w0 w' [E,C,A,Q,O,J,I] Y F M x { n with keys:=n.keys.set i r.2.2 } B'/\NodeR (Zo FD ([E,C,A,Q,O,J,I]++(B'++Y)) F) w' yl r.1/\NodeR (Zo FD ([E,C,A,Q,O,J,I]++(B'++Y)) F) w' yr r.2.1/\
     (if side<c then giveN ny nx (n.keys.getD side []) else takeN nx ny (n.keys.getD c []))=r/\r.1.keys.length<=9000/\r.1.vals.length<=9000/\r.1.kids.length<=9000/\r.2.1.keys.length<=9000/\r.2.1.vals.length<=9000/\r.2.1.kids.length<=9000) ?_ ?_
    ·have bm:∀ b∈Bx++F,b∈Bn++(Bx++F)\/w0.heap.size<=b:=fun b u=>.inl (zI _ u)
     have bn:∀ b∈Bx++F,b∉Bn/\b∉[E,C,A,Q,O,J,I]:=fun b u=>by
      rcases zD.1 u with u | u
      ·exact ⟨fun G=>d1 b G u,fun G=>ox.sep b G u⟩
      ·exact ⟨fun G=>e.tw.yf b (by simp [G]) u,fun G=>e.tw.yf b (zH _ G) u⟩
     have bo:∀ b∈Bx++F,b∈Zo FD ([E,C,A,Q,O,J,I]++(Bn++(By++(Bx++Y)))) F:=fun b u=>by
      rcases zD.1 u with u | u <;> simp [u]
     have fd:=(Fr.refl [] aj).drew
     refine qaa (fun aT=>?_) (fun aT=>?_)
     ·have R:side<c:=by have:=zC aT; omega
      have aU:side=i:=by rw [<- az,if_pos R]
      rcases hP with ⟨_,rfl,rfl,rfl,rfl,rfl,rfl⟩ | ⟨hn,_⟩
      ·have h:=Own.drew h
       have e:=e.now h
       have h:=qam h (.refl _)
       refine Own.ld h 5 rfl x.2.1 rfl ?_
       refine Own.ldA h 1 rfl xl rfl ?_
       refine Own.ldA h 0 rfl xr rfl ?_
       refine Own.ld h 5 rfl x.2.1 rfl ?_
       refine Rds.get (on.rk.frame0 fd) i rfl (x:=nk[i].1) (by rw [zQ,zA aq]; rfl) (y:=nk[i].1) rfl ?_
       have gm:=qrd (key:=nk[i].2) aG.2.1.1 sy sx
       refine qsY (Y:=[E,C,A,Q,O,J,I]++(Bn++Y)) (bk.frame0 fd) (aG.frame0 fd) (bl.frame0 fd) bg aK aL (bi.frame0 fd) bh aJ y1 sy sx fun yl yr b5 b6 ar hL hR ah aV=>?_
       obtain ⟨e,h⟩:=e.nextS h ar aV bm bn bo fun b u=>by simp [u]
       refine qah (h.cell 5 rfl rfl) ?_
       refine Own.sz h 1 rfl (ndV yl) fun b7 h _=>?_
       refine qah (h.cell 5 rfl rfl) ?_
       refine Own.sz h 0 rfl (ndV yr) fun b8 h _=>?_
       refine qah (h.cell 5 rfl rfl) ?_
       have e:=e.now h
       have hL:=NodeR.now (T:=[E,C,A,Q,O,J,I]) hL h
       have hR:=NodeR.now (T:=[E,C,A,Q,O,J,I]) hR h
       have ah:=qaF (T:=[E,C,A,Q,O,J,I]) ah h
       have h:=qam h (.refl _)
       refine e.setK h (i:=i) aA rfl ah gm.1 fun B1 b9 e h kp=>?_
       exact ⟨yl,yr,_,B1,h,e,kp.node _ _ hL,kp.node _ _ hR,by rw [if_pos R,aU,bj],gm.2.1,gm.2.2.1,gm.2.2.2.1,gm.2.2.2.2.1,gm.2.2.2.2.2.1,gm.2.2.2.2.2.2⟩
      ·exact absurd R hn
     ·have R:¬ side<c:=by have:=zB aT; omega
      have aU:c=i:=by rw [<- az,if_neg R]
      rcases hP with ⟨hn,_⟩ | ⟨_,rfl,rfl,rfl,rfl,rfl,rfl⟩
      ·exact absurd hn R
      ·have h:=Own.drew h
       have e:=e.now h
       have h:=qam h (.refl _)
       refine Own.ld h 5 rfl x.2.1 rfl ?_
       refine Own.ldA h 1 rfl xl rfl ?_
       refine Own.ldA h 0 rfl xr rfl ?_
       refine Own.ld h 5 rfl x.2.1 rfl ?_
       refine Rds.get (on.rk.frame0 fd) i rfl (x:=nk[i].1) (by rw [zQ,zA aq]; rfl) (y:=nk[i].1) rfl ?_
       have gm:=qqP (key:=nk[i].2) aG.2.1.1 sx sy
       refine qr8 (Y:=[E,C,A,Q,O,J,I]++(Bn++Y)) (bk.frame0 fd) (bl.frame0 fd) (aG.frame0 fd) bg aK aL (bi.frame0 fd) bh aJ.symm y1 y2 sx sy fun yl yr b5 b6 ar hL hR ah aV=>?_
       obtain ⟨e,h⟩:=e.nextS h ar aV bm bn bo fun b u=>by simp [u]
       refine qah (h.cell 5 rfl rfl) ?_
       refine Own.sz h 1 rfl (ndV yl) fun b7 h _=>?_
       refine qah (h.cell 5 rfl rfl) ?_
       refine Own.sz h 0 rfl (ndV yr) fun b8 h _=>?_
       refine qah (h.cell 5 rfl rfl) ?_
       have e:=e.now h
       have hL:=NodeR.now (T:=[E,C,A,Q,O,J,I]) hL h
       have hR:=NodeR.now (T:=[E,C,A,Q,O,J,I]) hR h
       have ah:=qaF (T:=[E,C,A,Q,O,J,I]) ah h
       have h:=qam h (.refl _)
       refine e.setK h (i:=i) aA rfl ah gm.1 fun B1 b9 e h kp=>?_
       exact ⟨yl,yr,_,B1,h,e,kp.node _ _ hL,kp.node _ _ hR,by rw [if_neg R,aU,bj],gm.2.1,gm.2.2.1,gm.2.2.2.1,gm.2.2.2.2.1,gm.2.2.2.2.2.1,gm.2.2.2.2.2.2⟩
    ·rintro _ cx ⟨yl,yr,r,B',h,e,hL,hR,hr,q1,q2,q3,q4,q5,q6⟩
     have aH:i<n.kids.length:=by omega
     rw [hr] at kk
     unfold bothM at kk
     rw [qc5 aH,qc5 al] at kk
     have h:=Own.drew h
     have e:=e.now h
     have hL:=NodeR.now (T:=[E,C,A,Q,O,J,I]) hL h
     have hR:=NodeR.now (T:=[E,C,A,Q,O,J,I]) hR h
     have h:=qam h (.refl _)
     refine Own.ld h 5 rfl x.2.2.2 rfl ?_
     refine Own.ldA h 6 rfl (wkX k v pb t) rfl ?_
     refine Own.ld h 5 rfl x.2.2.2 rfl ?_
     refine Rds.get e.kidsR i rfl (x:=n.kids[i]) (zA aH) (y:=n.kids[i]) rfl ?_
     refine Own.ldA h 1 rfl yl rfl ?_
     refine qbj e.tw hL (by omega) (by omega) (by omega) fun F1 cA bp bq br=>?_
     obtain ⟨e,h⟩:=e.next h bp bq br
     have hR:=hR.next bq br
     have aX:U32 (storeN k v M n.kids[i] r.1).1.1:=qbk hT.wf (hn.2.1.2.2 _ (zW aH))
     generalize storeN k v M n.kids[i] r.1=b' at kk e aX ⊢
     obtain ⟨⟨a1,bs⟩,M1⟩:=b'
     dsimp only at kk e aX ⊢
     refine qah (h.cell 5 rfl rfl) ?_
     refine e.setI h (i:=i) aH rfl aX fun B1 cB e h kp=>?_
     have hR:=kp.node _ _ hR
     refine qaa (fun av=>?_) (fun av=>?_)
     ·have ao:bs≠0:=by
       rw [zT] at av
       exact zR.1 av
      rw [if_pos ao] at kk
      refine Own.sz h 3 rfl (ndV zeroX) fun bt h _=>?_
      refine Own.ldA h 3 rfl zeroX rfl ?_
      have e:=e.now h
      exact kk zeroX [] F1 bt e.tw'.drop0 (.zero _ _) e.fr (fun _ h=>(nomatch h)) e.sg.new
     ·have ao:¬ bs≠0:=by
       rw [yD] at av
       exact fun h=>h (yO.1 av)
      rw [if_neg ao] at kk
      have bu:(n.kids.set i a1)[i+1]?=some n.kids[i+1]:=by rw [List.getElem?_set_ne (by omega),zA al]
      have h:=Own.drew h
      have e:=e.now h
      have hR:=NodeR.now hR h
      have h:=qam h (.refl _)
      refine Own.ld h 5 rfl x.2.2.2 rfl ?_
      refine Own.ldA h 6 rfl (wkX k v pb t) rfl ?_
      refine Own.ld h 5 rfl x.2.2.2 rfl ?_
      refine Rds.get e.kidsR (i+1) rfl (x:=n.kids[i+1]) bu (y:=n.kids[i+1]) rfl ?_
      refine Own.ldA h 0 rfl yr rfl ?_
      refine qbj e.tw hR (by omega) (by omega) (by omega) fun F2 cl aY bv bw=>?_
      have aZ:U32 (storeN k v M1 n.kids[i+1] r.2.1).1.1:=qbk e.tw.wf (hn.2.1.2.2 _ (zW al))
      obtain ⟨e,h⟩:=e.next h aY bv bw
      generalize storeN k v M1 n.kids[i+1] r.2.1=ca at kk e aZ ⊢
      obtain ⟨⟨a2,cD⟩,M2⟩:=ca
      dsimp only at kk e aZ ⊢
      refine qah (h.cell 5 rfl rfl) ?_
      refine e.setI h (i:=i+1) (by dsimp only; rw [xF]; exact al) rfl aZ fun B2 cm e h _=>?_
      refine Own.ldA h 5 rfl x rfl ?_
      refine Own.sz h 3 rfl (ndV x) fun bx h _=>?_
      refine Own.ldA h 3 rfl x rfl ?_
      have e:=e.now h
      exact kk x B2 F2 bx e.tw.drop0 (e.node.weak fun b u=>.inl (qdQ b u)) e.fr e.bnew e.sg.new
end
end
section
section
variable {D:DiskM} {M M1:PgM} {k v f side c i:Nat} {key:Key} {p e0 e1:Int} {n nx N:NodeM}
theorem qeL {α:Type} {l:List α} {i:Nat} (h:i<l.length):(delAt l i).length+1=l.length:=by unfold delAt; rw [zF,yK,yB]; omega
theorem qiX {l r:NodeM} (sn:ShapeN n) (u:n.leaf=false) (hi:i<n.keys.length) (h:(joinM k v M n i l r).1.2=0):ShapeN (joinM k v M n i l r).1.1:=by
 have I:=sn.inner u
 obtain ⟨_,_,J,E,K⟩:=sn
 unfold joinM at h ⊢
 split
 ·rename_i A; rw [if_pos A] at h; exact absurd h A
 ·rename_i A
  rw [if_neg A] at h
  split
  ·rename_i C; rw [if_pos C] at h; exact absurd h C
  ·have G:=qeL (l:=n.kids.set i (storeN k v M (n.kids.getD i 0) (joinN l r (n.keys.getD i []))).1.1) (i:=i+1) (by rw [xF]; omega)
   have O:=qeL hi
   rw [xF] at G
   exact ⟨(fun h=>by rw [u] at h; cases h),fun _=>by dsimp only; omega,by dsimp only; omega,E,by dsimp only; omega⟩
theorem qiY {r:NodeM×NodeM×Key} (sn:ShapeN n) (u:n.leaf=false) (h:(bothM k v M n i r).1.2=0):ShapeN (bothM k v M n i r).1.1:=by
 have C:=sn.inner u
 obtain ⟨_,_,E,G,I⟩:=sn
 unfold bothM at h ⊢
 split
 ·rename_i A; rw [if_pos A] at h; exact absurd h A
 ·exact ⟨(fun h=>by rw [u] at h; cases h),fun _=>by dsimp only; rw [xF,xF,xF]; exact C,by dsimp only; rw [xF]; exact E,G,by dsimp only; rw [xF,xF]; exact I⟩
theorem qn8 (sn:ShapeN n) (u:n.leaf=false) (G:side+1=c\/c+1=side) (J:side<n.kids.length) (I:c<n.kids.length) (h:(evenM D k v M n side c nx).1.2=0):ShapeN (evenM D k v M n side c nx).1.1:=by
 have K:=sn.inner u
 unfold evenM at h ⊢
 split
 ·rename_i E; rw [if_pos E] at h; exact absurd h E
 rename_i E
 rw [if_neg E] at h
 split
 ·rename_i A
  rw [if_pos A] at h
  split
  ·rename_i C; rw [if_pos C] at h; exact qiX sn u (by omega) h
  ·rename_i C; rw [if_neg C] at h; exact qiY sn u h
 ·rename_i A
  rw [if_neg A] at h
  split
  ·rename_i C; rw [if_pos C] at h; exact qiX sn u (by omega) h
  ·rename_i C; rw [if_neg C] at h; exact qiY sn u h
def sideOf (c:Nat):Nat:=if c>0 then c-1 else c+1
theorem qsn (h:loadN D M k v p=(n,e0)) (u:e0≠0):cutN D k v key (f+1) M p=((zeroN,e0),M):=by unfold cutN; rw [h,if_pos u]
theorem qr3 (h:loadN D M k v p=(n,0)) (u:n.leaf=true) (A:n.keys[placeV n.keys key]?=some key):cutN D k v key (f+1) M p=(({ n with keys:=delAt n.keys (placeV n.keys key),vals:=delAt n.vals (placeV n.keys key) },0),M):=by
 unfold cutN; rw [h,if_neg (fun h=>h rfl),if_pos u,if_pos A]
theorem qqV (h:loadN D M k v p=(n,0)) (u:n.leaf=true) (A:¬ n.keys[placeV n.keys key]?=some key):cutN D k v key (f+1) M p=((zeroN,5),M):=by
 unfold cutN; rw [h,if_neg (fun h=>h rfl),if_pos u,if_neg A]
theorem qre (h:loadN D M k v p=(n,0)) (u:¬ n.leaf=true) (A:cutN D k v key f M (n.kids.getD (kidV n.keys key) 0)=((N,e1),M1)) (C:e1≠0):cutN D k v key (f+1) M p=((zeroN,e1),M1):=by
 unfold cutN; rw [h,if_neg (fun h=>h rfl),if_neg u]; dsimp only; rw [A,if_pos C]
theorem qrg (h:loadN D M k v p=(n,0)) (u:¬ n.leaf=true) (A:cutN D k v key f M (n.kids.getD (kidV n.keys key) 0)=((N,0),M1)) (C:¬ lowN N k v):cutN D k v key (f+1) M p =
  (({ n with kids:=n.kids.set (kidV n.keys key) (storeN k v M1 (n.kids.getD (kidV n.keys key) 0) N).1.1 },(storeN k v M1 (n.kids.getD (kidV n.keys key) 0) N).1.2),(storeN k v M1 (n.kids.getD (kidV n.keys key) 0) N).2):=by
 unfold cutN; rw [h,if_neg (fun h=>h rfl),if_neg u]; dsimp only; rw [A,if_neg (fun h=>h rfl),if_pos C]
theorem qq7 (h:loadN D M k v p=(n,0)) (u:¬ n.leaf=true) (A:cutN D k v key f M (n.kids.getD (kidV n.keys key) 0)=((N,0),M1)) (C:lowN N k v):cutN D k v key (f+1) M p=evenM D k v M1 n (sideOf (kidV n.keys key)) (kidV n.keys key) N:=by
 unfold cutN sideOf; rw [h,if_neg (fun h=>h rfl),if_neg u]; dsimp only; rw [A,if_neg (fun h=>h rfl),if_neg (fun h=>h C)]
 split <;> rfl
def cutSafe (D:DiskM) (k v:Nat) (key:Key):Nat->PgM->Int->Prop
 | 0,_,_=>False
 | f+1,M,p=>∀ n,loadN D M k v p=(n,0)->n.leaf=false->cutSafe D k v key f M (n.kids.getD (kidV n.keys key) 0)/\
  ∀ N M1,cutN D k v key f M (n.kids.getD (kidV n.keys key) 0)=((N,0),M1)->lowN N k v->∀ ny,loadN D M1 k v (n.kids.getD (sideOf (kidV n.keys key)) 0)=(ny,0)->ny.leaf=N.leaf
end
section
variable {dbk pb j:Nat} {FD S S0 N0 Y Y1 F F' T B By:List Nat} {D:DiskM} {w0 wa w w' w7:World} {M M':PgM} {L:List (Nat×Obj)} {x xy:NdC} {n ny:NodeM} {k v:Nat} {t:Int}
theorem Ed.more2 (e:Ed dbk pb FD D j S0 N0 w0 w (bks L) Y F M x n B) (h:Own T wa w L) (I:TW dbk pb FD D j w7 (By++(bks L++(B++Y))) F' M') (K:NodeB (Zo FD (By++(bks L++(B++Y))) F') w7 xy ny By) (f:Fr F w w7) (J:∀ b∈F',b∈F\/w.heap.size<=b) (G:∀ c∈By,w.heap.size<=c) :
  Ed dbk pb FD D j S0 N0 w0 w7 (bks L) (By++Y) F' M' x n B/\Own (bks L) w7 w7 L/\Oth FD F' w7 (bks L) (B++(By++Y)) xy ny By:=by
 have A:∀ b∈bks L++(B++(By++Y)),b∈By++(bks L++(B++Y)):=fun b u=>by
  simp only [zD] at u ⊢
  rcases u with u | u | u | u <;> simp [u]
 obtain ⟨e1,C⟩:=e.next h (I.weakY fun b u=>zI _ u) f J
 refine ⟨⟨e1.sg,I.weakY A,e.node.frame f (fun b u E=>e.tw.yf b (by simp [u]) E) (fun b u=>.inl (zoF u)) fun b u=>?_,e1.sep,e1.bnew,e1.nsub,fun b u E=>?_⟩,C,K.weak fun b u=>.inl (qbw A b u),fun b u E=>?_⟩
 ·simp only [Zo,zD,zG] at u ⊢
  rcases u with (u | u | u | u | u | u) | u
  ·simp [u]
  ·simp [u]
  ·simp [u]
  ·simp [u]
  ·exact .inr (G b u)
  ·simp [u]
  ·exact (J b u).imp (fun h=>.inr h) id
 ·rcases zD.1 E with C | C
  ·have:=e.node.lt b u; have:=G b C; omega
  ·exact e.ysep b u C
 ·have:=qhW h b u; have:=G b E; omega
theorem Ed.less (e:Ed dbk pb FD D j S0 N0 w0 w T Y F M x n B) (A:∀ b∈Y1,b∈Y):Ed dbk pb FD D j S0 N0 w0 w T Y1 F M x n B:=by
 have C:∀ b∈T++(B++Y1),b∈T++(B++Y):=fun b u=>by
  simp only [zD] at u ⊢
  rcases u with u | u | u
  ·simp [u]
  ·simp [u]
  ·simp [A b u]
 exact ⟨e.sg,e.tw.weakY C,e.node.weak fun b u=>.inl (qbw C b u),e.sep,e.bnew,e.nsub,fun b u h=>e.ysep b u (A b h)⟩
theorem qtN {L':List (Nat×Obj)} (C:TW dbk pb FD D j w (B++(T++Y)) F M) (E:NodeB (Zo FD (B++(T++Y)) F) w x n B) (G:∀ b∈T,b∉B) (h:Own T w w' L') :
  TW dbk pb FD D j w' (B++Y) F M/\NodeB (Zo FD (B++Y) F) w' x n B:=by
 have A:∀ b∈T++(B++Y),b∈B++(T++Y):=fun b u=>by
  rw [zD,zD] at u ⊢
  rcases u with u | u | u <;> simp [u]
 have o:Oth FD F w T (B++Y) x n B:=⟨E.weak fun b u=>.inl (qbw A b u),G⟩
 exact ⟨(TW.now (C.weakY A) h).drop0,(o.now h).node.weak fun b u=>.inl (qdQ b u)⟩
set_option maxHeartbeats 2000000 in
theorem qk7 {ks:Sl} {key:Key} (ax:IsB key) (al:CapsOk k v):∀ (f:Nat) {Y F:List Nat} {w0:World} {M:PgM} {p:Int} {K:NdC×Int->WP} (hT:TW dbk pb FD D j w0 Y F M) (hp:U32 p) (hk:RdB (Zo FD Y F) w0 ks key) (J:cutSafe D k v key f M p)
  (kk:∀ yn B' F' w',((cutN D k v key f M p).1.2=0->ShapeN (cutN D k v key f M p).1.1)->TW dbk pb FD D j w' (B'++Y) F' (cutN D k v key f M p).2->NodeB (Zo FD (B'++Y) F') w' yn (cutN D k v key f M p).1.1 B'->Fr F w0 w'->(∀ b∈B',w0.heap.size<=b)->(∀ b∈F',b∈F\/w0.heap.size<=b)->K (yn,(cutN D k v key f M p).1.2) w'),
  cW 109 [.agg (wkV (wkX k v pb t)),.u p,ks.v] [.agg qac,.one .i] w0 K
 | 0,_,_,_,_,_,_,_,_,_,J,_=>J.elim
 | f+1,Y,F,w0,M,p,K,hT,hp,hk,J,kk=>by
  refine qjP ?_
  unfold qfp
  have h:=Own.start [] w0
  have g:=Sg.start F w0
  refine Own.new' h fun r1 w2 _ _ h=>?_
  refine Own.new' h fun r3 w4 _ _ h=>?_
  refine Own.ldA h 1 rfl (wkX k v pb t) rfl ?_
  rcases O:loadN D M k v p with ⟨n,e0⟩
  refine qeZ (k:=k) (v:=v) (hT.now0 h) hp fun x B w7 bf aG f7 bg=>?_
  rw [O] at aG ⊢
  dsimp only at aG
  obtain ⟨e,h⟩:=Ed.load (N0:=[]) (fun _ h=>nomatch h) g h bf aG f7 bg fun b A=>yC (hT.ylt b A) h.fr.size
  refine Own.new' h fun r8 w9 _ _ h=>?_
  refine Own.sz h 0 rfl (ndV x) fun bO h _=>?_
  have an:∀ {e:Int} {M':PgM} {F':List Nat} {w'},cutN D k v key (f+1) M p=((zeroN,e),M')->e≠0->TW dbk pb FD D j w' Y F' M'->Fr F w0 w'->(∀ b∈F',b∈F\/w0.heap.size<=b)->K (zeroX,e) w':=fun he bh bi fr hF=>by
   have:=kk zeroX [] _ _ (fun h=>by rw [he] at h; exact absurd h bh) (by rw [he]; exact bi) (by rw [he]; exact .zero _ _) fr (fun _ h=>nomatch h) hF
   rw [he] at this
   exact this
  refine qaa (fun Q=>?_) (fun Q=>?_)
  ·have aB:e0≠0:=by
    rw [zT] at Q
    exact zR.1 Q
   refine Own.sz h 1 rfl (ndV zeroX) fun bR h _=>?_
   refine Own.ldA h 1 rfl zeroX rfl ?_
   have e:=e.now h
   exact an (qsn O aB) aB e.tw'.drop0 e.fr e.sg.new
  have bj:e0=0:=by
   rw [yD] at Q
   exact yO.1 Q
  subst bj
  have hr:=qcK O
  have sn:=qiO hr
  obtain ⟨l1,l2,l3,l4,l5⟩:=qa6 hr
  have e:=e.now h
  have h:=qam h (.refl _)
  have aR:x.1=n.leaf:=e.node.1
  refine Own.ld h 0 rfl x.1 rfl ?_
  refine qaa (fun Q=>?_) (fun Q=>?_)
  ·rw [aR] at Q
   obtain ⟨l6,l7⟩:=l4 Q
   refine Own.ldA h 0 rfl x rfl ?_
   refine qf9 e.nodeR (e.rdb hk) ax hr.2.2.1 (by omega) fun bW bk=>?_
   obtain ⟨e,h⟩:=e.next0 h bk
   have bX:=qhF n.keys key
   refine qaa (fun R=>?_) (fun R=>?_)
   ·rw [zT] at R
    have aS:=zB R
    refine Own.sz h 1 rfl (ndV zeroX) fun bY h _=>?_
    refine Own.ldA h 1 rfl zeroX rfl ?_
    have e:=e.now h
    exact an (qqV O Q aS) (by decide) e.tw'.drop0 e.fr e.sg.new
   ·rw [yD] at R
    have aT:=zC R
    have aU:=(zP.1 aT).1
    have V:=qr3 (f:=f) O Q aT
    have ew:IntKind.wrap .i64 ((placeV n.keys key:Int)+1)=((placeV n.keys key+1:Nat):Int):=qbs (by omega)
    rw [V] at kk
    have h:=Own.drew h
    refine Own.ld h 0 rfl x.2.1 rfl ?_
    refine Own.ld h 0 rfl x.2.2.1 rfl ?_
    have e:=e.now h
    dsimp only
    refine e.delK h (i:=placeV n.keys key) aU rfl ew (by omega) fun ah B1 bZ e h _=>?_
    refine qah (h.cell 0 rfl rfl) ?_
    refine e.delV h (i:=placeV n.keys key) (by dsimp only; omega) rfl ew (by dsimp only; omega) fun ao B2 b0 e h _=>?_
    refine Own.sz h 0 rfl (ndV (x.1,ah,x.2.2.1,x.2.2.2)) fun b1 h _=>?_
    refine Own.sz h 0 rfl (ndV (x.1,ah,ao,x.2.2.2)) fun b2 h _=>?_
    refine Own.ldA h 0 rfl (x.1,ah,ao,x.2.2.2) rfl ?_
    refine Own.sz h 1 rfl (ndV (x.1,ah,ao,x.2.2.2)) fun bm h _=>?_
    refine Own.ldA h 1 rfl (x.1,ah,ao,x.2.2.2) rfl ?_
    have e:=e.now h
    have k1:=qeL aU
    have k2:=qeL (l:=n.vals) (i:=placeV n.keys key) (by omega)
    exact kk (x.1,ah,ao,x.2.2.2) B2 F bm (fun _=>⟨fun _=>by dsimp only; omega,(fun h=>by dsimp only at h; rw [Q] at h; cases h),by dsimp only; omega,by dsimp only; omega,by dsimp only; omega⟩) e.tw.drop0 (e.node.weak fun b A=>.inl (qdQ b A)) e.fr (fun b A=>(e.bnew b A).elim (fun h=>nomatch h) id) e.sg.new
  ·rw [aR] at Q
   have aH:¬ n.leaf=true:=by rw [Q]; decide
   obtain ⟨l6,l7,l8⟩:=l5 Q
   obtain ⟨E,U⟩:=J n O Q
   refine Own.ldA h 0 rfl x rfl ?_
   refine qg4 e.nodeR (e.rdb hk) ax hr.2.2.1 (by omega) fun b3 bn=>?_
   obtain ⟨e,h⟩:=e.next0 h bn
   have bo:=qdL n.keys key
   have ap:=fun N e1 M1 he=>qre (key:=key) (f:=f) (N:=N) (e1:=e1) (M1:=M1) O aH he
   have R:=fun N M1 he=>qrg (key:=key) (f:=f) (N:=N) (M1:=M1) O aH he
   have aI:=fun N M1 he=>qq7 (key:=key) (f:=f) (N:=N) (M1:=M1) O aH he
   generalize b4:kidV n.keys key=c at bo E U ap R aI ⊢
   have aa:c<n.kids.length:=by omega
   have bp:n.kids.getD c 0=n.kids[c]:=qc5 aa
   rw [bp] at E U ap R aI
   have hu:U32 n.kids[c]:=e.node.2.1.2.2 _ (zW aa)
   rcases ai:cutN D k v key f M n.kids[c] with ⟨⟨N1,e1⟩,M1⟩
   have ap:=ap N1 e1 M1 ai
   refine ⟨?a,?b⟩
   case' a=>
    have h:=Own.drew h
    have e:=e.now h
    refine Own.ldA h 2 rfl (wkX k v pb t) rfl ?_
    refine Own.ld h 0 rfl x.2.2.2 rfl ?_
    refine Rds.getU e.kidsR c rfl aa fun br hh=>?_
    have hz:=e.fr.size
    refine qk7 ax al f e.tw hu (e.rdb hk) E fun xx Bx F1 bt ak ab G aJ ac aK=>?_
    rw [ai] at ak ab G ⊢
    dsimp only at ak G ⊢
    obtain ⟨e,h,ox⟩:=e.more2 h ab G aJ aK ac
    refine Own.new' h fun I bu _ _ h=>?_
    refine qan (hh _ _ (e.now h).kidsR) (h.cell 1 rfl rfl) (h.cells 3 rfl rfl) ?_
    refine Own.sz h 0 rfl (ndV xx) fun bv h _=>?_
    have aA:∀ b∈Bx,w0.heap.size<=b:=fun b A=>zL hz (ac b A)
    have ox:=ox.now h
    have e:=e.now h
    have h:=qam h (.refl _)
   case' b=>
    have h:=Own.drew h
    have e:=e.now h
    have h:=qam h (.refl _)
    refine Own.ldA h 2 rfl (wkX k v pb t) rfl ?_
    refine Own.ld h 0 rfl x.2.2.2 rfl ?_
    refine Rds.getU e.kidsR c rfl aa fun br hh=>?_
    refine Own.new' h fun I bu _ _ h=>?_
    have e:=e.now h
    refine qan (hh _ _ e.kidsR) (h.cell 1 rfl rfl) (h.cells 3 rfl rfl) ?_
    have hz:=e.fr.size
    refine qk7 ax al f e.tw hu (e.rdb hk) E fun xx Bx F1 bt ak ab G aJ ac aK=>?_
    rw [ai] at ak ab G ⊢
    dsimp only at ak G ⊢
    obtain ⟨e,h,ox⟩:=e.more2 h ab G aJ aK ac
    refine Own.sz h 0 rfl (ndV xx) fun bv h _=>?_
    have aA:∀ b∈Bx,w0.heap.size<=b:=fun b A=>zL hz (ac b A)
    have ox:=ox.now h
    have e:=e.now h
    have h:=qam h (.refl _)
   all_goals
    refine qaa (fun hq=>?_) (fun hq=>?_)
    ·have aC:e1≠0:=by
      rw [zT] at hq
      exact zR.1 hq
     refine Own.sz h 2 rfl (ndV zeroX) fun b5 h _=>?_
     refine Own.ldA h 2 rfl zeroX rfl ?_
     have e:=e.now h
     exact an (ap aC) aC (e.tw'.weakY fun b A=>by simp [A]) e.fr e.sg.new
    have bw:e1=0:=by
     rw [yD] at hq
     exact yO.1 hq
    subst bw
    have sx:=ak rfl
    refine Own.ldA h 3 rfl (shX k v) rfl ?_
    refine Own.ldA h 0 rfl xx rfl ?_
    have lx:NodeL xx N1:=(ox.node.rd (S:=[]) (fun _ _ h=>(nomatch h)) fun _ h=>nomatch h).lens
    refine qul lx fun ae aY=>?_
    obtain ⟨e,h⟩:=e.next0 h aY
    have ox:=ox.frame0 aY
    refine qaa (fun aq=>?_) (fun aq=>?_)
    ·have ag:¬ lowN N1 k v:=by
      rw [zT] at aq
      exact zB aq
     have V:=R N1 M1 ai ag
     rw [V] at kk
     have h:=Own.drew h
     have e:=e.now h
     have ox:=ox.now h
     have h:=qam h (.refl _)
     refine Own.ld h 1 rfl x.2.2.2 rfl ?_
     refine Own.ldA h 3 rfl (wkX k v pb t) rfl ?_
     refine Own.ld h 1 rfl x.2.2.2 rfl ?_
     refine Rds.get e.kidsR c rfl (x:=n.kids[c]) (zA aa) (y:=n.kids[c]) rfl ?_
     refine Own.ldA h 0 rfl xx rfl ?_
     have z1:=sx.keys
     have z2:=sx.vals
     have z3:=sx.kids
     have bx:NodeR (Zo FD (bks _++(B++Y)) F1) ae.drew xx N1:=ox.node.rd (fun b A C=>by
      have hs:=e.tw.sep b (by simp [A])
      rcases zD.1 C with C | C
      ·rcases zD.1 C with C | C
       ·exact hs.1 C
       ·rcases zG.1 C with C | C
        ·exact hs.2 C
        ·rcases zD.1 C with C | C
         ·exact ox.sep b C A
         ·rcases zD.1 C with C | C
          ·exact e.ysep b C (by simp [A])
          ·have:=aA b A; have:=hT.ylt b C; omega
      ·exact e.tw.yf b (by simp [A]) C) fun b A=>.inl (qbw (fun b A=>by
       rw [zD,zD] at A ⊢
       rcases A with A | A | A
       ·exact .inl A
       ·exact .inr (by simp [A])
       ·exact .inr (by simp [A])) b A)
     have e:=e.less (Y1:=Y) fun b A=>zI _ A
     refine qbj e.tw bx (by omega) (by omega) (by omega) fun F2 b8 a0 bz bA=>?_
     have aL:U32 (storeN k v M1 n.kids[c] N1).1.1:=qbk e.tw.wf hu
     obtain ⟨e,h⟩:=e.next h a0 bz bA
     generalize storeN k v M1 n.kids[c] N1=st at kk e aL ⊢
     obtain ⟨⟨a1,s1⟩,M2⟩:=st
     dsimp only at kk e aL ⊢
     refine qah (h.cell 1 rfl rfl) ?_
     refine e.setI h (i:=c) aa rfl aL fun B2 b9 e h _=>?_
     refine Own.ldA h 1 rfl x rfl ?_
     refine Own.sz h 2 rfl (ndV x) fun bB h _=>?_
     refine Own.ldA h 2 rfl x rfl ?_
     have e:=e.now h
     exact kk x B2 F2 bB (fun _=>⟨(fun h=>by dsimp only at h; rw [Q] at h; cases h),fun _=>by dsimp only; rw [xF]; omega,by dsimp only; omega,by dsimp only; omega,by dsimp only; rw [xF]; omega⟩) e.tw.drop0 (e.node.weak fun b A=>.inl (qdQ b A)) e.fr (fun b A=>(e.bnew b A).elim (fun h=>nomatch h) id) e.sg.new
    ·have ag:lowN N1 k v:=by
      rw [yD] at aq
      exact zC aq
     have V:=aI N1 M1 ai ag
     have bC:=U N1 M1 ai ag
     rw [V] at kk
     have e:=e.sub (T1:=[I,r8,r3,r1]) fun b A=>A
     have ox:Oth FD F1 ae [I,r8,r3,r1] (B++(Bx++Y)) xx N1 Bx:=ox
     have af:∀ b∈B++(Bx++([I,r8,r3,r1]++Y)),b∈[I,r8,r3,r1]++(B++(Bx++Y)):=fun b A=>by
      rw [zD,zD,zD] at A ⊢
      rcases A with A | A | A | A <;> simp [A]
     have bD:∀ b∈Bx,b∉Y:=fun b A C=>by have:=aA b A; have:=hT.ylt b C; omega
     have a2:sideOf c+1=c\/c+1=sideOf c:=by unfold sideOf; split <;> omega
     have hs:sideOf c<n.kids.length:=by unfold sideOf; split <;> omega
     have aD:=fun {K':NdC×Int->WP} (bE)=>qso (t:=t) (pb:=pb) (j:=j) (dbk:=dbk) (Y:=[I,r8,r3,r1]++Y) (K:=K') (e.tw.weakY af) (e.node.weak fun b A=>.inl (qbw af b A)) (ox.node.weak fun b A=>.inl (qbw af b A)) (fun b A C=>e.ysep b A (zH _ C)) (fun b A C=>(zD.1 C).elim (fun C=>e.sep b C A) fun C=>e.ysep b A (zI _ C)) (fun b A C=>(zD.1 C).elim (fun C=>ox.sep b C A) (bD b A)) sn sx Q a2 hs aa bC al bE
     have a3:=fun h0=>qn8 (D:=D) (M:=M1) (k:=k) (v:=v) (nx:=N1) sn Q a2 hs aa h0
     have hS:∀ b∈B++(Bx++F1),b∈F\/w0.heap.size<=b:=fun b A=>by
      rcases zD.1 A with A | A
      ·exact (e.bnew b A).elim (fun h=>nomatch h) .inr
      ·rcases zD.1 A with A | A
       ·exact .inr (aA b A)
       ·exact e.sg.new b A
     have bF:∀ b∈[I,r8,r3,r1],b<ae.heap.size:=fun b A=>e.tw.ylt b (zH _ A)
     have a4:∀ b∈[I,r8,r3,r1],b∉B++(Bx++F1):=fun b A C=>by
      rcases zD.1 C with C | C
      ·exact e.sep b A C
      ·rcases zD.1 C with C | C
       ·exact ox.sep b A C
       ·exact e.tw.yf b (zH _ A) C
     generalize evenM D k v M1 n (sideOf c) c N1=ev at kk a3 aD
     have ar:∀ {z:Int},z=(sideOf c:Int)->(ldA qai ⟨r1,0,none⟩ ae fun a5=>ldA qac ⟨r8,0,none⟩ ae fun a6=>ldA qac ⟨I,0,none⟩ ae fun a7=>
       cW 143 [Value.agg (List.toArray (HL.mk qai a5)),Value.agg (List.toArray (HL.mk qac a6)),Value.int IntKind.i64 z,Value.int IntKind.i64 c,Value.agg (List.toArray (HL.mk qac a7))] [Ty1.agg qac,Ty1.one (Cell.int IntKind.i64)] ae fun aE a8=>
       st ⟨r3,0,none⟩ (HL.mk qac aE.1) a8 fun aF=>ldA qac ⟨r3,0,none⟩ aF fun a9=>K (a9,aE.2) aF):=fun hz=>by
      subst hz
      refine Own.ldA h 3 rfl (wkX k v pb t) rfl ?_
      refine Own.ldA h 1 rfl x rfl ?_
      refine Own.ldA h 0 rfl xx rfl ?_
      refine aD fun yn B' F' cc a' ba bb nB nF=>?_
      have h:=qaK h bb a4
      refine Own.sz h 2 rfl (ndV yn) fun bG h _=>?_
      refine Own.ldA h 2 rfl yn rfl ?_
      obtain ⟨bH,bI⟩:=qtN (T:=[I,r8,r3,r1]) a' ba (fun b A C=>(nB b C).elim (e.sep b A) fun h1=>by have:=bF b A; omega) h
      exact kk yn B' F' bG a3 bH bI ((e.fr.trans' bb hS).trans' h.fr e.sg.own) (fun b A=>(nB b A).elim (fun h1=>(e.bnew b h1).elim (fun h=>nomatch h) id) fun h1=>zL e.fr.size h1) fun b A=>(nF b A).elim (hS b) fun h1=>.inr (zL e.fr.size h1)
     refine qaa (fun aM=>?_) (fun aM=>?_)
     ·have au:0<c:=by have:=zC aM; omega
      refine ar ?_
      unfold sideOf
      rw [if_pos au,wi' _ (by omega)]
      omega
     ·have au:¬ 0<c:=by have:=zB aM; omega
      refine ar ?_
      unfold sideOf
      rw [if_neg au,wi' _ (by omega)]
      omega
end
end
section
abbrev RtC:=Int×Int×Int
def rtV (x:RtC):Array Value:=#[.u x.1,.u x.2.1,.u x.2.2]
abbrev RT:TypeId:=39
section
variable {S:List Nat} {w:World}
theorem qk9 {vb:Nat} {T':TypeId} {h:Nat×Nat} {ks:Sl} {key:Key} (A:w.heap[vb]?=some (.cells #[elSl ks] T' h)) (C:vb∉S) (E:RdB S w ks key):RdK S w ⟨pW vb,1,1⟩ [(ks,key)]:=
 ⟨⟨rfl,zM _,.inr ⟨vb,0,_,T',h,rfl,A,C,fun i x u=>by
  cases i with
  | zero=>cases u; rfl
  | succ i=>simp at u⟩⟩,fun p G=>by rw [zE.1 G]; exact E⟩
theorem qts {vb:Nat} {T':TypeId} {A:Nat×Nat} {a b:Int} (C:w.heap[vb]?=some (.cells #[.u a,.u b] T' A)) (E:vb∉S):Rds encU 1 S w ⟨pW vb,2,2⟩ [a,b]:=
 ⟨rfl,zM _,.inr ⟨vb,0,_,T',A,rfl,C,E,fun i x h=>by
  match i,h with
  | 0,h=>cases h; rfl
  | 1,h=>cases h; rfl
  | i+2,h=>simp at h⟩⟩
end
section
variable {dbk pb j:Nat} {FD Y F F' T:List Nat} {D:DiskM} {w0 w w':World} {M M':PgM} {L L':List (Nat×Obj)} {k v:Nat} {t:Int}
theorem qkK {b:Nat} (h:TW dbk pb FD D j w Y F M) (A:w.heap.size<=b):b∉Zo FD Y F:=fun u=>by have:=h.zlt b u; omega
set_option maxHeartbeats 1000000 in
theorem qpz {f:Nat} {ks vs:Sl} {key val:Key} {K:Int->WP} (au:IsB key) (av:IsB val) (hT:TW dbk pb FD D j w0 Y F M) (hk:RdB (Zo FD Y F) w0 ks key) (hv:RdB (Zo FD Y F) w0 vs val) (A:(rootM M t).1≠0->(putN D k v key val f M (rootM M t).1).1.2≠-1)
  (u:∀ F' w',TW dbk pb FD D j w' Y F' (insertN D k v t key val f M).2->Fr F w0 w'->(∀ b∈F',b∈F\/w0.heap.size<=b)->K (insertN D k v t key val f M).1 w') :
  cW 62 [.agg (wkV (wkX k v pb t)),ks.v,vs.v] [.one .i] w0 K:=by
 refine qgW ?_
 unfold qdw
 have g:=Sg.start F w0
 have h:=Own.start [] w0
 obtain ⟨u1,u2,u3⟩:=qgr hT.wf t
 refine Own.new' h fun r1 w2 _ _ h=>?_
 refine Own.ld h 0 rfl (pW pb) rfl ?_
 refine Own.ld h 0 rfl t rfl ?_
 refine TW.root (hT.frame0 h.fr) fun w6 f6=>?_
 have h:=h.frame0 f6
 unfold insertN at u
 generalize rootM M t=I at u A u1 u2 u3 ⊢
 refine Own.new' h fun r7 w8 _ _ h=>?_
 refine Own.sz h 0 rfl (rtV I) fun w9 h _=>?_
 refine Own.ld h 0 rfl I.1 rfl ?_
 refine qaa (fun hc=>?_) (fun hc=>?_)
 ·have hc:I.1=0:=yO.1 hc
  rw [if_pos hc] at u
  refine Own.ldA h 1 rfl (wkX k v pb t) rfl ?_
  have af:=hT.now0 h
  have aN:=qbE hk h
  have aO:=qbE hv h
  have g:=g.next0 h (.refl [] _)
  have h:=qam h (.refl _)
  refine Own.new' h fun aw bk bl ax h=>?_
  refine Own.new' h fun ay aP bm aQ h=>?_
  have bh:=ax.size
  have V:=ax.trans aQ
  have ad:=af.frame0 V
  have aR:=qkK af (b:=aw) (by omega)
  have aS:=qkK af (b:=ay) (by omega)
  have ag:=qk9 (h.at (i:=1) rfl) aR (aN.frame0 V)
  have aT:=qk9 (h.at (i:=0) rfl) aS (aO.frame0 V)
  have hx:NodeR _ aP (true,⟨pW aw,1,1⟩,⟨pW ay,1,1⟩,⟨none,0,0⟩) (lfOf [(key,val)]):=⟨rfl,⟨fun a ha=>by rw [zE.1 ha]; exact au,fun a ha=>by rw [zE.1 ha]; exact av,fun _ h=>nomatch h⟩,⟨_,ag,rfl⟩,⟨_,aT,rfl⟩,.nil _ _ _ _⟩
  refine qbj ad hx (zO rfl) (zO rfl) (zO rfl) fun F1 aV O az aW=>?_
  have g:=g.next h az aW
  have h:=qaK (h.sub (.cons _ (.cons _ (.refl _)))) az fun b hb=>ad.yf b (zH _ hb)
  have hu:U32 (storeN k v M 0 (lfOf [(key,val)])).1.1:=qbk hT.wf qc7
  unfold rootTo at u
  generalize storeN k v M 0 (lfOf [(key,val)])=st at u O hu ⊢
  obtain ⟨⟨q,e⟩,M1⟩:=st
  dsimp only at u O hu ⊢
  refine qaa (fun G=>?_) (fun G=>?_)
  ·have A:e≠0:=by
    rw [zT] at G
    exact zR.1 G
   rw [if_pos A] at u
   exact u F1 aV O.drop0 g.tot g.new
  ·have A:¬ e≠0:=by
    rw [yD] at G
    exact fun h=>h (yO.1 G)
   rw [if_neg A] at u
   refine Own.ld h 1 rfl (pW pb) rfl ?_
   refine Own.ld h 1 rfl t rfl ?_
   refine TW.setRoot O hu ⟨by decide,by decide⟩ ⟨by decide,by decide⟩ fun aX aA aY=>?_
   exact u F1 aX aA.drop0 (g.tot.trans' aY g.new) g.new
 ·have hc:I.1≠0:=zR.1 hc
  rw [if_neg hc] at u
  refine Own.ldA h 1 rfl (wkX k v pb t) rfl ?_
  refine Own.ld h 0 rfl I.1 rfl ?_
  refine qk0 au av f (hT.now0 h) u1 (qbE hk h) (qbE hv h) (A hc) fun gs F1 aB hG J ai aC aZ=>?_
  have g:=g.next h aC aZ
  have h:=(hT.now0 h).own h aC
  generalize putN D k v key val f M I.1=pn at u hG J ai ⊢
  obtain ⟨⟨E,e1⟩,M1⟩:=pn
  dsimp only at hG J ai ⊢
  unfold growN at u
  dsimp only at u
  refine Own.new' h fun aD bo _ _ h=>?_
  refine Own.sz h 0 rfl (grV (grX E gs)) fun a0 h _=>?_
  refine qaa (fun G=>?_) (fun G=>?_)
  ·have A:e1≠0:=by
    rw [zT] at G
    exact zR.1 G
   rw [if_pos A] at u
   exact u F1 a0 (J.now h).drop0 (g.fr h) g.new
  have A:¬ e1≠0:=by
   rw [yD] at G
   exact fun h=>h (yO.1 G)
  rw [if_neg A] at u
  refine Own.ld h 0 rfl E.page rfl ?_
  refine Own.sz h 1 rfl (rtV (E.page,I.2.1,I.2.2)) fun bp h _=>?_
  have aE:U32 (if E.fresh then IntKind.wrap .u32 (I.2.1+1) else I.2.1):=by
   split
   ·exact qaW _
   ·exact u2
  refine qag (fun _ w'=>Own [r7,r1] aB w' [(aD,.cells (grV (grX E gs)) GR (0,0)),(r7,.cells (rtV (E.page,(if E.fresh then IntKind.wrap .u32 (I.2.1+1) else I.2.1),I.2.2)) RT (0,0)),(r1,.cells (wkV (wkX k v pb t)) WK (0,0))]) ?_ ?_
  ·refine Own.ld h 0 rfl E.fresh rfl ?_
   refine qaa (fun C=>?_) (fun C=>?_)
   ·rw [if_pos C]
    refine Own.ld h 1 rfl I.2.1 rfl ?_
    refine Own.sz h 1 rfl (rtV (E.page,IntKind.wrap .u32 (I.2.1+1),I.2.2)) fun bq h _=>h
   ·rw [if_neg (by rw [C]; decide)]
    exact h
  intro _ a1 h
  generalize (if E.fresh then IntKind.wrap .u32 (I.2.1+1) else I.2.1)=U at u aE h
  refine qag (fun _ w'=>∃ (a c:Int) (F2 T:List Nat) (M2:PgM) (wa:World),Sg F w0 wa F2 T/\TW dbk pb FD D j wa (T++Y) F2 M2/\Own T wa w' [(aD,.cells (grV (grX E gs)) GR (0,0)),(r7,.cells (rtV (a,U,c)) RT (0,0)),(r1,.cells (wkV (wkX k v pb t)) WK (0,0))]/\U32 a/\U32 c/\
   ∀ F' w',TW dbk pb FD D j w' Y F' (setRootM M2 t a U c).2->Fr F w0 w'->(∀ b∈F',b∈F\/w0.heap.size<=b)->K (setRootM M2 t a U c).1 w') ?_ ?_
  ·refine Own.ld h 0 rfl E.other rfl ?_
   refine qaa (fun C=>?_) (fun C=>?_)
   ·have C:E.other≠0:=by
     rw [zT] at C
     exact zR.1 C
    rw [if_pos C] at u
    refine Own.ldA h 2 rfl (wkX k v pb t) rfl ?_
    refine Own.ld h 0 rfl gs rfl ?_
    have Q:=TW.now (T:=[r7,r1]) J h
    have ak:=qaF (T:=[r7,r1]) ai h
    have g:Sg F w0 a1 F1 (bks _):=g.next0 h (.refl [] _)
    have h:=qam h (.refl _)
    refine Own.new' h fun aF br bs aG h=>?_
    refine Own.ld h 1 rfl E.page rfl ?_
    refine Own.ld h 1 rfl E.other rfl ?_
    refine Own.new' h fun aH a2 bt a3 h=>?_
    have bi:=aG.size
    have aI:=aG.trans a3
    have ae:=Q.frame0 aI
    have a4:=qkK Q (b:=aF) (by omega)
    have a5:=qkK Q (b:=aH) (by omega)
    have ag:=qk9 (h.at (i:=1) rfl) a4 (ak.frame0 aI)
    have a6:=qts (h.at (i:=0) rfl) a5
    have hx:NodeR _ a2 (false,⟨pW aF,1,1⟩,⟨none,0,0⟩,⟨pW aH,2,2⟩) ⟨false,[E.key],[],[E.page,E.other]⟩:=⟨rfl,⟨fun a ha=>by rw [zE.1 ha]; exact hG.key,fun _ h=>(nomatch h),fun a ha=>by
     simp only [zG,xX,or_false] at ha
     rcases ha with rfl | rfl
     ·exact hG.page
     ·exact hG.other⟩,⟨_,ag,rfl⟩,⟨_,.nil _ _,rfl⟩,a6⟩
    refine qbj ae hx (zO rfl) (zO rfl) (zO rfl) fun F2 aJ R aK a7=>?_
    have g:=g.next h aK a7
    have h:=qaK (h.sub (.cons _ (.cons _ (.refl _)))) aK fun b hb=>ae.yf b (zH _ hb)
    have hu:U32 (storeN k v M1 0 ⟨false,[E.key],[],[E.page,E.other]⟩).1.1:=qbk Q.wf qc7
    unfold rootTo at u
    generalize storeN k v M1 0 ⟨false,[E.key],[],[E.page,E.other]⟩=st at u R hu ⊢
    obtain ⟨⟨q,e⟩,M2⟩:=st
    dsimp only at u R hu ⊢
    refine qaa (fun aa=>?_) (fun aa=>?_)
    ·have A:e≠0:=by
      rw [zT] at aa
      exact zR.1 aa
     rw [if_pos A] at u
     exact u F2 aJ R.drop0 g.tot g.new
    ·have A:¬ e≠0:=by
      rw [yD] at aa
      exact fun h=>h (yO.1 aa)
     rw [if_neg A] at u
     refine Own.ld h 1 rfl I.2.2 rfl ?_
     refine Own.sz h 1 rfl (rtV (q,U,I.2.2)) fun bu h _=>?_
     refine Own.sz h 1 rfl (rtV (q,U,IntKind.wrap .u32 (I.2.2+1))) fun bv h _=>?_
     exact ⟨q,_,F2,_,M2,aJ,⟨g.tot,g.new,fun b hb=>g.own b (by simp at hb ⊢; rcases hb with h | h | h <;> simp [h])⟩,R,h,hu,qaW _,u⟩
   ·have C:¬ E.other≠0:=by
     rw [yD] at C
     exact fun h=>h (yO.1 C)
    rw [if_neg C] at u
    exact ⟨E.page,I.2.2,F1,[r7,r1],M1,aB,g,J,h,hG.page,u3,u⟩
  rintro _ bw ⟨a,c,F2,T,M2,wa,g,a8,h,ha,a9,u⟩
  refine Own.ld h 2 rfl (pW pb) rfl ?_
  refine Own.ld h 2 rfl t rfl ?_
  refine Own.ldA h 1 rfl (a,U,c) rfl ?_
  refine TW.setRoot (a8.now h) ha aE a9 fun a' aL ba=>?_
  exact u F2 a' aL.drop0 ((g.fr h).trans' ba g.new) g.new
end
end
section
section
variable {dbk pb j:Nat} {FD Y F F' T:List Nat} {D:DiskM} {w0 w w':World} {M M':PgM} {L L':List (Nat×Obj)} {k v:Nat} {t:Int}
theorem Oth.rd {x:NdC} {n:NodeM} {B:List Nat} (o:Oth FD F w T (B++Y) x n B) (C:TW dbk pb FD D j w (T++(B++Y)) F M) (A:∀ b∈B,b∉Y):NodeR (Zo FD (T++Y) F) w x n:=
 o.node.rd (fun b h u=>by
  have E:=C.sep b (by simp [h])
  simp only [Zo,zD,zG] at u
  rcases u with (u | u | u | u) | u
  ·exact E.1 u
  ·exact E.2 u
  ·exact o.sep b u h
  ·exact A b h u
  ·exact C.yf b (by simp [h]) u) fun b h=>.inl (qbw (fun b h=>by
   rw [zD] at h
   simp only [zD]
   rcases h with h | h
   ·exact .inl h
   ·exact .inr (.inr h)) b h)
theorem Oth.next {R:List Nat} {x:NdC} {n:NodeM} {B:List Nat} (o:Oth FD F w T R x n B) (f:Fr F w w') (h:∀ b∈B,b∉F) (u:∀ b∈F',b∈F\/w.heap.size<=b):Oth FD F' w' T R x n B:=⟨o.node.frame f h (fun b A=>.inl (zoF A)) (TW.znew u),o.sep⟩
theorem qqG {r:Int×Int×Int} {N:NodeM}:shrinkN k v t r ((N,0),M) =
  if N.leaf=true/\N.keys.length=0 then (if (dropV M r.1).1≠0 then ((dropV M r.1).1,(dropV M r.1).2) else setRootM (dropV M r.1).2 t 0 0 0)
  else if N.leaf=false/\N.kids.length=1 then (if (dropV M r.1).1≠0 then ((dropV M r.1).1,(dropV M r.1).2) else setRootM (dropV M r.1).2 t (N.kids.getD 0 0) (IntKind.wrap .u32 (r.2.1-1)) (IntKind.wrap .u32 (r.2.2-1)))
  else rootTo t (storeN k v M r.1 N) (IntKind.wrap .u32 (r.2.1-1)) r.2.2:=by
 unfold shrinkN
 rw [if_neg (fun h=>h rfl)]
set_option maxHeartbeats 1000000 in
theorem qqo {f:Nat} {ks:Sl} {key:Key} {K:Int->WP} (aE:IsB key) (ak:CapsOk k v) (hT:TW dbk pb FD D j w0 Y F M) (hk:RdB (Zo FD Y F) w0 ks key) (O:cutSafe D k v key f M (rootM M t).1)
  (C:∀ F' w',TW dbk pb FD D j w' Y F' (removeN D k v t key f M).2->Fr F w0 w'->(∀ b∈F',b∈F\/w0.heap.size<=b)->K (removeN D k v t key f M).1 w') :
  cW 66 [.agg (wkV (wkX k v pb t)),ks.v] [.one .i] w0 K:=by
 refine qgV ?_
 unfold qdB
 have g:=Sg.start F w0
 have h:=Own.start [] w0
 obtain ⟨u1,u2,u3⟩:=qgr hT.wf t
 refine Own.new' h fun r1 w2 _ _ h=>?_
 refine Own.ld h 0 rfl (pW pb) rfl ?_
 refine Own.ld h 0 rfl t rfl ?_
 refine TW.root (hT.frame0 h.fr) fun w6 f6=>?_
 have h:=h.frame0 f6
 unfold removeN at C
 generalize rootM M t=E at C O u1 u2 u3 ⊢
 refine Own.new' h fun r7 w8 _ _ h=>?_
 refine Own.sz h 0 rfl (rtV E) fun w9 h _=>?_
 refine Own.ldA h 1 rfl (wkX k v pb t) rfl ?_
 refine Own.ld h 0 rfl E.1 rfl ?_
 refine qk7 aE ak f (hT.now0 h) u1 (qbE hk h) O fun x B F1 ao af Q R ap ac aG=>?_
 have aH:=qhW h
 have a2:=h.fr.size
 have g:=g.next h ap aG
 have h:=(hT.now0 h).own h ap
 generalize cutN D k v key f M E.1=cn at C af Q R ⊢
 obtain ⟨⟨N,e1⟩,M1⟩:=cn
 dsimp only at af Q R ⊢
 have aq:TW dbk pb FD D j ao ([r7,r1]++(B++Y)) F1 M1:=Q.weakY fun b u=>by
  rw [zD,zD] at u
  simp only [zD]
  rcases u with u | u | u
  ·exact .inr (.inl u)
  ·exact .inl u
  ·exact .inr (.inr u)
 have o:Oth FD F1 ao [r7,r1] (B++Y) x N B:=⟨R.weak fun b u=>.inl (qbw (fun b u=>by
  rw [zD,zD] at u
  simp only [zD]
  rcases u with u | u | u
  ·exact .inr (.inl u)
  ·exact .inl u
  ·exact .inr (.inr u)) b u),fun b u hm=>by have:=aH b u; have:=ac b hm; omega⟩
 have aJ:∀ b∈B,b∉Y:=fun b u hm=>by have:=hT.ylt b hm; have:=ac b u; omega
 have G:∀ {T:List Nat},∀ b∈T++Y,b∈T++(B++Y):=fun b u=>by
  rw [zD] at u
  simp only [zD]
  rcases u with u | u
  ·exact .inl u
  ·exact .inr (.inr u)
 refine Own.new' h fun aK a4 _ _ h=>?_
 refine Own.sz h 0 rfl (ndV x) fun aL h _=>?_
 refine qaa (fun I=>?_) (fun I=>?_)
 ·have U:e1≠0:=by
   rw [zT] at I
   exact zR.1 I
  have e:shrinkN k v t E ((N,e1),M1)=(e1,M1):=by unfold shrinkN; rw [if_pos U]
  rw [e] at C
  exact C F1 aL ((TW.now (T:=[r7,r1]) aq h).weakY fun b u=>by simp [u]) (g.fr h) g.new
 have aM:e1=0:=by
  rw [yD] at I
  exact yO.1 I
 subst aM
 rw [qqG] at C
 have aa:x.1=N.leaf:=o.node.1
 have ar:NodeL x N:=(o.node.rd (S:=[]) (fun _ _ h=>(nomatch h)) fun _ h=>nomatch h).lens
 have ag:U32 (IntKind.wrap .u32 (E.2.1-1)):=qaW _
 refine Own.ld h 1 rfl E.2.1 rfl ?_
 refine Own.sz h 1 rfl (rtV (E.1,IntKind.wrap .u32 (E.2.1-1),E.2.2)) fun au h _=>?_
 generalize IntKind.wrap .u32 (E.2.1-1)=ab at C ag h
 have A:=TW.now (T:=[r7,r1]) aq h
 have o:=o.now h
 have g:Sg F w0 au F1 (bks _):=g.next0 h (.refl [] _)
 have h:=qam h (.refl _)
 refine qag (fun e w'=>∃ (a b c:Int) (V T:List Nat) (M2:PgM) (wa:World),Sg F w0 wa V T/\TW dbk pb FD D j wa (T++Y) V M2/\Own T wa w' [(aK,.cells (ndV x) ND (0,0)),(r7,.cells (rtV (a,b,c)) RT (0,0)),(r1,.cells (wkV (wkX k v pb t)) WK (0,0))]/\U32 a/\U32 b/\U32 c/\
  ∀ F' w',TW dbk pb FD D j w' Y F' (if e≠0 then (e,M2) else setRootM M2 t a b c).2->Fr F w0 w'->(∀ b∈F',b∈F\/w0.heap.size<=b)->K (if e≠0 then (e,M2) else setRootM M2 t a b c).1 w') ?_ ?_
 ·refine qag (fun d w'=>d=decide (N.leaf=true/\N.keys.length=0)/\w'=au) ?_ ?_
  ·refine Own.ld h 0 rfl x.1 rfl ?_
   refine qaa (fun I=>?_) (fun I=>?_)
   ·rw [aa] at I
    refine Own.ld h 0 rfl x.2.1 rfl ⟨?_,rfl⟩
    rw [ar.keys,Bool.eq_iff_iff,yO,yM]
    exact ⟨fun h=>⟨I,by omega⟩,fun h=>by rw [h.2]; rfl⟩
   ·rw [aa] at I
    exact ⟨(zU fun h=>by rw [I] at h; exact absurd h.1 (by decide)).symm,rfl⟩
  rintro d aN ⟨rfl,rfl⟩
  refine qaa (fun hd=>?_) (fun hd=>?_)
  ·have hd:=zC hd
   rw [if_pos hd] at C
   refine Own.ld h 2 rfl (pW pb) rfl ?_
   refine Own.ld h 1 rfl E.1 rfl ?_
   refine TW.drop (A.weakY G) fun V aO av aw aP=>?_
   have g:=g.next h aw aP
   have h:=TW.own (A.weakY G) h aw
   refine Own.sz h 1 rfl (rtV (0,0,0)) fun a5 h _=>?_
   exact ⟨0,0,0,V,_,_,aO,g,av,h,qc7,qc7,qc7,C⟩
  have hd:=zB hd
  rw [if_neg hd] at C
  refine qag (fun d w'=>d=decide (N.leaf=false/\N.kids.length=1)/\w'=aN) ?_ ?_
  ·refine Own.ld h 0 rfl x.1 rfl ?_
   refine qaa (fun I=>?_) (fun I=>?_)
   ·rw [aa,zT] at I
    refine Own.ld h 0 rfl x.2.2.2 rfl ⟨?_,rfl⟩
    rw [ar.kids,Bool.eq_iff_iff,yO,yM]
    exact ⟨fun h=>⟨I,by omega⟩,fun h=>by rw [h.2]; rfl⟩
   ·rw [aa,yD] at I
    exact ⟨(zU fun h=>by rw [I] at h; exact absurd h.1 (by decide)).symm,rfl⟩
  rintro d a6 ⟨rfl,rfl⟩
  refine qaa (fun J=>?_) (fun J=>?_)
  ·have J:=zC J
   rw [if_pos J] at C
   have ai:0<N.kids.length:=by omega
   rw [qc5 ai] at C
   have aQ:U32 N.kids[0]:=o.node.2.1.2.2 _ (zW ai)
   refine Own.ld h 2 rfl (pW pb) rfl ?_
   refine Own.ld h 1 rfl E.1 rfl ?_
   refine TW.drop A fun V aR ax aj ay=>?_
   have g:=g.next h aj ay
   have o:=o.next aj (fun b u=>A.yf b (by simp [u])) ay
   have h:=TW.own A h aj
   have h:=Own.drew h
   refine Own.ld h 0 rfl x.2.2.2 rfl ?_
   have oR:NodeR [] _ x N:=(o.now h).node.rd (S:=[]) (fun _ _ h=>(nomatch h)) fun _ h=>nomatch h
   refine Rds.get oR.2.2.2.2 0 rfl (x:=N.kids[0]) (zA ai) (y:=N.kids[0]) rfl ?_
   refine Own.ld h 1 rfl E.2.2 rfl ?_
   refine Own.sz h 1 rfl (rtV (N.kids[0],ab,E.2.2)) fun a8 h _=>?_
   refine Own.sz h 1 rfl (rtV (N.kids[0],ab,IntKind.wrap .u32 (E.2.2-1))) fun a9 h _=>?_
   exact ⟨_,_,_,V,_,_,aR,g,ax.weakY G,h,aQ,ag,qaW _,C⟩
  ·have J:=zB J
   rw [if_neg J] at C
   have sx:=af rfl
   have z1:=sx.keys
   have z2:=sx.vals
   have z3:=sx.kids
   refine Own.ldA h 2 rfl (wkX k v pb t) rfl ?_
   refine Own.ld h 1 rfl E.1 rfl ?_
   refine Own.ldA h 0 rfl x rfl ?_
   refine qbj (A.weakY G) (o.rd A aJ) (by omega) (by omega) (by omega) fun V aT ae az aU=>?_
   have aA:U32 (storeN k v M1 E.1 N).1.1:=qbk A.wf u1
   have g:=g.next h az aU
   have h:=TW.own (A.weakY G) h az
   unfold rootTo at C
   generalize storeN k v M1 E.1 N=st at C ae aA ⊢
   obtain ⟨⟨q,e2⟩,M2⟩:=st
   refine Own.sz h 1 rfl (rtV (q,ab,E.2.2)) fun a' h _=>?_
   exact ⟨q,ab,E.2.2,V,_,M2,aT,g,ae,h,aA,ag,u3,C⟩
 rintro e aV ⟨a,b,c,V,T,M2,wa,g,aB,h,ua,ub,uc,C⟩
 refine qaa (fun J=>?_) (fun J=>?_)
 ·have U:e≠0:=by
   rw [zT] at J
   exact zR.1 J
  rw [if_pos U] at C
  exact C V aV (aB.now h).drop0 (g.fr h) g.new
 ·have U:¬ e≠0:=by
   rw [yD] at J
   exact fun h=>h (yO.1 J)
  rw [if_neg U] at C
  refine Own.ld h 2 rfl (pW pb) rfl ?_
  refine Own.ld h 2 rfl t rfl ?_
  refine Own.ldA h 1 rfl (a,b,c) rfl ?_
  refine TW.setRoot (aB.now h) ua ub uc fun aW aC aX=>?_
  exact C V aW aC.drop0 ((g.fr h).trans' aX g.new) g.new
end
end
end Go.Proofs.YtmmkegapckbomaaGreatDoor
end
section
namespace Go.Proofs.YtmmkegapckbomaaGreatDoor
open Go Go.Pt List
theorem Lim.new {n:Nat} (h:n<=4096):Lim (newM n) 0:=⟨qtB h,by simp [newM],by simp [newM]⟩
def pgs (n:Nat):List Int:=(allV n).take (needP (allV n).length)
def nums (n:Nat):List Int:=(allV n).drop (needP (allV n).length)
def madeM (n:Nat):PgM:=begunM (fmtSup n) (pgs n) (nums n) 1 false (nums n)
theorem qtT {n:Nat} (h:8<=n) (u:n<=4096):(madeM n).Wf:=by
 have e:(fmtSup n).2.getD 0 0=n:=by show IntKind.wrap .u32 (n:Int)=_; exact qa3 _ (by omega)
 exact qsU (by rw [e]; exact qkm) (by rw [e]; omega) (qhi h u).u32
structure Made (D:DiskM) (n:Nat):Prop where
 quiet:Quiet D
 size:D.size=n
 waits:D.waits=[]
 opens:Opens D (fmtSup n) (pgs n) (nums n)
 fmt:formatM (newM n)=(D,0)
 zero:view D 0=zs 512
end Go.Proofs.YtmmkegapckbomaaGreatDoor
end
section
namespace Go.Proofs.YtmmkegapckbomaaGreatDoor
open Go Go.Pt List
open Classical
def refStep (k v:Key) (d:Bool) (x:Key×Key):Prs×Bool:=((if cmpL x.1 k>=0/\d=false then [(k,v)] else [])++(if cmpL x.1 k≠0 then [x] else []),d||decide (cmpL x.1 k>=0))
def refP (k v:Key):Bool->Prs->Prs
 | d,[]=>if d then [] else [(k,v)]
 | d,x::r=>(refStep k v d x).1++refP k v (refStep k v d x).2 r
theorem qhH {k v:Key}:∀ {r:Prs},(∀ x∈r,KLt k x.1)->refP k v true r=r
 | [],_=>rfl
 | x::r,h=>by
  have u:=h x (by simp)
  have A:cmpL x.1 k≠0:=fun e=>by have:=qeB e; rw [this] at u; exact qax u
  rw [refP,refStep]
  dsimp only
  rw [if_neg (fun h=>nomatch h.2),if_pos A,Bool.true_or,qhH fun y C=>h y (zN _ C)]
  rfl
theorem qnN {k v:Key}:∀ {l:Prs},SortP l->refP k v false l=insP k v l
 | [],_=>rfl
 | x::r,h=>by
  have E:=yI.1 (show (x.1::keysP r).Pairwise KLt from h)
  rw [refP,refStep,insP]
  dsimp only
  rw [Bool.false_or]
  by_cases h2:KLt k x.1
  ·have C:cmpL x.1 k=1:=by
    have:=qbo k x.1
    have:=qdH x.1 k
    have u:cmpL k x.1<0:=h2
    omega
   rw [if_pos h2,C,if_pos ⟨by decide,rfl⟩,if_pos (by decide),zZ (by decide),qhH fun y G=>qau h2 (E.1 y.1 (zY G))]
   rfl
  by_cases u:k=x.1
  ·have C:cmpL x.1 k=0:=by rw [u]; exact qeJ _
   rw [if_neg h2,if_pos u,C,if_pos ⟨by decide,rfl⟩,if_neg (by decide),zZ (by decide),qhH fun y G=>by rw [u]; exact E.1 y.1 (zY G)]
   rfl
  ·have I:KLt x.1 k:=by
    rcases ql5 k x.1 with A | A | A
    ·exact absurd A h2
    ·exact absurd A u
    ·exact A
   have C:cmpL x.1 k<0:=I
   rw [if_neg h2,if_neg u,if_neg (fun h=>absurd h.1 (by omega)),if_pos (by omega),zU (by omega),qnN E.2]
   rfl
theorem qqt {k:Key} {l:Prs} {i:Nat} (h:i<l.length):cutP k (l.take (i+1))=cutP k (l.take i)++if l[i].1=k then [] else [l[i]]:=by
 rw [yF h]
 unfold cutP
 rw [xB]
 congr 1
 by_cases h2:l[i].1=k
 ·rw [if_pos h2]; simp [h2]
 ·rw [if_neg h2]; simp [h2]
theorem qbl {D:DiskM} {M:PgM} {k v:Nat} {t:Int} {L:Prs} {P:List Int} (A:TreeIs D M k v t L P):(rootM M t).2.2.toNat<=L.length/\P.length<=2*L.length/\(rootM M t).2.1=L.length/\0<=(rootM M t).2.2:=by
 rcases A with ⟨u,rfl,rfl⟩ | ⟨h,n,p,E,u,C⟩
 ·rw [u]; exact ⟨zM _,zM _,rfl,Int.le_refl _⟩
 ·have:=C.counts
  dsimp only at this
  rw [u]
  dsimp only
  rw [zJ]
  omega
theorem TreeIs.sort {D:DiskM} {M:PgM} {k v:Nat} {t:Int} {L:Prs} {P:List Int} (A:TreeIs D M k v t L P):SortP L/\PrsOk k v L:=by
 rcases A with ⟨_,rfl,_⟩ | ⟨h,n,p,E,G,u⟩
 ·exact ⟨.nil,fun x C=>nomatch C⟩
 ·exact ⟨u.sort,u.prsOk⟩
theorem qpg {t:Int} (h:good t):∃ k v:Nat,shp t=((k:Int),(v:Int))/\CapsOk k v/\1<=k/\k<=24/\1<=v/\v<=108:=by
 obtain ⟨u,A⟩:=h
 have:t=0\/t=1\/t=2\/t=3\/t=4\/t=5\/t=6\/t=7:=by omega
 rcases this with rfl | rfl | rfl | rfl | rfl | rfl | rfl | rfl
 ·exact ⟨16,88,rfl,⟨by decide,by decide⟩,by decide,by decide,by decide,by decide⟩
 ·exact ⟨16,108,rfl,⟨by decide,by decide⟩,by decide,by decide,by decide,by decide⟩
 ·exact ⟨16,1,rfl,⟨by decide,by decide⟩,by decide,by decide,by decide,by decide⟩
 ·exact ⟨16,16,rfl,⟨by decide,by decide⟩,by decide,by decide,by decide,by decide⟩
 ·exact ⟨24,16,rfl,⟨by decide,by decide⟩,by decide,by decide,by decide,by decide⟩
 ·exact ⟨24,16,rfl,⟨by decide,by decide⟩,by decide,by decide,by decide,by decide⟩
 ·exact ⟨24,65,rfl,⟨by decide,by decide⟩,by decide,by decide,by decide,by decide⟩
 ·exact ⟨1,8,rfl,⟨by decide,by decide⟩,by decide,by decide,by decide,by decide⟩
structure Sole (D:DiskM) (M:PgM) (k v c:Nat) (t:Int) (L:Prs) (P:List Int):Prop where
 tree:TreeIs D M k v t L P
 wf:M.Wf
 over:M.over=false
 len:M.roots.length=24
 nodup:P.Nodup
 named:M.Named
 many:M.named.length=c
 use:∀ x,InUse M x->x∈P
section
variable {D:DiskM} {M M':PgM} {k v c:Nat} {t:Int} {L L':Prs} {P P':List Int}
theorem Sole.next (h:Sole D M k v c t L P) (C:TreeIs D M' k v t L' P') (u:RStep D M M' t P P'):Sole D M' k v c t L' P' where
 tree:=C
 wf:=u.wf
 over:=u.step.over
 len:=u.len
 nodup:=u.step.nodup
 named:=u.step.Named h.named
 many:=by have:=u.step.named; rw [<- h.many,<- this]
 use:=fun x E=>(u.step.use x E).elim id fun A=>absurd (h.use x A.1) A.2
end
theorem qlC {D:DiskM} {n k v:Nat} {t:Int} (Q:0<=t/\t<8) (R:8<=n) (U:n<=4096) (J:(madeM n).Wf):Sole D (madeM n) k v ((n-2)-needP (n-2)) t [] []:=by
 have G:(madeM n).roots=zs 24:=rfl
 have u:(zs 24).length=24:=by simp [zs]
 have C:∀ i,(zs 24).getD i 0=0:=fun i=>by
  rw [yQ]
  unfold zs
  rw [List.getElem?_replicate]
  split <;> rfl
 refine ⟨.inl ⟨?_,rfl,rfl⟩,J,rfl,by rw [G]; exact u,.nil,qoj _ _ _ _ _,?_,fun x A=>?_⟩
 ·unfold rootM
  split
  ·rfl
  ·rw [G,C,C,C]
 ·show (nums n).length=_
  unfold nums
  rw [yB,qf2]
 ·rcases A with A | A
  ·cases A
  ·obtain ⟨K,I,O,E,V,_⟩:=qaG.1 A
   have e:(madeM n).sup.2.getD 0 0=n:=by show IntKind.wrap .u32 (n:Int)=_; exact qa3 _ (by omega)
   rw [e] at I
   have h:=qfR.2 ⟨K,I⟩
   rw [<- xD (needP (allV n).length) (allV n)] at h
   rcases zD.1 h with h | h
   ·exact absurd h O
   ·exact absurd h E
end Go.Proofs.YtmmkegapckbomaaGreatDoor
end
section
namespace Go.Proofs.YtmmkegapckbomaaGreatDoor
open Go Go.Pt List
open Classical
theorem qqY {S:Type} {B:(S->WP)->S->WP} (I:Nat->S->WP) (C:∀ f s w (X:S->WP),I f s w->(∀ u A w',u<f->I u A w'->X A w')->B X s w):∀ (f:Nat) {s:S} {w:World},I f s w->loop S B s w:=fun f=>by
 induction f using Nat.strongRecOn with
 | ind f ih=>exact fun {s w} h=>qhd fun X E=>C f s w X h fun u A w' G J=>E _ _ (ih u G J)
attribute [local irreducible] ld ldA ldV fld fldA newZ st new idx idxS idxA slc slcS slcP mkS chk nn call callV inv run runQ runU join loop held ext rng undefer s2a nxt ent IntKind.wrap
noncomputable def getN (D:DiskM) (k v:Nat) (key:Key) (M:PgM):Nat->Int->Key×Int
 | 0,p=>if p=0 then ([],5) else ([],-1)
 | f+1,p=>if p=0 then ([],5)
  else if (loadN D M k v p).2≠0 then ([],(loadN D M k v p).2)
  else if (loadN D M k v p).1.leaf then
   if (loadN D M k v p).1.keys[placeV (loadN D M k v p).1.keys key]?=some key then ((loadN D M k v p).1.vals.getD (placeV (loadN D M k v p).1.keys key) [],0) else ([],5)
  else getN D k v key M f ((loadN D M k v p).1.kids.getD (kidV (loadN D M k v p).1.keys key) 0)
section
variable {dbk pb j:Nat} {FD Y F F' T:List Nat} {D:DiskM} {w0 w w':World} {M M':PgM} {k v:Nat} {t:Int}
theorem qtn {f:Nat} {ks:Sl} {key:Key} {K:Sl×Int->WP} (ad:IsB key) (hs:shp t=((k:Int),(v:Int))) (au:k≠0) (aV:key.length=k) (hT:TW dbk pb FD D j w0 Y F M) (hk:RdB (Zo FD Y F) w0 ks key) (O:(getN D k v key M f (rootM M t).1).2≠-1)
  (kk:∀ s w',(∀ G:List Nat,(∀ b∈G,b<w0.heap.size)->RdB G w' s (getN D k v key M f (rootM M t).1).1)->Fr [] w0 w'->K (s,(getN D k v key M f (rootM M t).1).2) w') :
  cW 41 [.pointer (pW pb),.i t,ks.v] [.one .slice,.one .i] w0 K:=by
 refine qoh ?_
 unfold qmg
 have aN:=hk.1
 refine qjz (k:=k) (v:=v) hs (fun h=>absurd h au) (fun _ h=>absurd (by omega) h) fun _ _ w2 f2=>?_
 have h:=(Own.start [] w0).frame0 f2
 refine Own.new' h fun r3 w4 _ _ h=>?_
 refine Own.sz h 0 rfl (wkV (wkX k v pb t)) fun w5 h _=>?_
 refine cond_false rfl ?_
 refine TW.root (hT.frame0 h.fr) fun w7 f7=>?_
 have h:=h.frame0 f7
 have hu:=(qgr hT.wf t).1
 generalize rootM M t=rt at kk O hu ⊢
 generalize af:getN D k v key M f rt.1=ag at kk O
 refine qag (fun _ w'=>ag=([],5)/\Fr [] w0 w') ?_ ?_
 ·refine qqY (fun f s w'=>getN D k v key M f s=ag/\U32 s/\Own [] w0 w' [(r3,.cells (wkV (wkX k v pb t)) WK (0,0))]) ?_ f ⟨af,hu,h⟩
  rintro f s a0 X ⟨u,ax,h⟩ hX
  refine qaa (fun U=>?_) (fun U=>?_)
  ·have Q:s≠0:=by
    rw [zT] at U
    exact zR.1 U
   cases f with
   | zero=>
    unfold getN at u
    rw [if_neg Q] at u
    rw [<- u] at O
    exact absurd rfl O
   | succ f=>
   unfold getN at u
   rw [if_neg Q] at u
   refine Own.ldA h 0 rfl (wkX k v pb t) rfl ?_
   rcases V:loadN D M k v s with ⟨n,e0⟩
   rw [V] at u
   dsimp only at u
   refine qeZ (k:=k) (v:=v) (hT.frame0 h.fr) ax fun x B ay aP A az aQ=>?_
   rw [V] at A ⊢
   dsimp only at A ⊢
   have J:NodeR [] ay x n:=A.rd (fun _ _ h=>(nomatch h)) fun _ h=>nomatch h
   have h:=h.frame0 az
   have aR:=h.fr
   refine Own.new' h fun ah aA a2 aB h=>?_
   have J:NodeR [ah] aA x n:=(J.weak (S':=[ah]) fun b hb=>by rw [zE.1 hb]; exact .inr (by omega)).frame0 aB
   refine Own.sz h 0 rfl (ndV x) fun ai h aD=>?_
   have J:=J.frame aD fun b hb=>.inl hb
   refine qaa (fun C=>?_) (fun C=>?_)
   ·have aj:e0≠0:=by
     rw [zT] at C
     exact zR.1 C
    rw [if_pos aj] at u
    subst u
    exact kk ⟨none,0,0⟩ ai (fun _ _=>.nil _ _ _ _) h.fr
   have aE:e0=0:=by
    rw [yD] at C
    exact yO.1 C
   subst aE
   rw [if_neg (fun h=>h rfl)] at u
   have hr:=qcK V
   obtain ⟨l1,l2,l3,l4,l5⟩:=qa6 hr
   have ak:x.1=n.leaf:=J.1
   refine Own.ld h 0 rfl x.1 rfl ?_
   refine qaa (fun E=>?_) (fun E=>?_)
   ·have I:n.leaf=false:=by rw [ak,zT] at E; exact E
    rw [if_neg (by rw [I]; decide)] at u
    obtain ⟨l6,l7,l8⟩:=l5 I
    have aS:=qdL n.keys key
    have fd:=(Fr.refl [] ai).drew
    have h:=Own.drew h
    refine Own.ld h 0 rfl x.2.2.2 rfl ?_
    refine Own.ldA h 0 rfl x rfl ?_
    refine qg4 (J.frame0 fd) (hk.frame0 h.fr) ad hr.2.2.1 (by omega) fun aF al=>?_
    have h:=h.frame0 al
    refine qah (h.cell 0 rfl rfl) ?_
    have aa:kidV n.keys key<n.kids.length:=by omega
    refine Rds.get ((J.frame0 fd).frame0 al).2.2.2.2 (kidV n.keys key) rfl (zA aa) (y:=n.kids[kidV n.keys key]) rfl ?_
    rw [qc5 aa] at u
    exact hX f _ aF (Nat.lt_succ_self f) ⟨u,J.2.1.2.2 _ (zW aa),h.sub (sublist_cons_self _ _)⟩
   ·have I:n.leaf=true:=by rw [ak,yD] at E; exact E
    rw [if_pos I] at u
    obtain ⟨l6,l7⟩:=l4 I
    refine Own.ldA h 0 rfl x rfl ?_
    refine qf9 J (hk.frame0 h.fr) ad hr.2.2.1 (by omega) fun a7 am=>?_
    have h:=h.frame0 am
    refine qaa (fun ab=>?_) (fun ab=>?_)
    ·have an:=zC ab
     rw [if_pos an] at u
     have a8:=(zP.1 an).1
     obtain ⟨pv,ao,ac⟩:=(J.frame0 am).2.2.2.1
     have R:placeV n.keys key<pv.length:=by
      have:=congrArg List.length ac
      rw [zK] at this
      omega
     refine Own.ld h 0 rfl x.2.2.1 rfl ?_
     refine RdK.get ao (placeV n.keys key) rfl R ?_
     have ap:n.vals.getD (placeV n.keys key) []=pv[placeV n.keys key].2:=by rw [<- ac,qc2 R]
     rw [ap] at u
     have aG:pv[placeV n.keys key].2.length<=1000000:=by
      have h1:=hr.2.1 pv[placeV n.keys key].2 (by rw [<- ac]; exact zY (zW R))
      have h2:=qj7 (k:=k) (v:=v) (by omega)
      omega
     refine qaO (ao.2 _ (zW R)) aG fun s' B' aH aI aJ aK _ _=>?_
     subst u
     have a':=h.fr.size
     exact kk s' aH (fun G hG=>aI.rds qat fun c U hm=>by have:=aK c U; have:=hG c hm; omega) (h.fr.trans aJ)
    ·have aq:=zB ab
     rw [if_neg aq] at u
     exact ⟨u.symm,h.fr⟩
  ·have Q:s=0:=by
    rw [yD] at U
    exact yO.1 U
   refine ⟨?_,h.fr⟩
   rw [<- u]
   cases f <;> (unfold getN; rw [if_pos Q])
 ·rintro _ aL ⟨rfl,aM⟩
  exact kk ⟨none,0,0⟩ aL (fun _ _=>.nil _ _ _ _) aM
theorem qoT {r h:Int} (u:0<=r) (A:0<=h/\h<=1000000) (C:2*h.toNat+1<=r.toNat):decide (r>IntKind.wrap .i64 (2*IntKind.wrap .i64 h))=true:=by
 rw [wi' h (by omega),wi' (2*h) (by omega)]
 exact zZ (by omega)
theorem qoJ {ks vs:Sl} {key val:Key} {f:Nat} {K:Int->WP} (O:IsB key) (Q:IsB val) (hs:shp t=((k:Int),(v:Int))) (R:k≠0) (ai:key.length=k) (U:val.length=v) (hT:TW dbk pb FD D j w0 Y F M) (hk:RdB (Zo FD Y F) w0 ks key) (hv:RdB (Zo FD Y F) w0 vs val)
  (V:0<=(rootM M t).2.2/\(rootM M t).2.2<=1000000) (aa:2*(rootM M t).2.2.toNat+1<=M.free.length) (ab:(rootM M t).1≠0->(putN D k v key val f M (rootM M t).1).1.2≠-1)
  (kk:∀ F' w',TW dbk pb FD D j w' Y F' (insertN D k v t key val f M).2->Fr F w0 w'->(∀ b∈F',b∈F\/w0.heap.size<=b)->K (insertN D k v t key val f M).1 w') :
  cW 17 [.pointer (pW pb),.i t,ks.v,vs.v] [.one .i] w0 K:=by
 refine qog ?_
 unfold qlv
 have al:=hk.1
 have ac:=hv.1
 have g:=Sg.start F w0
 have h:=Own.start [] w0
 refine Own.new' h fun r1 w2 _ _ h=>?_
 refine Own.new' h fun r3 w4 _ _ h=>?_
 refine Own.ld h 1 rfl ks rfl ?_
 refine qjz (k:=k) (v:=v) hs (fun h=>absurd h R) (fun _ h=>absurd (by omega) h) fun _ _ w7 f7=>?_
 have h:=h.frame0 f7
 refine Own.new' h fun r8 w9 _ _ h=>?_
 refine Own.sz h 0 rfl (wkV (wkX k v pb t)) fun ad h _=>?_
 refine cond_false rfl ?_
 refine Own.ld h 1 rfl vs rfl ?_
 refine Own.ld h 0 rfl (v:Int) rfl ?_
 refine cond_false (by rw [ac,U]; simp) ?_
 refine Own.ldA h 0 rfl (wkX k v pb t) rfl ?_
 have u:=hT.now0 h
 have C:=qbE hk h
 have E:=qbE hv h
 have g:Sg F w0 ad F (bks _):=g.next0 h (.refl [] _)
 have h:=qam h (.refl _)
 refine qdp ?_
 unfold qb5
 refine Own.new' h fun q1 aq _ _ h=>?_
 have h:=Own.drew h
 refine Own.ld h 0 rfl (pW pb) rfl ?_
 refine Own.ld h 0 rfl (pW pb) rfl ?_
 refine Own.ld h 0 rfl t rfl ?_
 refine TW.room (u.now h) ?_
 refine qar (h.cell 0 rfl rfl) (h.cell 0 rfl rfl) ?_
 refine TW.root (u.now h) fun ar A=>?_
 have G:=(u.now h).frame0 A
 have I:=(qaF C h).frame0 A
 have J:=(qaF E h).frame0 A
 have g:=g.next0 h A
 have h:=qaK h A fun _ _ h=>nomatch h
 refine cond_true (qoT (by omega) V (by omega)) ?_
 refine qbm (lb:=[.pointer (pW r8),.pointer (pW r1),.pointer (pW r3)]) rfl (by kernel_rfl) ?_
 refine qlf ?_
 unfold qhI
 refine Own.ldA h 1 rfl (wkX k v pb t) rfl ?_
 refine Own.ld h 3 rfl ks rfl ?_
 refine Own.ld h 2 rfl vs rfl ?_
 refine qpz O Q G I J ab fun F' w' ae f' n'=>?_
 exact kk F' w' ae.drop0 (g.tot.trans' f' g.new) fun b hb=>(n' b hb).elim (g.new b) fun h1=>.inr (zL g.tot.size h1)
theorem qtK {ks:Sl} {key:Key} {f f2:Nat} {K:Int->WP} (I:IsB key) (J:CapsOk k v) (hs:shp t=((k:Int),(v:Int))) (O:k≠0) (V:key.length=k) (hT:TW dbk pb FD D j w0 Y F M) (hk:RdB (Zo FD Y F) w0 ks key)
  (ab:0<=(rootM M t).2.2/\(rootM M t).2.2<=1000000) (ac:2*(rootM M t).2.2.toNat+1<=M.free.length) (E:(getN D k v key M f2 (rootM M t).1).2=0) (G:cutSafe D k v key f M (rootM M t).1)
  (kk:∀ F' w',TW dbk pb FD D j w' Y F' (removeN D k v t key f M).2->Fr F w0 w'->(∀ b∈F',b∈F\/w0.heap.size<=b)->K (removeN D k v t key f M).1 w') :
  cW 21 [.pointer (pW pb),.i t,ks.v] [.one .i] w0 K:=by
 refine qom ?_
 unfold qlP
 have ah:=hk.1
 have g:=Sg.start F w0
 have h:=Own.start [] w0
 refine Own.new' h fun r1 w2 _ _ h=>?_
 refine Own.ld h 0 rfl ks rfl ?_
 refine qjz (k:=k) (v:=v) hs (fun h=>absurd h O) (fun _ h=>absurd (by omega) h) fun _ _ w7 f7=>?_
 have h:=h.frame0 f7
 refine Own.new' h fun r8 w9 _ _ h=>?_
 refine Own.sz h 0 rfl (wkV (wkX k v pb t)) fun al h _=>?_
 refine cond_false rfl ?_
 refine Own.ld h 1 rfl ks rfl ?_
 refine qtn (f:=f2) I hs O V (hT.now0 h) (qbE hk h) (by rw [E]; decide) fun s am _ A=>?_
 rw [E]
 have u:=(hT.now0 h).frame0 A
 have Q:=(qbE hk h).frame0 A
 have g:=g.next0 h A
 have h:=qaK h A fun _ _ h=>nomatch h
 refine cond_false rfl ?_
 refine Own.ldA h 0 rfl (wkX k v pb t) rfl ?_
 refine qdp ?_
 unfold qb5
 refine Own.new' h fun q1 an _ _ h=>?_
 have h:=Own.drew h
 refine Own.ld h 0 rfl (pW pb) rfl ?_
 refine Own.ld h 0 rfl (pW pb) rfl ?_
 refine Own.ld h 0 rfl t rfl ?_
 refine TW.room (u.now h) ?_
 refine qar (h.cell 0 rfl rfl) (h.cell 0 rfl rfl) ?_
 refine TW.root (u.now h) fun ao C=>?_
 have R:=(u.now h).frame0 C
 have U:=(qaF Q h).frame0 C
 have g:=g.next0 h C
 have h:=qaK h C fun _ _ h=>nomatch h
 refine cond_true (qoT (by omega) ab (by omega)) ?_
 refine qbm (lb:=[.pointer (pW r8),.pointer (pW r1)]) rfl (by kernel_rfl) ?_
 refine qlg ?_
 unfold qh4
 refine Own.ldA h 1 rfl (wkX k v pb t) rfl ?_
 refine Own.ld h 2 rfl ks rfl ?_
 refine qqo I J R U G fun F' w' ad f' n'=>?_
 exact kk F' w' ad.drop0 (g.tot.trans' f' g.new) fun b hb=>(n' b hb).elim (g.new b) fun h1=>.inr (zL g.tot.size h1)
end
end Go.Proofs.YtmmkegapckbomaaGreatDoor
end
section
namespace Go.Proofs.YtmmkegapckbomaaGreatDoor
open Go Go.Pt List
open Classical
def getP (key:Key) (L:Prs):Option Key:=(L.find? fun x=>decide (x.1=key)).map (·.2)
theorem qjo {key:Key} {A B:Prs}:getP key (A++B)=match getP key A with | some v=>some v | none=>getP key B:=by
 unfold getP
 rw [List.find?_append]
 cases A.find? (fun x=>decide (x.1=key)) <;> rfl
theorem qej {key:Key} {L:Prs} (h:∀ x∈L,x.1≠key):getP key L=none:=by
 unfold getP
 rw [List.find?_eq_none.2 fun x u=>by simp [h x u]]
 rfl
theorem qmb {key:Key} {L:Prs} (h:key∈keysP L):∃ v,getP key L=some v:=by
 unfold getP
 obtain ⟨x,u,rfl⟩:=mem_map.1 h
 cases e:L.find? (fun y=>decide (y.1=x.1)) with
 | none=>exact absurd (List.find?_eq_none.1 e x u) (by simp)
 | some y=>exact ⟨y.2,rfl⟩
section
variable {D:DiskM} {M M':PgM} {k v:Nat} {key:Key}
theorem Has.get:∀ {h:Nat} {s:Seg},Has D M k v h s->s.page≠0->M.Wf->M.over=false->getN D k v key M (h+1) s.page=match getP key s.prs with | some x=>(x,0) | none=>([],5)
 | 0,s,hs,hp,hW,ho=>by
  obtain ⟨h1,h2,U,h4⟩:=hs
  have hl:loadN D M k v s.page=(lfOf s.prs,0):=U.load h4
  have V:SortP s.prs:=U.right.2.2.1
  have ai:(lfOf s.prs).keys=keysP s.prs:=rfl
  unfold getN
  rw [if_neg hp,hl]
  dsimp only
  rw [if_neg (fun h=>h rfl),if_pos (show (lfOf s.prs).leaf=true from rfl),ai]
  by_cases hm:(keysP s.prs)[placeV (keysP s.prs) key]?=some key
  ·rw [if_pos hm]
   have hi:placeV (keysP s.prs) key<s.prs.length:=by
    have:=(zP.1 hm).1
    simpa using this
   have aj:=qbI (k:=key) V
   have aa:s.prs=s.prs.take (placeV (keysP s.prs) key)++s.prs[placeV (keysP s.prs) key]::s.prs.drop (placeV (keysP s.prs) key+1):=by
    rw [getElem_cons_drop,xD]
   have I:s.prs[placeV (keysP s.prs) key].1=key:=by
    rw [zQ,zA hi] at hm
    simpa using hm
   have hg:getP key s.prs=some s.prs[placeV (keysP s.prs) key].2:=by
    conv=>lhs; rw [aa]
    rw [qjo,qej fun x u=>qe2 (aj.1 x u)]
    unfold getP
    rw [List.find?_cons_of_pos (by simp [I])]
    rfl
   rw [hg]
   show ((List.map (·.2) s.prs).getD _ [],(0:Int))=_
   rw [yQ,zQ,zA hi]
   rfl
  ·rw [if_neg hm]
   have hn:key∉keysP s.prs:=fun h=>hm ((qbN V).2 h)
   rw [qej fun x u e=>hn (by rw [<- e]; exact zY u)]
 | h+1,⟨p,n,L,P⟩,⟨R,h0,h1,h2,U,h4,h5,h6,h7⟩,hp,hW,ho=>by
  dsimp only at h1 h2 U h5 hp
  subst h1 h2 U
  have hl:loadN D M k v p=(inOf R,0):=h4.load h5
  obtain ⟨A,e,B,J,hA,I,ak,K⟩:=qbB (key:=key) h0 h6
  have O:(inOf R).kids.getD (kidV (inOf R).keys key) 0=e.2.page:=K
  have al:e∈R:=by rw [J]; simp
  obtain ⟨Q,_⟩:=h7 e al
  have az:=qbq hW (Q.used ho e.2.page Q.mem)
  unfold getN
  rw [if_neg hp,hl]
  dsimp only
  rw [if_neg (fun h=>h rfl),if_neg (show ¬ (inOf R).leaf=true from fun e=>nomatch e),O,Q.get (by omega) hW ho]
  have G:=h6
  rw [J] at G
  have C:=G.mid
  have E:R.flatMap (·.2.prs)=A.flatMap (·.2.prs)++(e.2.prs++B.flatMap (·.2.prs)):=by rw [J,qaD]
  have am:∀ x∈A.flatMap (·.2.prs),x.1≠key:=fun x u=>by
   obtain ⟨a,ha,u⟩:=yJ.1 u
   exact qe2 (qa5 (C.1 a ha x u) I)
  have an:∀ x∈B.flatMap (·.2.prs),x.1≠key:=fun x u=>by
   obtain ⟨b,hb,u⟩:=yJ.1 u
   exact (qe2 (qa5 (ak b hb) ((C.2 b hb).2.2 x u))).symm
  rw [E,qjo,qej am,qjo,qej an]
  cases getP key e.2.prs <;> rfl
theorem Has.safe (hc:CapsOk k v):∀ (h:Nat) (M:PgM) (s:Seg),Has D M k v h s->M.Wf->M.over=false->s.pages.Nodup->key∈keysP s.prs->2*h<=M.free.length->cutSafe D k v key (h+1) M s.page
 | 0,M,s,hs,hW,ho,ab,J,hf=>fun n hn hl=>by
  have ac:loadN D M k v s.page=(lfOf s.prs,0):=hs.2.2.1.load hs.2.2.2
  rw [ac] at hn
  cases hn
  cases hl
 | h+1,M,⟨p,n,L,P⟩,⟨G,h0,h1,h2,h3,h4,h5,h6,h7⟩,hW,ho,ab,J,hf=>fun n' hn hl=>by
  dsimp only at h1 h2 h3 h5 ab J hn
  subst h1 h2 h3
  have au:loadN D M k v p=(inOf G,0):=h4.load h5
  rw [au] at hn
  cases hn
  obtain ⟨A,e,B,E,hA,av,aw,ad⟩:=qbB (key:=key) h0 h6
  have ae:(inOf G).kids.getD (kidV (inOf G).keys key) 0=e.2.page:=ad
  have ax:kidV (inOf G).keys key=A.length:=hA.symm
  have ay:e∈G:=by rw [E]; simp
  obtain ⟨ak,az⟩:=h7 e ay
  have af:G.flatMap (·.2.pages)=A.flatMap (·.2.pages)++(e.2.pages++B.flatMap (·.2.pages)):=by rw [E,qaD]
  have Q:G.flatMap (·.2.prs)=A.flatMap (·.2.prs)++(e.2.prs++B.flatMap (·.2.prs)):=by rw [E,qaD]
  have R:(A.flatMap (·.2.pages)++(e.2.pages++B.flatMap (·.2.pages))).Nodup:=by rw [<- af]; exact (nodup_cons.1 ab).2
  have U:e.2.pages.Nodup:=(yL.1 (yL.1 R).2.1).1
  have V:=h6
  rw [E] at V
  have K:=V.mid
  have O:key∈keysP e.2.prs:=by
   obtain ⟨x,C,rfl⟩:=mem_map.1 J
   rw [Q] at C
   rcases zD.1 C with C | C
   ·obtain ⟨a,ha,C⟩:=yJ.1 C
    exact absurd (qa5 (K.1 a ha x C) av) qax
   rcases zD.1 C with C | C
   ·exact zY C
   ·obtain ⟨b,I,C⟩:=yJ.1 C
    exact absurd (qa5 (aw b I) ((K.2 b I).2.2 x C)) qax
  obtain ⟨N1,n1,M1,Re,aX,ec,aA,al,st,aZ,a0⟩:=qk4 hc h M e.2 ak hW ho U O (by omega)
  rw [ae]
  refine ⟨ak.safe hc h M e.2 hW ho U O (by omega),fun N M2 aa aQ ny ag=>?_⟩
  rw [ec] at aa
  cases aa
  have aB:N1.leaf=decide (h=0):=by
   cases h with
   | zero=>rw [al.1]; rfl
   | succ h=>obtain ⟨a1,_,h',_⟩:=al; rw [h']; rfl
  have u:∀ b,(b∈A\/b∈B)->(inOf G).kids.getD (sideOf (kidV (inOf G).keys key)) 0=b.2.page->ny.leaf=N1.leaf:=fun b I aC=>by
   rw [aC] at ag
   have aD:b∈G:=by rw [E]; rcases I with I | I <;> simp [I]
   obtain ⟨am,_⟩:=h7 b aD
   have an:Has D M1 k v h b.2:=am.frame fun x C=>(st.rest x (am.used ho x C) fun hm=>by
    have ao:x∈e.2.pages:=by rw [aA]; exact zN _ hm
    have hd:=yL.1 R
    have aE:=yL.1 hd.2.1
    rcases I with I | I
    ·exact hd.2.2 x (yJ.2 ⟨b,I,C⟩) x (zH _ ao) rfl
    ·exact aE.2.2 x ao x (yJ.2 ⟨b,I,C⟩) rfl).1
   obtain ⟨N2,R2,ac,_,_,ap,_⟩:=an.load
   rw [ac] at ag
   cases ag
   rw [ap,aB]
  have h2:=h4.right.innerTwo.1
  rw [ax] at u
  have aF:(inOf G).kids=G.map (·.2.page):=rfl
  rw [aF] at u
  by_cases hA0:A.length>0
  ·have hs:sideOf A.length=A.length-1:=by unfold sideOf; rw [if_pos hA0]
   obtain ⟨A',b,rfl⟩:∃ A' b,A=A'++[b]:=⟨A.dropLast,A.getLast (length_pos_iff.1 hA0),(vA _).symm⟩
   refine u b (.inl (by simp)) ?_
   rw [hs,E]
   simp [yQ]
  ·have hs:sideOf A.length=A.length+1:=by unfold sideOf; rw [if_neg hA0]
   have aG:A=[]:=eq_nil_of_length_eq_zero (by omega)
   subst aG
   cases B with
   | nil=>rw [E] at h2; simp at h2
   | cons b B=>
    refine u b (.inr (by simp)) ?_
    rw [hs,E]
    rfl
theorem TreeIs.get {t:Int} {L:Prs} {P:List Int} (A:TreeIs D M k v t L P) (C:M.Wf) (E:M.over=false):getN D k v key M (rootM M t).2.2.toNat (rootM M t).1=match getP key L with | some x=>(x,0) | none=>([],5):=by
 rcases A with ⟨e0,rfl,rfl⟩ | ⟨h,n,p,u,G,I⟩
 ·rw [e0]; rfl
 ·rw [G]
  dsimp only
  rw [zJ]
  exact I.get u C E
theorem TreeIs.safe (C:CapsOk k v) {t:Int} {L:Prs} {P:List Int} (E:TreeIs D M k v t L P) (u:key∈keysP L) (G:M.Wf) (I:M.over=false) (J:P.Nodup) (A:2*(rootM M t).2.2.toNat+1<=M.free.length):cutSafe D k v key (rootM M t).2.2.toNat M (rootM M t).1:=by
 rcases E with ⟨e0,rfl,rfl⟩ | ⟨h,n,p,K,O,Q⟩
 ·cases u
 ·rw [O] at A ⊢
  dsimp only at A ⊢
  rw [zJ] at A ⊢
  exact Q.safe C h M _ G I J u (by omega)
theorem qiF {t:Int} {f:Nat} {val:Key} {M':PgM} (h:insertN D k v t key val f M=(0,M')):(rootM M t).1≠0->(putN D k v key val f M (rootM M t).1).1.2≠-1:=fun A u=>by
 unfold insertN at h
 rw [if_neg A] at h
 unfold growN at h
 rw [if_pos (by rw [u]; decide),u] at h
 cases h
end
section
section
variable {D:DiskM} {M:PgM} {k v:Nat} {frm:Key}
abbrev CFr:=NodeM×Int
noncomputable def pushV (D:DiskM) (k v:Nat) (M:PgM) (pick:NodeM->Int):Nat->Int->Option (List CFr)
 | 0,p=>none
 | f+1,p=>if (loadN D M k v p).2≠0 then none
  else if (loadN D M k v p).1.leaf then some [((loadN D M k v p).1,pick (loadN D M k v p).1)]
  else (pushV D k v M pick f ((loadN D M k v p).1.kids.getD (pick (loadN D M k v p).1).toNat 0)).map (((loadN D M k v p).1,pick (loadN D M k v p).1)::·)
def RestU (D:DiskM) (M:PgM) (k v:Nat) (frm:Key):Nat->List CFr->Prs->Prop
 | 0,C,T=>∃ (u:Prs) (i:Nat),C=[(lfOf u,(i:Int))]/\i<=u.length/\SortP u/\T=u.drop i
 | h+1,C,T=>∃ (A:List Ent) (i:Nat) (E:List CFr) (T1:Prs),C=(inOf A,(i:Int))::E/\i<A.length/\(∀ e∈A.drop (i+1),Has D M k v h e.2/\∀ x∈e.2.prs,¬ KLt x.1 frm)/\RestU D M k v frm h E T1/\T=T1++(A.drop (i+1)).flatMap (·.2.prs)
def lowV (n:NodeM) (frm:Key):Int:=if n.leaf then placeV n.keys frm else kidV n.keys frm
noncomputable def fromP (frm:Key) (L:Prs):Prs:=L.filter fun x=>decide (¬ KLt x.1 frm)
theorem qg1 {L:Prs} (h:∀ x∈L,¬ KLt x.1 frm):fromP frm L=L:=filter_eq_self.2 fun x u=>zZ (h x u)
theorem qj5 {L:Prs} (h:∀ x∈L,KLt x.1 frm):fromP frm L=[]:=filter_eq_nil_iff.2 fun x u=>by simpa using h x u
theorem qhY {A B:Prs}:fromP frm (A++B)=fromP frm A++fromP frm B:=xB ..
theorem qk2 {a b:Key} (h:KLe b a):¬ KLt a b:=h
theorem qli:∀ {h:Nat} {s:Seg},Has D M k v h s->∃ U,pushV D k v M (fun n=>lowV n frm) (h+1) s.page=some U/\RestU D M k v frm h U (fromP frm s.prs)
 | 0,s,hs=>by
  obtain ⟨h1,h2,V,h4⟩:=hs
  have hl:loadN D M k v s.page=(lfOf s.prs,0):=V.load h4
  have aa:SortP s.prs:=V.right.2.2.1
  have ab:=qhF (keysP s.prs) frm
  rw [zK] at ab
  have ac:=qbI (k:=frm) aa
  unfold pushV
  rw [hl,if_neg (fun h=>h rfl),if_pos (show (lfOf s.prs).leaf=true from rfl)]
  refine ⟨_,rfl,s.prs,placeV (keysP s.prs) frm,?_,ab,aa,?_⟩
  ·show [(lfOf s.prs,lowV (lfOf s.prs) frm)]=_
   rw [lowV,if_pos (show (lfOf s.prs).leaf=true from rfl)]
   rfl
  ·conv=>lhs; rw [<- xD (placeV (keysP s.prs) frm) s.prs]
   rw [qhY,qj5 ac.1,xH,qg1 fun x G=>qk2 (ac.2 x G)]
 | h+1,⟨p,n,L,P⟩,⟨u,h0,h1,h2,V,h4,h5,h6,h7⟩=>by
  dsimp only at h1 h2 V h5
  subst h1 h2 V
  have hl:loadN D M k v p=(inOf u,0):=h4.load h5
  obtain ⟨A,e,B,E,hA,aj,ad,K⟩:=qbB (key:=frm) h0 h6
  have O:(inOf u).kids.getD (kidV (inOf u).keys frm) 0=e.2.page:=K
  have Q:kidV (inOf u).keys frm=A.length:=hA.symm
  have ak:e∈u:=by rw [E]; simp
  obtain ⟨al,_⟩:=h7 e ak
  have J:=h6
  rw [E] at J
  have C:=J.mid
  obtain ⟨U,e1,e2⟩:=qli al
  have ae:lowV (inOf u) frm=(A.length:Int):=by
   rw [lowV,if_neg (show ¬ (inOf u).leaf=true from fun e=>nomatch e),Q]
  unfold pushV
  rw [hl,if_neg (fun h=>h rfl),if_neg (show ¬ (inOf u).leaf=true from fun e=>nomatch e)]
  show ∃ U,Option.map (((inOf u),lowV (inOf u) frm)::·) (pushV D k v M (fun n=>lowV n frm) (h+1) ((inOf u).kids.getD (lowV (inOf u) frm).toNat 0))=some U/\_
  rw [ae,zJ,<- Q,O,e1,Q]
  have I:u.drop (A.length+1)=B:=by rw [E]; simp
  refine ⟨_,rfl,u,A.length,U,_,rfl,by rw [E]; simp,fun b R=>?_,e2,?_⟩
  ·rw [I] at R
   exact ⟨(h7 b (by rw [E]; simp [R])).1,fun x G g=>(C.2 b R).2.2 x G (qau g (ad b R))⟩
  ·rw [I]
   show fromP frm (u.flatMap (·.2.prs))=_
   conv=>lhs; rw [E]
   rw [yP,yG,qhY,qhY,qj5 fun x G=>?_,xH,qg1 (L:=B.flatMap _) fun x G=>?_]
   ·obtain ⟨b,R,G⟩:=yJ.1 G
    exact fun g=>(C.2 b R).2.2 x G (qau g (ad b R))
   ·obtain ⟨a,ha,G⟩:=yJ.1 G
    exact qa5 (C.1 a ha x G) aj
end
end
section
section
variable {D:DiskM} {M:PgM} {k v:Nat} {frm:Key}
noncomputable def nextV (D:DiskM) (k v:Nat) (M:PgM) (pick:NodeM->Int) (step:Int->Int):Nat->List CFr->Option (List CFr)
 | 0,_=>none
 | _+1,[]=>none
 | h+1,(n,i)::A=>match nextV D k v M pick step h A with
  | some u=>some ((n,i)::u)
  | none=>if 0<=step i/\step i<n.kids.length then (pushV D k v M pick (h+1) (n.kids.getD (step i).toNat 0)).map ((n,step i)::·) else none
def DoneU:Nat->List CFr->Prop
 | 0,A=>∃ u:Prs,A=[(lfOf u,(u.length:Int))]
 | _+1,[]=>False
 | h+1,_::C=>DoneU h C
theorem qo9:∀ {h:Nat} {E:List CFr} {T:Prs},RestU D M k v frm h E T->DoneU h E->(nextV D k v M (fun n=>lowV n frm) (fun i=>i+1) h E=none/\T=[])\/∃ G,nextV D k v M (fun n=>lowV n frm) (fun i=>i+1) h E=some G/\RestU D M k v frm h G T
 | 0,E,T,⟨K,i,e,hi,hs,I⟩,⟨J,e'⟩=>by
  rw [e] at e'
  have e1:=(vB (vC e').1)
  have e2:keysP K=keysP J:=congrArg NodeM.keys e1.1
  have e3:=congrArg List.length e2
  rw [zK,zK] at e3
  have e4:=Int.ofNat.inj e1.2
  exact .inl ⟨rfl,by rw [I]; exact vE (by omega)⟩
 | h+1,E,T,⟨C,i,up,T1,e,hi,O,hu,I⟩,u=>by
  subst e
  have u:DoneU h up:=u
  rcases qo9 hu u with ⟨Q,rfl⟩ | ⟨R,Q,h2⟩
  ·have U:(inOf C).kids.length=C.length:=by show (C.map (·.2.page)).length=_; rw [zK]
   have ej:((i:Int)+1).toNat=i+1:=by omega
   unfold nextV
   rw [Q]
   dsimp only
   rw [U,ej]
   by_cases hlt:i+1<C.length
   ·rw [if_pos ⟨by omega,by omega⟩]
    have V:(inOf C).kids.getD (i+1) 0=C[i+1].2.page:=by
     show (C.map (·.2.page)).getD _ 0=_
     rw [yQ,zQ,zA hlt]
     rfl
    have A:C.drop (i+1)=C[i+1]::C.drop (i+2):=zX hlt
    obtain ⟨q1,q2⟩:=O C[i+1] (by rw [A]; exact mem_cons_self ..)
    obtain ⟨aa,p1,p2⟩:=qli (frm:=frm) q1
    rw [qg1 q2] at p2
    rw [V,p1]
    refine .inr ⟨_,rfl,C,i+1,aa,_,rfl,hlt,fun e he=>O e (by rw [A]; exact zN _ he),p2,?_⟩
    rw [I,xH,A,yG]
   ·rw [if_neg (by omega)]
    exact .inl ⟨rfl,by rw [I,vE (by omega)]; rfl⟩
  ·unfold nextV
   rw [Q]
   exact .inr ⟨_,rfl,C,i,R,T1,rfl,hi,O,h2,I⟩
end
end
section
section
variable {D:DiskM} {M:PgM} {k v:Nat} {to:Key}
def highV (n:NodeM) (to:Key):Int:=if n.leaf then (kidV n.keys to:Int)-1 else kidV n.keys to
def RestD (D:DiskM) (M:PgM) (k v:Nat) (to:Key):Nat->List CFr->Prs->Prop
 | 0,C,T=>∃ (u:Prs) (i:Nat),C=[(lfOf u,(i:Int)-1)]/\i<=u.length/\SortP u/\T=(u.take i).reverse
 | h+1,C,T=>∃ (A:List Ent) (i:Nat) (E:List CFr) (T1:Prs),C=(inOf A,(i:Int))::E/\i<A.length/\(∀ e∈A.take i,Has D M k v h e.2/\∀ x∈e.2.prs,¬ KLt to x.1)/\RestD D M k v to h E T1/\T=T1++((A.take i).flatMap (·.2.prs)).reverse
noncomputable def toP (to:Key) (L:Prs):Prs:=L.filter fun x=>decide (¬ KLt to x.1)
theorem qkQ {L:Prs} (h:∀ x∈L,¬ KLt to x.1):toP to L=L:=filter_eq_self.2 fun x u=>zZ (h x u)
theorem qnc {L:Prs} (h:∀ x∈L,KLt to x.1):toP to L=[]:=filter_eq_nil_iff.2 fun x u=>by simpa using h x u
theorem qlq {A B:Prs}:toP to (A++B)=toP to A++toP to B:=xB ..
theorem qlQ {l:Prs} {k:Key} (u:SortP l):(∀ x∈l.take (kidV (keysP l) k),KLe x.1 k)/\∀ x∈l.drop (kidV (keysP l) k),KLt k x.1:=by
 refine ⟨fun x h=>qko (l:=keysP l) ?_,fun x h=>qiS (l:=keysP l) u ?_⟩
 ·rw [<- xO]; exact zY h
 ·rw [<- xP]; exact zY h
theorem qh3:∀ {h:Nat} {s:Seg},Has D M k v h s->∃ U,pushV D k v M (fun n=>highV n to) (h+1) s.page=some U/\RestD D M k v to h U (toP to s.prs).reverse
 | 0,s,hs=>by
  obtain ⟨h1,h2,h3,h4⟩:=hs
  have hl:loadN D M k v s.page=(lfOf s.prs,0):=h3.load h4
  have ab:SortP s.prs:=h3.right.2.2.1
  have ac:=qdL (keysP s.prs) to
  rw [zK] at ac
  have ad:=qlQ (k:=to) ab
  unfold pushV
  rw [hl,if_neg (fun h=>h rfl),if_pos (show (lfOf s.prs).leaf=true from rfl)]
  refine ⟨_,rfl,s.prs,kidV (keysP s.prs) to,?_,ac,ab,?_⟩
  ·show [(lfOf s.prs,highV (lfOf s.prs) to)]=_
   rw [highV,if_pos (show (lfOf s.prs).leaf=true from rfl)]
   rfl
  ·congr 1
   conv=>lhs; rw [<- xD (kidV (keysP s.prs) to) s.prs]
   rw [qlq,qnc ad.2,xG,qkQ fun x E=>ad.1 x E]
 | h+1,⟨p,n,L,P⟩,⟨u,h0,h1,h2,h3,h4,h5,h6,h7⟩=>by
  dsimp only at h1 h2 h3 h5
  subst h1 h2 h3
  have hl:loadN D M k v p=(inOf u,0):=h4.load h5
  obtain ⟨A,e,B,C,hA,aj,ak,O⟩:=qbB (key:=to) h0 h6
  have Q:(inOf u).kids.getD (kidV (inOf u).keys to) 0=e.2.page:=O
  have R:kidV (inOf u).keys to=A.length:=hA.symm
  have al:e∈u:=by rw [C]; simp
  obtain ⟨am,_⟩:=h7 e al
  have J:=h6
  rw [C] at J
  have G:=J.mid
  obtain ⟨U,e1,e2⟩:=qh3 am
  have ae:highV (inOf u) to=(A.length:Int):=by
   rw [highV,if_neg (show ¬ (inOf u).leaf=true from fun e=>nomatch e),R]
  unfold pushV
  rw [hl,if_neg (fun h=>h rfl),if_neg (show ¬ (inOf u).leaf=true from fun e=>nomatch e)]
  show ∃ U,Option.map (((inOf u),highV (inOf u) to)::·) (pushV D k v M (fun n=>highV n to) (h+1) ((inOf u).kids.getD (highV (inOf u) to).toNat 0))=some U/\_
  rw [ae,zJ,<- R,Q,e1,R]
  have I:u.take A.length=A:=by rw [C]; simp
  have K:∀ a∈A,∀ x∈a.2.prs,¬ KLt to x.1:=fun a ha x E g=>aj (qau g (G.1 a ha x E))
  refine ⟨_,rfl,u,A.length,U,_,rfl,by rw [C]; simp,fun b V=>?_,e2,?_⟩
  ·rw [I] at V
   exact ⟨(h7 b (by rw [C]; simp [V])).1,K b V⟩
  ·rw [I]
   show (toP to (u.flatMap (·.2.prs))).reverse=_
   conv=>lhs; rw [C]
   rw [yP,yG,qlq,qlq,qnc (L:=B.flatMap _) fun x E=>?_,xG,qkQ (L:=A.flatMap _) fun x E=>?_,reverse_append]
   ·obtain ⟨a,ha,E⟩:=yJ.1 E
    exact K a ha x E
   ·obtain ⟨b,V,E⟩:=yJ.1 E
    exact qa5 (ak b V) ((G.2 b V).2.2 x E)
end
end
end Go.Proofs.YtmmkegapckbomaaGreatDoor
end
section
set_option maxRecDepth 100000
namespace Go.Proofs.YtmmkegapckbomaaGreatDoor
open Go Go.Pt
@[reducible] def quL:List Cell:=[Cell.int IntKind.u32,Cell.int IntKind.u32,Cell.int IntKind.u32]
@[reducible] def qaU:List Cell:=[Cell.bool,Cell.slice,Cell.slice,Cell.slice]
@[reducible] def qsZ:List Cell:=[Cell.bool,Cell.slice,Cell.slice,Cell.slice,Cell.int IntKind.i64]
def qhV (p:Option Addr) (t:Int) (from_:Sl) (to:Sl) (down:Bool) (most:Int) (K:Sl->WP) (w:World):Prop:=cW 31 ([.pointer p,.i t,from_.v,to.v,.bool down]) ([.one .ptr]) w fun b c=>join (Sl) (fun d=>loop (Sl) (fun e f g=>cond (decide ((↑f.len:Int)<most)) (cW 32 ([.pointer b]) ([.agg [.slice,.slice],.one .bool]) g fun (h:(Sl×Sl)×Bool) i=>new (Obj.cells #[.slice none 0 0,.slice none 0 0] 62) i fun j k=>st ⟨j,0,none⟩ ([h.fst.fst.v,h.fst.snd.v]) k fun l=>cond (!h.snd) (d f l) (ldA ([.slice,.slice]) ⟨j,0,none⟩ l fun (m:Sl×Sl)=>new (Obj.cells #[m.fst.v,m.snd.v] 62) l fun n o=>run [.one .slice] ((Builtin.append_ (#[52,52]) 52 (#[f.v,.slice (pW n) 1 1])).run Tryz.prog o) fun q r=>e q r)) (d f g)) ({ a:=none,len:=0,cap:=0 }) c) fun s u=>K s u
theorem qk5 {p t from_ to down most w K} (hF:qhV p t from_ to down most K w):cW 26 [.pointer p,.i t,from_.v,to.v,.bool down,.i most] [.one .slice] w K:=qad (an:=[.n,.n,.n,.j [(13,.one .slice)],.l [(13,.one .slice)],.n,.n,.n,.n,.n,.n]) Tryz.func26 hF
def qgw (p:Option Addr) (t:Int) (from_:Sl) (to:Sl) (down:Bool) (K:((Option Addr))->WP) (w:World):Prop:=cW 63 ([.i t]) ([.one .i,.one .i]) w fun (b:Int×Int) c=>cW 68 ([from_.v]) ([.one .slice]) c fun d e=>cW 68 ([to.v]) ([.one .slice]) e fun f g=>new (Obj.cells #[.pointer p,.i b.fst,.i b.snd,d.v,f.v,.slice none 0 0,Value.nilFunc,Value.nilFunc,Value.nilFunc] 139) g fun h i=>st ⟨h,6,none⟩ ([Value.func (Fn.func 69) #[.pointer (pW h)] #[]]) i fun j=>st ⟨h,7,none⟩ ([Value.func (Fn.func 70) #[.pointer (pW h)] #[]]) j fun k=>st ⟨h,8,none⟩ ([Value.func (Fn.func 71) #[.pointer (pW h)] #[]]) k fun l=>join (PUnit) (fun m=>cond down (st ⟨h,6,none⟩ ([Value.func (Fn.func 72) #[.pointer (pW h)] #[]]) l fun n=>st ⟨h,7,none⟩ ([Value.func (Fn.func 73) #[.pointer (pW h)] #[]]) n fun o=>st ⟨h,8,none⟩ ([Value.func (Fn.func 74) #[.pointer (pW h)] #[]]) o fun q=>m () q) (m () l)) fun (r:PUnit) s=>join (PUnit) (fun u=>cW 19 ([.pointer p,.i t]) ([.agg quL]) s fun (v:Int×Int×Int) x=>join (Bool) (fun y=>cond (decide (b.fst>0)) (y (!v.fst==0) x) (y false x)) fun (z:Bool) A=>cond z (cW 75 ([.pointer (pW h),.u v.fst]) [] A fun (B:PUnit) C=>u () C) (u () A)) fun (D:PUnit) E=>K (pW h) E
theorem qki {p t from_ to down w K} (hF:qgw p t from_ to down K w):cW 31 [.pointer p,.i t,from_.v,to.v,.bool down] [.one .ptr] w K:=qad (an:=[.n,.n,.n,.n,.j [],.n,.j [],.n,.j [(69,.one .bool)],.n]) Tryz.func31 hF
def qcQ (c:Option Addr) (K:((Sl×Sl)×Bool)->WP) (w:World):Prop:=new (Obj.cells #[.slice none 0 0,.slice none 0 0] 62) w fun b d=>join (PUnit) (fun e=>loop (PUnit) (fun f (g:PUnit) h=>nn c fun i=>ld .slice ⟨i.block,i.off+5,none⟩ h fun j=>cond (decide ((↑j.len:Int)>0)) (nn c fun k=>ld .slice ⟨k.block,k.off+5,none⟩ h.drew fun l=>nn c fun m=>ld .slice ⟨m.block,m.off+5,none⟩ h.drew fun n=>idx l (IntKind.wrap .i64 ((↑n.len:Int)-1)) 5 fun o=>join (Bool) (fun p=>ld .bool o (World.drew h.drew) fun (q:Bool)=>cond q (ld .i ⟨o.block,o.off+4,none⟩ (World.drew h.drew) fun (r:Int)=>cond (decide (r>=0)) (ld .i ⟨o.block,o.off+4,none⟩ (World.drew h.drew) fun (s:Int)=>ld .slice (⟨(Addr.add o 0).block,(Addr.add o 0).off+1,none⟩) (World.drew h.drew) fun t=>p (decide (s<(↑t.len:Int))) (World.drew h.drew)) (p false (World.drew h.drew))) (p false (World.drew h.drew))) fun (u:Bool) v=>cond u (ld .slice (⟨(Addr.add o 0).block,(Addr.add o 0).off+1,none⟩) v.drew fun x=>ld .i ⟨o.block,o.off+4,none⟩ v.drew fun (y:Int)=>idx x y 1 fun z=>ld .slice z v.drew fun A=>ld .slice (⟨(Addr.add o 0).block,(Addr.add o 0).off+2,none⟩) v.drew fun B=>ld .i ⟨o.block,o.off+4,none⟩ v.drew fun (C:Int)=>idx B C 1 fun D=>ld .slice D v.drew fun E=>nn c fun F=>ld .any ⟨F.block,F.off+6,none⟩ (World.drew v.drew) fun (G:Value)=>ld .i ⟨o.block,o.off+4,none⟩ (World.drew v.drew) fun (H:Int)=>callV Tryz.prog G ([.i H]) ([.one .i]) (World.drew v.drew) fun (I:Int) J=>st ⟨o.block,o.off+4,none⟩ ([.i I]) J fun L=>nn c fun M=>ld .any ⟨M.block,M.off+8,none⟩ L fun (N:Value)=>callV Tryz.prog N ([A.v]) ([.one .bool]) L fun (O:Bool) P=>cond O (e () P) (cW 68 ([A.v]) ([.one .slice]) P fun Q R=>cW 68 ([E.v]) ([.one .slice]) R fun S T=>st ⟨b,0,none⟩ ([Q.v,S.v]) T fun U=>ldA ([.slice,.slice]) ⟨b,0,none⟩ U fun (V:Sl×Sl)=>K ((V,true)) U)) (cW 76 ([.pointer c]) [] v fun (W:PUnit) X=>f () X)) (e () h)) () d) fun (Y:PUnit) Z=>nn c fun aa=>st ⟨aa.block,aa.off+5,none⟩ ([.slice none 0 0]) Z fun ab=>st ⟨b,0,none⟩ ([.slice none 0 0,.slice none 0 0]) ab fun ac=>ldA ([.slice,.slice]) ⟨b,0,none⟩ ac fun (ad:Sl×Sl)=>K ((ad,false)) ac
theorem qfv {c w K} (hF:qcQ c K w):cW 32 [.pointer c] [.agg [.slice,.slice],.one .bool] w K:=qad (an:=[.n,.j [],.l [],.n,.n,.n,.o [[0,1,2,3,4,5,6,7,8,9,10,11]],.n,.j [(48,.one .bool)],.o [[0,1,2,3,4,5,6,7,8,9,10,11,12,13,14,15,16,17,18,19,20,21,22,23,24]],.n,.o [[0,1,2,3,4,5,6,7,8,9,10,11,12,13,14,15,16,17,18,19,20,21,22,23]],.n,.o [[0,1,2,3,4,5,6,7,8,9,10,11,12]],.n,.n,.n,.n,.n]) Tryz.func32 hF
def qdF (c:Option Addr) (i:Int) (K:Int->WP) (w:World):Prop:=K (IntKind.wrap .i64 (i+1)) w
theorem qgU {c i w K} (hF:qdF c i K w):cW 69 [.pointer c,.i i] [.one .i] w K:=qad (an:=[.n,.n]) Tryz.func69 hF
def qdg (c:Option Addr) (n0:Bool) (n1:Sl) (n2:Sl) (n3:Sl) (K:Int->WP) (w:World):Prop:=new (Obj.cells #[.bool n0,n1.v,n2.v,n3.v] 143) w fun b d=>ld .bool ⟨b,0,none⟩ d fun (e:Bool)=>cond (!e) (ldA (qaU) ⟨b,0,none⟩ d.drew fun (f:Bool×Sl×Sl×Sl)=>nn c fun g=>ld .slice ⟨g.block,g.off+3,none⟩ d.drew fun h=>cW 83 ([.agg (List.toArray (HL.mk qaU f)),h.v]) ([.one .i]) d.drew fun (i:Int) j=>K i j) (ldA (qaU) ⟨b,0,none⟩ d.drew fun (k:Bool×Sl×Sl×Sl)=>nn c fun l=>ld .slice ⟨l.block,l.off+3,none⟩ d.drew fun m=>cW 84 ([.agg (List.toArray (HL.mk qaU k)),m.v]) ([.one .i,.one .bool]) d.drew fun (n:Int×Bool) o=>K n.fst o)
theorem qgm {c n0 n1 n2 n3 w K} (hF:qdg c n0 n1 n2 n3 K w):cW 70 [.pointer c,.agg #[.bool n0,n1.v,n2.v,n3.v]] [.one .i] w K:=qad (an:=[.n,.n,.n,.n,.o [[0,1,2,3,4,5,6]],.n,.o [[0,1,2,3,4,5,6,7,8,9,10]],.n]) Tryz.func70 hF
def qcu (c:Option Addr) (k:Sl) (K:Bool->WP) (w:World):Prop:=nn c fun b=>ld .slice ⟨b.block,b.off+4,none⟩ w fun d=>cW 111 ([k.v,d.v]) ([.one .i]) w fun (e:Int) f=>K (decide (e>0)) f
theorem qeQ {c k w K} (hF:qcu c k K w):cW 71 [.pointer c,k.v] [.one .bool] w K:=qad (an:=[.n,.n]) Tryz.func71 hF
def qcM (c:Option Addr) (i:Int) (K:Int->WP) (w:World):Prop:=K (IntKind.wrap .i64 (i-1)) w
theorem qfd {c i w K} (hF:qcM c i K w):cW 72 [.pointer c,.i i] [.one .i] w K:=qad (an:=[.n,.n]) Tryz.func72 hF
def qcN (c:Option Addr) (n0:Bool) (n1:Sl) (n2:Sl) (n3:Sl) (K:Int->WP) (w:World):Prop:=new (Obj.cells #[.bool n0,n1.v,n2.v,n3.v] 143) w fun b d=>ldA (qaU) ⟨b,0,none⟩ d.drew fun (e:Bool×Sl×Sl×Sl)=>nn c fun f=>ld .slice ⟨f.block,f.off+4,none⟩ d.drew fun g=>cW 83 ([.agg (List.toArray (HL.mk qaU e)),g.v]) ([.one .i]) d.drew fun (h:Int) i=>ld .bool ⟨b,0,none⟩ i fun (j:Bool)=>cond j (K (IntKind.wrap .i64 (h-1)) i) (K h i)
theorem qfq {c n0 n1 n2 n3 w K} (hF:qcN c n0 n1 n2 n3 K w):cW 73 [.pointer c,.agg #[.bool n0,n1.v,n2.v,n3.v]] [.one .i] w K:=qad (an:=[.n,.n,.o [[0,1,2,3,4,5,6]],.n,.n,.n,.n]) Tryz.func73 hF
def qcx (c:Option Addr) (k:Sl) (K:Bool->WP) (w:World):Prop:=nn c fun b=>ld .slice ⟨b.block,b.off+3,none⟩ w fun d=>cW 111 ([k.v,d.v]) ([.one .i]) w fun (e:Int) f=>K (decide (e<0)) f
theorem qeU {c k w K} (hF:qcx c k K w):cW 74 [.pointer c,k.v] [.one .bool] w K:=qad (an:=[.n,.n]) Tryz.func74 hF
def qa7 (c:Option Addr) (K:Unit->WP) (r_30:Nat) (t_23:Bool×Sl×Sl×Sl) (x_27:Int) (w_31:World) (r_16:Nat) (X_1:Int->WP):Prop:=st ({ block:=r_30,off:=0 }) ([Value.bool t_23.fst,Value.slice t_23.snd.fst.a t_23.snd.fst.len t_23.snd.fst.cap,Value.slice t_23.snd.snd.fst.a t_23.snd.snd.fst.len t_23.snd.snd.fst.cap,Value.slice t_23.snd.snd.snd.a t_23.snd.snd.snd.len t_23.snd.snd.snd.cap,Value.int IntKind.i64 x_27]) w_31 fun (w_35:World)=>nn c fun (a_36:Addr)=>ld Cell.slice ({ block:=a_36.block,off:=a_36.off+5 }) w_35.drew fun (s_37:Sl)=>ldA (qsZ) ({ block:=r_30,off:=0 }) w_35.drew fun (t_38:Bool×Sl×Sl×Sl×Int)=>new (Obj.cells (List.toArray (HL.mk qsZ t_38)) 145) w_35.drew fun (r_39:Nat) (w_40:World)=>held [fun (w_41:Go.World)=>World.cell? w_41 ({ block:=a_36.block,off:=a_36.off+5 })=some (Value.slice s_37.a s_37.len s_37.cap)] w_40<|run [Ty1.one Cell.slice] ((Builtin.append_ (#[134,134]) 134 (#[Value.slice s_37.a s_37.len s_37.cap,Value.slice (some { block:=r_39,off:=0 }) 1 1])).run Tryz.prog w_40) fun (s_42:Sl) (w_43:World)=>nn c fun (a_44:Addr)=>st ({ block:=a_44.block,off:=a_44.off+5 }) ([Value.slice s_42.a s_42.len s_42.cap]) w_43 fun (w_45:World)=>ld Cell.bool ({ block:=r_16,off:=0 }) w_45 fun (b_46:Bool)=>cond b_46 (K () w_45) (ld Cell.slice ({ block:=r_16,off:=3 }) w_45 fun (s_47:Sl)=>ld (Cell.int IntKind.i64) ({ block:=r_30,off:=4 }) w_45 fun (x_48:Int)=>idx s_47 x_48 1 fun (a_49:Addr)=>ld (Cell.int IntKind.u32) a_49 w_45 fun (x_50:Int)=>X_1 x_50 w_45)
def qaQ (c:Option Addr) (K:Unit->WP) (r_16:Nat) (t_14:(Bool×Sl×Sl×Sl)×Int) (w_17:World) (X_1:Int->WP):Prop:=st ({ block:=r_16,off:=0 }) (HL.mk qaU t_14.fst) w_17 fun (w_20:World)=>cond (!t_14.snd==0) (nn c fun (a_21:Addr)=>st ({ block:=a_21.block,off:=a_21.off+5 }) ([Value.slice none 0 0]) w_20 fun (w_22:World)=>K () w_22) ((ldA (qaU) ({ block:=r_16,off:=0 }) w_20.drew fun (t_23:Bool×Sl×Sl×Sl)=>nn c fun (a_24:Addr)=>ld Cell.any ({ block:=a_24.block,off:=a_24.off+7 }) w_20.drew fun (v_25:Value)=>ldA (qaU) ({ block:=r_16,off:=0 }) w_20.drew fun (t_26:Bool×Sl×Sl×Sl)=>callV Tryz.prog v_25 ([Value.agg (List.toArray (HL.mk qaU t_26))]) ([Ty1.one (Cell.int IntKind.i64)]) w_20.drew fun (x_27:Int) (w_28:World)=>held [fun (w_29:Go.World)=>Go.Pt.cellsAt w_29 ({ block:=r_16,off:=0 }) 0 (HL.mk qaU t_23)] w_28<|new (Obj.cells #[Value.bool false,Value.slice none 0 0,Value.slice none 0 0,Value.slice none 0 0,Value.int IntKind.i64 0] 145) w_28 fun (r_30:Nat) (w_31:World)=>held [fun (w_32:Go.World)=>Go.Pt.cellsAt w_32 ({ block:=r_16,off:=0 }) 0 (HL.mk qaU t_26),fun (w_33:Go.World)=>World.cell? w_33 ({ block:=a_24.block,off:=a_24.off+7 })=some v_25,fun (w_34:Go.World)=>Go.Pt.cellsAt w_34 ({ block:=r_16,off:=0 }) 0 (HL.mk qaU t_23)] w_31<|qa7 c K r_30 t_23 x_27 w_31 r_16 X_1)/\(ldA (qaU) ({ block:=r_16,off:=0 }) w_20.drew fun (t_51:Bool×Sl×Sl×Sl)=>nn c fun (a_52:Addr)=>ld Cell.any ({ block:=a_52.block,off:=a_52.off+7 }) w_20.drew fun (v_53:Value)=>ldA (qaU) ({ block:=r_16,off:=0 }) w_20.drew fun (t_54:Bool×Sl×Sl×Sl)=>new (Obj.cells #[Value.bool false,Value.slice none 0 0,Value.slice none 0 0,Value.slice none 0 0,Value.int IntKind.i64 0] 145) w_20.drew fun (r_55:Nat) (w_56:World)=>held [fun (w_57:Go.World)=>Go.Pt.cellsAt w_57 ({ block:=r_16,off:=0 }) 0 (HL.mk qaU t_54),fun (w_58:Go.World)=>World.cell? w_58 ({ block:=a_52.block,off:=a_52.off+7 })=some v_53,fun (w_59:Go.World)=>Go.Pt.cellsAt w_59 ({ block:=r_16,off:=0 }) 0 (HL.mk qaU t_51)] w_56<|callV Tryz.prog v_53 ([Value.agg (List.toArray (HL.mk qaU t_54))]) ([Ty1.one (Cell.int IntKind.i64)]) w_56 fun (x_60:Int) (w_61:World)=>held [fun (w_62:Go.World)=>Go.Pt.cellsAt w_62 ({ block:=r_16,off:=0 }) 0 (HL.mk qaU t_51)] w_61<|qa7 c K r_55 t_51 x_60 w_61 r_16 X_1))
def qcR (c:Option Addr) (at_:Int) (K:Unit->WP) (w:World):Prop:=loop (Int) (fun b (d:Int) e=>nn c fun f=>ld .ptr f e fun g=>cW 91 ([.pointer g,.u d]) ([.one .b,.one .slice,.one .i]) e fun (h:Int×Sl×Int) i=>cond (!h.snd.snd==0) (nn c fun j=>st ⟨j.block,j.off+5,none⟩ ([.slice none 0 0]) i fun k=>K () k) ((nn c fun l=>ld .i ⟨l.block,l.off+1,none⟩ i.drew fun (m:Int)=>nn c fun n=>ld .i ⟨n.block,n.off+2,none⟩ i.drew fun (o:Int)=>cW 112 ([.b h.fst,h.snd.fst.v,.i m,.i o]) ([.agg qaU,.one .i]) i.drew fun (p:(Bool×Sl×Sl×Sl)×Int) q=>new (Obj.cells #[.bool false,.slice none 0 0,.slice none 0 0,.slice none 0 0] 143) q fun r s=>held [cEl ⟨n.block,n.off+2,none⟩ (.i o),cEl ⟨l.block,l.off+1,none⟩ (.i m)] s<|qaQ c K r p s b)/\(nn c fun v=>ld .i ⟨v.block,v.off+1,none⟩ i.drew fun (x:Int)=>nn c fun y=>ld .i ⟨y.block,y.off+2,none⟩ i.drew fun (z:Int)=>new (Obj.cells #[.bool false,.slice none 0 0,.slice none 0 0,.slice none 0 0] 143) i.drew fun A B=>held [cEl ⟨y.block,y.off+2,none⟩ (.i z),cEl ⟨v.block,v.off+1,none⟩ (.i x)] B<|cW 112 ([.b h.fst,h.snd.fst.v,.i x,.i z]) ([.agg qaU,.one .i]) B fun (E:(Bool×Sl×Sl×Sl)×Int) F=>qaQ c K A E F b))) at_ w
theorem qfm {c at_ w K} (hF:qcR c at_ K w):cW 75 [.pointer c,.u at_] [] w K:=qad (an:=[.l [(1,.one .u)],.n,.n,.n,.n,.n,.o [[0,1,2,3,4,5,6,7,8,9,10,11,12,13,14,15,16],[0,1,2,3,4,5,6,7,8,9,14,10,11,12,13,15,16]],.n,.n,.n,.n,.o [[0,1,2,3,4,5,6,7,8,9],[0,1,2,3,4,5,8,6,7,9]],.n,.o [[0,1,2,3,4,5,6,7,8,9,10]],.n,.n]) Tryz.func75 hF
def qcP (c:Option Addr) (K:Unit->WP) (w:World):Prop:=loop (PUnit) (fun b (d:PUnit) e=>nn c fun f=>ld .slice ⟨f.block,f.off+5,none⟩ e fun g=>cond (decide ((↑g.len:Int)>0)) (nn c fun h=>ld .slice ⟨h.block,h.off+5,none⟩ e.drew fun i=>nn c fun j=>ld .slice ⟨j.block,j.off+5,none⟩ e.drew fun k=>slc i none (some (IntKind.wrap .i64 ((↑k.len:Int)-1))) none 5 fun l=>nn c fun m=>st ⟨m.block,m.off+5,none⟩ ([l.v]) e.drew fun n=>nn c fun o=>ld .slice ⟨o.block,o.off+5,none⟩ n fun p=>cond ((↑p.len:Int)==0) (K () n) (nn c fun q=>ld .slice ⟨q.block,q.off+5,none⟩ n.drew fun r=>nn c fun s=>ld .slice ⟨s.block,s.off+5,none⟩ n.drew fun t=>idx r (IntKind.wrap .i64 ((↑t.len:Int)-1)) 5 fun u=>nn c fun v=>ld .any ⟨v.block,v.off+6,none⟩ (World.drew n.drew) fun (x:Value)=>ld .i ⟨u.block,u.off+4,none⟩ (World.drew n.drew) fun (y:Int)=>callV Tryz.prog x ([.i y]) ([.one .i]) (World.drew n.drew) fun (z:Int) A=>st ⟨u.block,u.off+4,none⟩ ([.i z]) A fun B=>join (Bool) (fun C=>ld .i ⟨u.block,u.off+4,none⟩ B.drew fun (D:Int)=>cond (decide (D>=0)) (ld .i ⟨u.block,u.off+4,none⟩ B.drew fun (E:Int)=>ld .slice (⟨(Addr.add u 0).block,(Addr.add u 0).off+3,none⟩) B.drew fun F=>C (decide (E<(↑F.len:Int))) B.drew) (C false B.drew)) fun (G:Bool) H=>cond G (ld .slice (⟨(Addr.add u 0).block,(Addr.add u 0).off+3,none⟩) H.drew fun I=>ld .i ⟨u.block,u.off+4,none⟩ H.drew fun (J:Int)=>idx I J 1 fun L=>ld .u L H.drew fun (M:Int)=>cW 75 ([.pointer c,.u M]) [] H.drew fun (N:PUnit) O=>K () O) (b () H))) (K () e)) () w
theorem qfi {c w K} (hF:qcP c K w):cW 76 [.pointer c] [] w K:=qad (an:=[.l [],.n,.n,.n,.o [[0,1,2,3,4,5,6,7,8,9,10,11,12,13,14]],.n,.n,.n,.o [[0,1,2,3,4,5,6,7,8,9,10,11]],.n,.o [[0,1,2,3,4,5,6,7,8,9,10,11,12]],.j [(69,.one .bool)],.o [[0,1,2,3,4,5,6,7,8,9,10,11,12,13,14,15,16,17]],.n,.o [[0,1,2,3,4,5,6,7,8,9,10,11,12]]]) Tryz.func76 hF
end Go.Proofs.YtmmkegapckbomaaGreatDoor
end
section
namespace Go.Proofs.YtmmkegapckbomaaGreatDoor
open Go Go.Pt List
attribute [local irreducible] ld ldA ldV fld fldA newZ st new idx idxS idxA slc slcS slcP mkS chk nn call callV inv run runQ runU join loop held ext rng undefer s2a nxt ent IntKind.wrap
structure CuX where
 pb:Nat
 k:Nat
 v:Nat
 frm:Sl
 to:Sl
 st:Sl
 f1:Value
 f2:Value
 f3:Value
def CuX.cells (x:CuX):Array Value:=#[.pointer (some ⟨x.pb,0,none⟩),.i x.k,.i x.v,x.frm.v,x.to.v,x.st.v,x.f1,x.f2,x.f3]
def CuAt (w:World) (cb:Nat) (x:CuX):Prop:=∃ T,w.heap[cb]?=some (.cells x.cells T (0,0))
theorem CuAt.frame {S:List Nat} {w w':World} {cb:Nat} {x:CuX} (h:CuAt w cb x) (f:Fr S w w') (u:cb∉S):CuAt w' cb x:=by
 obtain ⟨T,h⟩:=h
 exact ⟨T,by rw [f.block cb (qab h) u]; exact h⟩
theorem CuAt.frame0 {w w':World} {cb:Nat} {x:CuX} (h:CuAt w cb x) (f:Fr [] w w'):CuAt w' cb x:=h.frame f fun h=>nomatch h
theorem CuAt.frm {w:World} {cb:Nat} {x:CuX} {K:Sl->Prop} (h:CuAt w cb x) (k:K x.frm):ld .slice ⟨cb,3,none⟩ w K:=by
 obtain ⟨T,h⟩:=h
 exact qaE x.frm (qaf h) k
theorem CuAt.to {w:World} {cb:Nat} {x:CuX} {K:Sl->Prop} (h:CuAt w cb x) (k:K x.to):ld .slice ⟨cb,4,none⟩ w K:=by
 obtain ⟨T,h⟩:=h
 exact qaE x.to (qaf h) k
section
variable {w:World} {cb:Nat} {x:CuX} {S:List Nat} {y:NdC} {n:NodeM} {frm to:Key}
theorem quB {i:Int} {K:Int->WP} (hi:-1000000<=i/\i<=1000000) (h:K (i+1) w):cW 69 [.pointer (pW cb),.i i] [.one .i] w K:=by
 refine qgU ?_
 unfold qdF
 rw [IntWalk.i64_in _ (by omega)]
 exact h
theorem qto {i:Int} {K:Int->WP} (hi:-1000000<=i/\i<=1000000) (h:K (i-1) w):cW 72 [.pointer (pW cb),.i i] [.one .i] w K:=by
 refine qfd ?_
 unfold qcM
 rw [IntWalk.i64_in _ (by omega)]
 exact h
theorem qsw {ks:Sl} {key:Key} {K:Bool->WP} (h:CuAt w cb x) (u:RdB S w ks key) (A:RdB S w x.to to) (C:IsB key) (E:IsB to) (G:K (decide (cmpL key to>0)) w):cW 71 [.pointer (pW cb),ks.v] [.one .bool] w K:=by
 refine qeQ ?_
 unfold qcu
 refine qae (h.to ?_)
 exact qhB u A C E G
theorem qtb {ks:Sl} {key:Key} {K:Bool->WP} (h:CuAt w cb x) (u:RdB S w ks key) (A:RdB S w x.frm frm) (C:IsB key) (E:IsB frm) (G:K (decide (cmpL key frm<0)) w):cW 74 [.pointer (pW cb),ks.v] [.one .bool] w K:=by
 refine qeU ?_
 unfold qcx
 refine qae (h.frm ?_)
 exact qhB u A C E G
theorem qsF {K:Int->WP} (h:CuAt w cb x) (C:NodeR S w y n) (J:RdB S w x.frm frm) (O:IsB frm) (Q:Rising n.keys) (R:n.keys.length<=1000000) (U:∀ w',Fr [] w w'->K (lowV n frm) w'):cW 70 [.pointer (pW cb),.agg (ndV y)] [.one .i] w K:=by
 refine qgm ?_
 unfold qdg
 refine Own.new' (Own.start [] w) fun r w1 e1 f1 V=>?_
 refine Own.ld V 0 rfl y.1 rfl ?_
 have hd:=Own.drew V
 have u:=f1.trans (Fr.refl [] w1).drew
 have hy:y.1=n.leaf:=C.1
 refine qaa (fun E=>?_) (fun E=>?_)
 ·have A:n.leaf=false:=by rw [<- hy]; simpa using E
  refine Own.ldA hd 0 rfl y rfl ?_
  refine qae ((h.frame0 u).frm ?_)
  refine qg4 (C.frame0 u) (J.frame0 u) O Q R fun G I=>?_
  have:=U G (u.trans I)
  rw [lowV,if_neg (by rw [A]; decide)] at this
  exact this
 ·have A:n.leaf=true:=by rw [<- hy]; simpa using E
  refine Own.ldA hd 0 rfl y rfl ?_
  refine qae ((h.frame0 u).frm ?_)
  refine qf9 (C.frame0 u) (J.frame0 u) O Q R fun G I=>?_
  have:=U G (u.trans I)
  rw [lowV,if_pos A] at this
  exact this
theorem qrP {K:Int->WP} (h:CuAt w cb x) (E:NodeR S w y n) (O:RdB S w x.to to) (Q:IsB to) (R:Rising n.keys) (U:n.keys.length<=1000000) (V:∀ w',Fr [] w w'->K (highV n to) w'):cW 73 [.pointer (pW cb),.agg (ndV y)] [.one .i] w K:=by
 refine qfq ?_
 unfold qcN
 refine Own.new' (Own.start [] w) fun r w1 e1 f1 ho=>?_
 have G:=Own.drew ho
 have u:=f1.trans (Fr.refl [] w1).drew
 have I:y.1=n.leaf:=E.1
 refine Own.ldA G 0 rfl y rfl ?_
 refine qae ((h.frame0 u).to ?_)
 have ad:=qdL n.keys to
 refine qg4 (E.frame0 u) (O.frame0 u) Q R U fun w3 J=>?_
 have A:=G.frame0 J
 refine Own.ld A 0 rfl y.1 rfl ?_
 have:=V w3 (u.trans J)
 refine qaa (fun C=>?_) (fun C=>?_)
 ·rw [highV,if_pos (by rw [<- I]; exact C)] at this
  rw [IntWalk.i64_in _ (by omega)]
  exact this
 ·rw [highV,if_neg (by rw [<- I,C]; decide)] at this
  exact this
end
end Go.Proofs.YtmmkegapckbomaaGreatDoor
end
section
namespace Go.Proofs.YtmmkegapckbomaaGreatDoor
open Go Go.Pt List
open Classical
section
variable {D:DiskM} {M:PgM} {k v:Nat} {to:Key}
def DoneD:Nat->List CFr->Prop
 | 0,A=>∃ u:Prs,A=[(lfOf u,-1)]
 | _+1,[]=>False
 | h+1,_::C=>DoneD h C
theorem qmp:∀ {h:Nat} {G:List CFr} {T:Prs},RestD D M k v to h G T->DoneD h G->(nextV D k v M (fun n=>highV n to) (fun i=>i-1) h G=none/\T=[])\/∃ I,nextV D k v M (fun n=>highV n to) (fun i=>i-1) h G=some I/\RestD D M k v to h I T
 | 0,G,T,⟨af,i,e,hi,hs,J⟩,⟨ac,e'⟩=>by
  rw [e] at e'
  have e1:=(vB (vC e').1)
  have e4:(i:Int)-1=-1:=e1.2
  have e5:i=0:=by omega
  subst e5
  exact .inl ⟨rfl,by rw [J]; rfl⟩
 | h+1,G,T,⟨C,i,up,T1,e,hi,K,hu,J⟩,u=>by
  subst e
  have u:DoneD h up:=u
  rcases qmp hu u with ⟨O,rfl⟩ | ⟨Q,O,h2⟩
  ·have R:(inOf C).kids.length=C.length:=by show (C.map (·.2.page)).length=_; rw [zK]
   unfold nextV
   rw [O]
   dsimp only
   rw [R]
   cases i with
   | zero=>
    rw [if_neg (by omega)]
    exact .inl ⟨rfl,by rw [J]; rfl⟩
   | succ i=>
    have ej:(((i+1:Nat):Int)-1).toNat=i:=by omega
    have U:((i+1:Nat):Int)-1=(i:Int):=by omega
    have E:i<C.length:=by omega
    rw [ej,if_pos ⟨by omega,by omega⟩,U]
    have V:(inOf C).kids.getD i 0=C[i].2.page:=by
     show (C.map (·.2.page)).getD _ 0=_
     rw [yQ,zQ,zA E]
     rfl
    have A:C.take (i+1)=C.take i++[C[i]]:=yF E
    obtain ⟨q1,q2⟩:=K C[i] (by rw [A]; exact zI _ (mem_cons_self ..))
    obtain ⟨aa,p1,p2⟩:=qh3 (to:=to) q1
    rw [qkQ q2] at p2
    rw [V,p1]
    refine .inr ⟨_,rfl,C,i,aa,_,rfl,E,fun e he=>K e (by rw [A]; exact zH _ he),p2,?_⟩
    rw [J,xH,A,yP,reverse_append,yG,flatMap_nil,xG]
  ·unfold nextV
   rw [O]
   exact .inr ⟨_,rfl,C,i,Q,T1,rfl,hi,K,h2,J⟩
end
section
section
variable {D:DiskM} {M:PgM} {k v:Nat} {frm to:Key}
theorem qo4:∀ {h:Nat} {A:List CFr} {T:Prs},RestU D M k v frm h A T->DoneU h A\/∃ (u:Prs) (i:Nat) (lo:List CFr) (hi:i<u.length) (T':Prs),A=lo++[(lfOf u,(i:Int))]/\T=u[i]::T'/\RestU D M k v frm h (lo++[(lfOf u,(i:Int)+1)]) T'
 | 0,A,T,⟨u,i,e,hi,G,C⟩=>by
  by_cases hlt:i<u.length
  ·exact .inr ⟨u,i,[],hlt,u.drop (i+1),e,by rw [C,zX hlt],u,i+1,rfl,hlt,G,rfl⟩
  ·have:i=u.length:=by omega
   subst this
   exact .inl ⟨u,e⟩
 | h+1,A,T,⟨E,i,U,T1,e,hi,I,J,C⟩=>by
  subst e
  rcases qo4 J with K | ⟨u,j,lo,O,T',e1,Q,R⟩
  ·exact .inl K
  ·refine .inr ⟨u,j,(inOf E,(i:Int))::lo,O,T'++(E.drop (i+1)).flatMap (·.2.prs),by rw [e1]; rfl,by rw [C,Q]; rfl,E,i,_,T',rfl,hi,I,R,rfl⟩
theorem qmq:∀ {h:Nat} {A:List CFr} {T:Prs},RestD D M k v to h A T->DoneD h A\/∃ (u:Prs) (i:Nat) (lo:List CFr) (hi:i<u.length) (T':Prs),A=lo++[(lfOf u,(i:Int))]/\T=u[i]::T'/\RestD D M k v to h (lo++[(lfOf u,(i:Int)-1)]) T'
 | 0,A,T,⟨u,i,e,hi,I,E⟩=>by
  cases i with
  | zero=>exact .inl ⟨u,e⟩
  | succ i=>
   have C:i<u.length:=by omega
   have e0:((i+1:Nat):Int)-1=(i:Int):=by omega
   rw [e0] at e
   exact .inr ⟨u,i,[],C,(u.take i).reverse,e,by rw [E,yF C,reverse_append]; rfl,u,i,rfl,by omega,I,rfl⟩
 | h+1,A,T,⟨G,i,V,T1,e,hi,J,K,E⟩=>by
  subst e
  rcases qmq K with O | ⟨u,j,lo,Q,T',e1,R,U⟩
  ·exact .inl O
  ·refine .inr ⟨u,j,(inOf G,(i:Int))::lo,Q,T'++((G.take i).flatMap (·.2.prs)).reverse,by rw [e1]; rfl,by rw [E,R]; rfl,G,i,_,T',rfl,hi,J,U,rfl⟩
end
end
section
section
variable {D:DiskM} {M:PgM} {k v:Nat} {frm to:Key}
theorem qnX:∀ {h:Nat} {s:Seg} {K:List CFr},Has D M k v h s->(∀ x∈s.prs,¬ KLt x.1 frm)->pushV D k v M (fun n=>lowV n frm) (h+1) s.page=some K->¬ DoneU h K
 | 0,s,K,hs,u,C=>by
  have aa:=hs.ne
  obtain ⟨h1,h2,O,h4⟩:=hs
  have hl:loadN D M k v s.page=(lfOf s.prs,0):=O.load h4
  have af:=qbI (k:=frm) O.right.2.2.1
  unfold pushV at C
  rw [hl,if_neg (fun h=>h rfl),if_pos (show (lfOf s.prs).leaf=true from rfl)] at C
  have C:=yN C
  rintro ⟨G,e⟩
  rw [<- C] at e
  have e1:=(vB (vC e).1)
  have e2:keysP s.prs=keysP G:=congrArg NodeM.keys e1.1
  have e3:=congrArg List.length e2
  rw [zK,zK] at e3
  have e4:lowV (lfOf s.prs) frm=(G.length:Int):=e1.2
  rw [lowV,if_pos (show (lfOf s.prs).leaf=true from rfl)] at e4
  have e5:placeV (keysP s.prs) frm=G.length:=Int.ofNat.inj e4
  obtain ⟨x,r,V⟩:=exists_cons_of_ne_nil aa
  refine u x (by rw [V]; exact mem_cons_self ..) (af.1 x ?_)
  rw [e5,zS (by omega),V]
  exact mem_cons_self ..
 | h+1,⟨p,n,L,P⟩,K,⟨E,h0,h1,h2,O,h4,h5,h6,h7⟩,u,C=>by
  dsimp only at h1 h2 O h5 u C
  subst h1 h2 O
  have hl:loadN D M k v p=(inOf E,0):=h4.load h5
  obtain ⟨A,e,B,ag,hA,av,aw,I⟩:=qbB (key:=frm) h0 h6
  have J:(inOf E).kids.getD (kidV (inOf E).keys frm) 0=e.2.page:=I
  have Q:kidV (inOf E).keys frm=A.length:=hA.symm
  have R:e∈E:=by rw [ag]; simp
  obtain ⟨ah,_⟩:=h7 e R
  have U:lowV (inOf E) frm=(A.length:Int):=by
   rw [lowV,if_neg (show ¬ (inOf E).leaf=true from fun e=>nomatch e),Q]
  unfold pushV at C
  rw [hl,if_neg (fun h=>h rfl),if_neg (show ¬ (inOf E).leaf=true from fun e=>nomatch e)] at C
  have C:Option.map (((inOf E),lowV (inOf E) frm)::·) (pushV D k v M (fun n=>lowV n frm) (h+1) ((inOf E).kids.getD (lowV (inOf E) frm).toNat 0))=some K:=C
  rw [U,zJ,<- Q,J] at C
  obtain ⟨ai,e1,rfl⟩:=yS.1 C
  show ¬ DoneU h ai
  exact qnX ah (fun x V=>u x (yJ.2 ⟨e,R,V⟩)) e1
end
end
section
section
variable {D:DiskM} {M:PgM} {k v:Nat} {frm to:Key}
theorem qkk:∀ {h:Nat} {s:Seg} {J:List CFr},Has D M k v h s->(∀ x∈s.prs,¬ KLt to x.1)->pushV D k v M (fun n=>highV n to) (h+1) s.page=some J->¬ DoneD h J
 | 0,s,J,hs,u,C=>by
  have V:=hs.ne
  obtain ⟨h1,h2,K,h4⟩:=hs
  have hl:loadN D M k v s.page=(lfOf s.prs,0):=K.load h4
  have ae:=qlQ (k:=to) K.right.2.2.1
  unfold pushV at C
  rw [hl,if_neg (fun h=>h rfl),if_pos (show (lfOf s.prs).leaf=true from rfl)] at C
  have C:=yN C
  rintro ⟨al,e⟩
  rw [<- C] at e
  have e1:=(vB (vC e).1)
  have e4:highV (lfOf s.prs) to=-1:=e1.2
  rw [highV,if_pos (show (lfOf s.prs).leaf=true from rfl)] at e4
  have e5:kidV (keysP s.prs) to=0:=by
   have e6:((kidV (keysP s.prs) to:Nat):Int)-1=-1:=e4
   omega
  obtain ⟨x,r,U⟩:=exists_cons_of_ne_nil V
  refine u x (by rw [U]; exact mem_cons_self ..) (ae.2 x ?_)
  rw [e5,xE,U]
  exact mem_cons_self ..
 | h+1,⟨p,n,L,P⟩,J,⟨E,h0,h1,h2,K,h4,h5,h6,h7⟩,u,C=>by
  dsimp only at h1 h2 K h5 u C
  subst h1 h2 K
  have hl:loadN D M k v p=(inOf E,0):=h4.load h5
  obtain ⟨A,e,B,af,hA,ar,au,G⟩:=qbB (key:=to) h0 h6
  have I:(inOf E).kids.getD (kidV (inOf E).keys to) 0=e.2.page:=G
  have O:kidV (inOf E).keys to=A.length:=hA.symm
  have Q:e∈E:=by rw [af]; simp
  obtain ⟨ag,_⟩:=h7 e Q
  have R:highV (inOf E) to=(A.length:Int):=by
   rw [highV,if_neg (show ¬ (inOf E).leaf=true from fun e=>nomatch e),O]
  unfold pushV at C
  rw [hl,if_neg (fun h=>h rfl),if_neg (show ¬ (inOf E).leaf=true from fun e=>nomatch e)] at C
  have C:Option.map (((inOf E),highV (inOf E) to)::·) (pushV D k v M (fun n=>highV n to) (h+1) ((inOf E).kids.getD (highV (inOf E) to).toNat 0))=some J:=C
  rw [R,zJ,<- O,I] at C
  obtain ⟨ah,e1,rfl⟩:=yS.1 C
  show ¬ DoneD h ah
  exact qkk ag (fun x U=>u x (yJ.2 ⟨e,Q,U⟩)) e1
end
end
section
section
variable {D:DiskM} {M:PgM} {k v:Nat} {frm to:Key} {pick:NodeM->Int} {step:Int->Int}
theorem qgz:∀ {h:Nat} {J G:List CFr} {T:Prs},RestU D M k v frm h J T->DoneU h J->nextV D k v M (fun n=>lowV n frm) (fun i=>i+1) h J=some G->¬ DoneU h G
 | 0,_,_,_,_,_,h=>nomatch h
 | h+1,J,G,T,⟨A,i,U,T1,e,hi,V,hu,hT⟩,u,C=>by
  subst e
  have u:DoneU h U:=u
  unfold nextV at C
  cases e1:nextV D k v M (fun n=>lowV n frm) (fun i=>i+1) h U with
  | some K=>
   rw [e1] at C
   cases C
   show ¬ DoneU h K
   exact qgz hu u e1
  | none=>
   rw [e1] at C
   dsimp only at C
   split at C
   ·rename_i E
    have O:(inOf A).kids.length=A.length:=by show (A.map (·.2.page)).length=_; rw [zK]
    have ej:((i:Int)+1).toNat=i+1:=by omega
    rw [O] at E
    rw [ej] at C
    have E:i+1<A.length:=by omega
    have Q:(inOf A).kids.getD (i+1) 0=A[i+1].2.page:=by
     show (A.map (·.2.page)).getD _ 0=_
     rw [yQ,zQ,zA E]
     rfl
    have I:A.drop (i+1)=A[i+1]::A.drop (i+2):=zX E
    obtain ⟨q1,q2⟩:=V A[i+1] (by rw [I]; exact mem_cons_self ..)
    obtain ⟨R,e2,rfl⟩:=yS.1 C
    show ¬ DoneU h R
    exact qnX q1 q2 (by rw [<- Q]; exact e2)
   ·cases C
theorem qen:∀ {h:Nat} {J E:List CFr} {T:Prs},RestD D M k v to h J T->DoneD h J->nextV D k v M (fun n=>highV n to) (fun i=>i-1) h J=some E->¬ DoneD h E
 | 0,_,_,_,_,_,h=>nomatch h
 | h+1,J,E,T,⟨C,i,R,T1,e,hi,U,V,hT⟩,u,A=>by
  subst e
  have u:DoneD h R:=u
  unfold nextV at A
  cases e1:nextV D k v M (fun n=>highV n to) (fun i=>i-1) h R with
  | some K=>
   rw [e1] at A
   cases A
   show ¬ DoneD h K
   exact qen V u e1
  | none=>
   rw [e1] at A
   dsimp only at A
   split at A
   ·rename_i G
    obtain ⟨i,rfl⟩:∃ j,i=j+1:=⟨i-1,by omega⟩
    have ej:(((i+1:Nat):Int)-1).toNat=i:=by omega
    rw [ej] at A
    have G:i<C.length:=by omega
    have O:(inOf C).kids.getD i 0=C[i].2.page:=by
     show (C.map (·.2.page)).getD _ 0=_
     rw [yQ,zQ,zA G]
     rfl
    have I:C.take (i+1)=C.take i++[C[i]]:=yF G
    obtain ⟨q1,q2⟩:=U C[i] (by rw [I]; exact zI _ (mem_cons_self ..))
    obtain ⟨Q,e2,rfl⟩:=yS.1 A
    show ¬ DoneD h Q
    exact qkk q1 q2 (by rw [<- O]; exact e2)
   ·cases A
def Path (D:DiskM) (M:PgM) (k v:Nat) (step:Int->Int):Nat->List CFr->Prop
 | 0,C=>∃ (u:Prs) (i:Int),C=[(lfOf u,i)]/\-1<=i/\i<=u.length
 | h+1,C=>∃ (A:List Ent) (i:Int) (E:List CFr),C=(inOf A,i)::E/\0<=i/\i<A.length/\(∀ j:Nat,step i=j->∀ G:j<A.length,Has D M k v h A[j].2)/\Path D M k v step h E
theorem RestU.path:∀ {h:Nat} {u:List CFr} {T:Prs},RestU D M k v frm h u T->Path D M k v (fun i=>i+1) h u
 | 0,u,T,⟨C,i,e,E,R,G⟩=>⟨C,i,e,by omega,by omega⟩
 | h+1,u,T,⟨I,i,J,T1,e,E,K,O,G⟩=>⟨I,i,J,e,by omega,by omega,fun j A Q=>by
  have A:(i:Int)+1=j:=A
  have A:j=i+1:=by omega
  subst A
  exact (K _ (by rw [zX Q]; exact mem_cons_self ..)).1,O.path⟩
theorem RestD.path:∀ {h:Nat} {u:List CFr} {T:Prs},RestD D M k v to h u T->Path D M k v (fun i=>i-1) h u
 | 0,u,T,⟨C,i,e,E,R,G⟩=>⟨C,_,e,by omega,by omega⟩
 | h+1,u,T,⟨I,i,J,T1,e,E,K,O,G⟩=>⟨I,i,J,e,by omega,by omega,fun j A Q=>by
  have A:(i:Int)-1=j:=A
  have A:i=j+1:=by omega
  subst A
  exact (K _ (by rw [yF Q]; exact zI _ (mem_cons_self ..))).1,O.path⟩
theorem Path.len:∀ {h:Nat} {u:List CFr},Path D M k v step h u->u.length=h+1
 | 0,_,⟨_,_,e,_⟩=>by rw [e]; rfl
 | h+1,_,⟨_,_,C,e,_,_,_,A⟩=>by rw [e,yH,A.len]
theorem Path.drop:∀ {pre u:List CFr} {h:Nat},Path D M k v step (pre.length+h) (pre++u)->Path D M k v step h u
 | [],_,_,h=>by rw [xJ,xR] at h; exact h
 | x::pre,u,n,h=>by
  have e:(x::pre).length+n=(pre.length+n)+1:=by rw [yH]; omega
  rw [e] at h
  obtain ⟨C,i,E,e1,_,_,_,A⟩:=h
  rw [(vC e1).2.symm] at A
  exact A.drop
noncomputable def stepV (D:DiskM) (k v:Nat) (M:PgM) (pick:NodeM->Int) (step:Int->Int) (h:Nat) (x:CFr):Option (List CFr):=
 if 0<=step x.2/\step x.2<x.1.kids.length then (pushV D k v M pick (h+1) (x.1.kids.getD (step x.2).toNat 0)).map ((x.1,step x.2)::·) else none
theorem qpu {h:Nat} {x:CFr} {u:List CFr} (e:nextV D k v M pick step h u=none):nextV D k v M pick step (h+1) (x::u)=stepV D k v M pick step h x:=by
 obtain ⟨n,i⟩:=x
 unfold nextV
 rw [e]
 rfl
theorem qlZ:∀ {pre u r:List CFr} {h:Nat},nextV D k v M pick step h u=some r->nextV D k v M pick step (pre.length+h) (pre++u)=some (pre++r)
 | [],u,r,h,e=>by rw [xJ,xR]; exact e
 | (n,i)::pre,u,r,h,e=>by
  have e1:((n,i)::pre).length+h=(pre.length+h)+1:=by rw [yH]; omega
  rw [e1,xI]
  unfold nextV
  rw [qlZ (pre:=pre) e]
  rfl
theorem qsf {h:Nat} {s:Seg} {key:Key} (R:Has D M k v (h+1) s):∃ u:List Ent,loadN D M k v s.page=(inOf u,0)/\∃ hj:kidV (inOf u).keys key<u.length,(inOf u).kids.getD (kidV (inOf u).keys key) 0=u[kidV (inOf u).keys key].2.page/\Has D M k v h u[kidV (inOf u).keys key].2:=by
 obtain ⟨p,n,L,P⟩:=s
 obtain ⟨u,U,J,K,O,V,Q,h6,h7⟩:=R
 dsimp only at J K O Q
 subst J K O
 refine ⟨u,V.load Q,?_⟩
 obtain ⟨A,e,B,E,hA,ad,ae,G⟩:=qbB (key:=key) U h6
 have I:kidV (inOf u).keys key=A.length:=hA.symm
 have C:kidV (inOf u).keys key<u.length:=by rw [I,E]; simp
 refine ⟨C,?_,(h7 _ (zW C)).1⟩
 show (u.map (·.2.page)).getD _ 0=_
 rw [yQ,zQ,zA C]
 rfl
end
end
end Go.Proofs.YtmmkegapckbomaaGreatDoor
end
section
namespace Go.Proofs.YtmmkegapckbomaaGreatDoor
open Go Go.Pt List
attribute [local irreducible] ld ldA ldV fld fldA newZ st new idx idxS idxA slc slcS slcP mkS chk nn call callV inv run runQ runU join loop held ext rng undefer s2a nxt ent IntKind.wrap
theorem qmm {w:World} {n:Nat} {K:Option Addr×Option Addr->WP} (Y:List Nat) (G:∀ b∈Y,b<w.heap.size) (hY:HG∉Y) (hv:Hv w) (h8:8<=n) (R:n<=4096)
  (hk:∀ dbk pb FD F D w',TW dbk pb FD D 5000 w' Y F (madeM n)->Made D n->Fr [] w w'->(∀ b∈FD++F,w.heap.size<=b)->K (pW dbk,pW pb) w') :
  cW 14 [.i n] [.one .ptr,.one .ptr] w K:=by
 refine qfs ?_
 unfold qcO
 refine qtp (fun h=>by omega) fun _ _ dbk FD w1 d1 Q U=>?_
 rw [zJ] at d1
 obtain ⟨D',e1,q1,s1,V,o1,z1⟩:=qnu (qpA n) (qqw n) h8 R
 have I:=hv.frame0 Q
 have hg:HG∉FD:=fun hm=>by have:=U _ hm; have:=hv.lt; omega
 have ar:(newM n).safe.length=n:=by simp [newM]
 refine qag (fun b w'=>b=false/\∃ F',DS dbk w1 FD w' F' D' (0+5000)) ?_ ?_
 ·refine cond_false rfl (cond_false rfl ?_)
  refine qpn d1 (Lim.new R) (by decide) (by omega) I hg fun w' F' d'=>?_
  rw [e1] at d' ⊢
  exact ⟨rfl,F',d'⟩
 rintro b w2 ⟨rfl,F2,A⟩
 refine cond_false rfl ?_
 have C:∀ b∈F2,w.heap.size<=b:=fun b u=>by
  rcases A.nw b u with h | h
  ·exact U b h
  ·exact zL Q.size h
 have J:=o1.open
 have E:=(A.hv I hg).1
 have O:w.heap.size<=w2.heap.size:=zL Q.size A.fr.size
 refine qqM (F2++HG::Y) (fun b u=>?_) A.at_ A.lim.ok E (fun h=>by rw [J] at h; cases h) fun pb F M w3 hM hp f3 n3=>?_
 ·rcases zD.1 u with u | u
  ·exact A.at_.lt b u
  rcases zG.1 u with rfl | u
  ·exact E.lt
  ·exact yC (G b u) O
 rw [J] at hM
 cases hM
 refine cond_false rfl ?_
 refine hk dbk pb F2 F D' w3 ⟨A.at_.frame0 f3,A.lim,hp,E.frame0 f3,qtT h8 R,fun b u=>⟨fun hm=>?_,fun e=>hY (e▸u)⟩⟩ ⟨q1,s1,V,o1,e1,z1⟩ ((Q.trans' A.fr fun b u=>.inr (U b u)).trans' f3 (by simp)) fun b u=>?_
 ·have:=C b hm
  have:=G b u
  omega
 rcases zD.1 u with u | u
 ·exact C b u
 ·exact zL O (n3 b u)
def strL (l:List Int):ByteArray:=⟨(Lib.bytesOf l).toArray⟩
theorem qaT (l:List Int):(strL l).size=l.length:=by simp [strL,ByteArray.size,Lib.bytesOf]
theorem qta (a b:List Int):strL a++strL b=strL (a++b):=by
 apply ByteArray.ext
 simp [strL,Lib.bytesOf]
theorem qjg (l:List Int):(strL l).data.toList=Lib.bytesOf l:=by simp [strL]
theorem qs4 {l:List Int} (u:IsB l) {n:Nat} (h:n<l.length):∃ b,(strL l)[n]?=some b/\(b.toNat:Int)=l[n]:=by
 have A:=u l[n] (zW h)
 refine ⟨UInt8.ofNat l[n].toNat,?_,?_⟩
 ·show (if h:n<(strL l).size then some _ else none)=_
  rw [dif_pos (by rw [qaT]; exact h)]
  show some ((strL l).data[n]'_)=_
  simp [strL,Lib.bytesOf]
 ·simp; omega
theorem qnL (l:List Int) (i j:Nat) (h:i<=j) (u:j<=l.length):(strL l).extract i j=strL ((l.take j).drop i):=by
 apply ByteArray.ext
 simp [strL,Lib.bytesOf,drop_take]
theorem qoa {a b:List Int} (A:IsB a) (C:IsB b) (h:Lib.bytesOf a=Lib.bytesOf b):a=b:=by
 induction a generalizing b with
 | nil=>cases b with
  | nil=>rfl
  | cons y b=>simp [Lib.bytesOf] at h
 | cons x a ih=>cases b with
  | nil=>simp [Lib.bytesOf] at h
  | cons y b=>
   have E:=congrArg (·.head?) h
   have G:=congrArg List.tail h
   simp [Lib.bytesOf] at E
   have I:=A x (by simp)
   have J:=C y (by simp)
   have e:x.toNat=y.toNat:=by
    have:=congrArg UInt8.toNat E
    simp at this
    omega
   rw [ih (fun z u=>A z (zN _ u)) (fun z u=>C z (zN _ u)) G,show x=y by omega]
theorem qsk {a b:List Int} (u:IsB a) (A:IsB b) (h:strL a=strL b):a=b:=
 qoa u A (by rw [<- qjg,<- qjg,h])
theorem quw {S:List Nat} {w:World} {s:Sl} {l:List Int} {src dst e:TypeId} (h:RdB S w s l) (hB:IsB l) (hs:Tryz.prog.underlying src=some (.slice e)) (he:Tryz.prog.underlying e=some (.int .u8)) (hd:Tryz.prog.underlying dst=some .string) :
  (convert src dst (.slice s.a s.len s.cap)).run Tryz.prog w=.ok (.string (strL l)) w:=by
 cases ha:s.a with
 | none=>
  have hl0:l=[]:=by
   rcases h.2.2 with h3 | ⟨b,o,cs,T,fr,ha',_⟩
   ·exact h3
   ·rw [ha] at ha'; cases ha'
  subst hl0
  rw [run_convert_bytes_string w src dst e none s.len s.cap hs he hd,h.1]
  rfl
 | some a=>
  have hc:=h.cells qat ha
  have hlen:s.len=(Lib.bytesOf l).length:=by rw [h.1]; simp [Lib.bytesOf]
  rw [hlen]
  refine run_convert_bytes_back w src dst e a s.cap (Lib.bytesOf l) hs he hd fun j hj=>?_
  have hj':j<l.length:=by simpa [Lib.bytesOf] using hj
  have hx:=hB l[j] (zW hj')
  rw [hc j (.int .u8 l[j]) (by rw [qaA,zQ,zA hj']; rfl)]
  simp [Lib.bytesOf]
  omega
theorem qm2 {S:List Nat} {w:World} {s:Sl} {l:List Int} {src dst e:TypeId} {K:ByteArray->Prop} (h:RdB S w s l) (hB:IsB l) (hs:Tryz.prog.underlying src=some (.slice e)) (he:Tryz.prog.underlying e=some (.int .u8)) (hd:Tryz.prog.underlying dst=some .string) (k:K (strL l)) :
  runQ [.one .str] (fun w'=>(convert src dst (.slice s.a s.len s.cap)).run Tryz.prog w') w K:=by
 unfold runQ
 exact ⟨strL l,quw h hB hs he hd,k⟩
theorem qd3 {S:List Nat} {w:World} {s:Sl} {l:List Int} {K:ByteArray->Prop} (h:RdB S w s l) (hB:IsB l) (k:K (strL l)) :
  runQ [.one .str] (fun w'=>(convert 23 9 (.slice s.a s.len s.cap)).run Tryz.prog w') w K:=qm2 (e:=5) h hB (by kernel_rfl) (by kernel_rfl) (by kernel_rfl) k
theorem ql7 {w:World} {l:List Int} {src dst e:TypeId} {K:Sl->World->Prop} (hB:IsB l) (hs:Tryz.prog.underlying src=some .string) (hd:Tryz.prog.underlying dst=some (.slice e)) (he:Tryz.prog.underlying e=some (.int .u8))
  (k:∀ s w',(∀ G:List Nat,(∀ b∈G,b<w.heap.size)->RdB G w' s l)->Fr [] w w'->K s w') :
  Pt.run [Ty1.one Cell.slice] ((convert src dst (.string (strL l))).run Tryz.prog w) K:=by
 have hrun:=run_bytes_of_string (P:=Tryz.prog) w src dst e (strL l) hs hd he
 have hsz:=qaT l
 have hge:(strL l).size<=grownCap w (strL l).size 0 e:=grownCap_ge w (strL l).size 0 e
 generalize grownCap w (strL l).size 0 e=G at hrun hge
 refine qcF ⟨_,_,_⟩ _ hrun ?_
 refine k _ _ (fun g hg=>⟨hsz,hge,?_⟩) ((Fr.refl [] w).drew.alloc _)
 by_cases hl:l=[]
 ·exact .inl hl
 ·refine .inr ⟨w.heap.size,0,bytesRow (strL l) G,e,_,rfl,by rw [qcD]; exact if_pos rfl,fun hm=>absurd (hg _ hm) (Nat.lt_irrefl _),fun i x hx=>?_⟩
  have hi:=(zP.1 hx).1
  have hxB:=hB x (yE hx)
  have e1:(bytesRow (strL l) G).toList[i]?=some (.int .u8 x):=by
   unfold bytesRow
   rw [Array.toList_append,yY (by simp [strL,Lib.bytesOf]; exact hi)]
   simp [strL,Lib.bytesOf,hx]
   omega
  rw [xR,xT]
  apply List.ext_getElem?
  intro j
  rw [xA,yZ]
  cases j with
  | zero=>rw [if_pos (by decide),xS,e1]; rfl
  | succ j=>rw [if_neg (by omega)]; rfl
theorem qkO {l:List Int} {i:Int} {K:Int->Prop} (h:IsB l) (n:Nat) (hi:i=n) (u:n<l.length) (k:K l[n]):idxS (strL l) i K:=by
 subst hi
 obtain ⟨b,A,C⟩:=qs4 h u
 unfold idxS
 exact ⟨b,⟨by omega,by rw [zJ]; exact A⟩,by rw [C]; exact k⟩
theorem quc {l:List Int} {lo hi:Option Int} {K:ByteArray->Prop} (a b:Nat) (h:lo.getD 0=a) (u:hi.getD l.length=b) (A:a<=b) (C:b<=l.length) (k:K (strL ((l.take b).drop a))):slcS (strL l) lo hi K:=by
 unfold slcS
 rw [qaT]
 refine ⟨⟨by omega,by omega,by omega⟩,?_⟩
 rw [h,u,zJ,zJ,qnL l a b A C]
 exact k
theorem qmP {a b:List Int} (u:IsB a) (A:IsB b):((strL a).toList==(strL b).toList)=decide (a=b):=by
 rw [Bool.eq_iff_iff,yO,yM]
 constructor
 ·intro h
  refine qsk u A ?_
  have C:(strL a).data.toList=(strL b).data.toList:=by
   rw [<- Go.ByteArray.toList_eq,<- Go.ByteArray.toList_eq,h]
  exact ByteArray.ext (Array.toList_inj.1 C)
 ·rintro rfl; rfl
end Go.Proofs.YtmmkegapckbomaaGreatDoor
end
section
namespace Go.Proofs.YtmmkegapckbomaaGreatDoor
open Go Go.Pt List
open Classical
attribute [local irreducible] ld ldA ldV fld fldA newZ st new idx idxS idxA slc slcS slcP mkS chk nn call callV inv run runQ runU join loop held ext rng undefer s2a nxt ent IntKind.wrap
theorem qe7 {w w':World} (f:Fr [] w w'):Fr [] w w'.drew:=f.trans (Fr.refl [] w').drew
theorem qlc {w:World} {a b:Key} {K:Int->WP} (Q:IsB a) (R:IsB b) (la:a.length<=1000000) (lb:b.length<=1000000) (J:∀ w',Fr [] w w'->K (cmpL a b) w') :
  cW 34 [.string (strL a),.string (strL b)] [.one .i] w K:=by
 refine qgb ?_
 unfold qdc
 rw [qaT,qaT]
 refine qak (fun s w'=>Fr [] w w'/\∃ i:Nat,s=i/\i<=a.length/\i<=b.length/\cmpL (a.drop i) (b.drop i)=cmpL a b) (fun s _=>(a.length-s.toNat)) ⟨.refl _ _,0,rfl,yW _,yW _,rfl⟩ ?_
 rintro s U ⟨I,i,rfl,V,aa,u⟩ X hX
 refine qbS (decide (i<a.length/\i<b.length)) U (fun M O=>?_) ?_
 ·refine qaa (fun h=>?_) (fun h=>?_)
  ·have h:=zC h
   have e:decide ((i:Int)<(b.length:Int))=decide (i<a.length/\i<b.length):=by
    rw [decide_eq_decide]; omega
   rw [e]; exact O
  ·have h:=zB h
   rw [show decide (i<a.length/\i<b.length)=false from zU (by omega)] at O
   exact O
 refine qaa (fun h=>?_) (fun h=>?_)
 ·obtain ⟨C,A⟩:=zC h
  rw [zX C,zX A,cmpL] at u
  refine qkO Q i rfl C (qkO R i rfl A ?_)
  refine qaa (fun E=>?_) (fun E=>?_)
  ·have E:=zC E
   rw [if_pos E] at u
   rw [u]
   exact J _ (qe7 I)
  have E:=zB E
  rw [if_neg E] at u
  refine qkO Q i rfl C (qkO R i rfl A ?_)
  refine qaa (fun G=>?_) (fun G=>?_)
  ·have G:=zC G
   rw [if_pos G] at u
   rw [u]
   exact J _ (qe7 (qe7 I))
  have G:=zB G
  rw [if_neg G] at u
  refine hX _ _ ⟨(qe7 (qe7 I)),i+1,?_,C,A,u⟩ ?_
  ·rw [wi' _ (by omega)]; rfl
  ·rw [wi' _ (by omega)]; omega
 ·have h:=zB h
  by_cases C:i<a.length
  ·have A:¬ i<b.length:=fun A=>h ⟨C,A⟩
   rw [zX C,show List.drop i b=[] from vE (by omega),cmpL] at u
   refine cond_false (zU (by omega)) (cond_true (zZ (by omega)) ?_)
   rw [u]
   exact J _ I
  ·rw [vE (by omega)] at u
   by_cases A:i<b.length
   ·rw [zX A,cmpL] at u
    refine cond_true (zZ (by omega)) ?_
    rw [u]
    exact J _ I
   ·rw [vE (by omega),cmpL] at u
    refine cond_false (zU (by omega)) (cond_false (zU (by omega)) ?_)
    rw [u]
    exact J _ I
theorem qpV {w:World} {s:Key} {n:Nat} {y:Int} {K:ByteArray->WP} (O:IsB s) (hl:s.length<=1000000) (hn:n<=24) (Q:0<=y/\y<256) (R:∀ x w',x.length=n->IsB x->Fr [] w w'->K (strL x) w') :
  cW 16 [.string (strL s),.i n,.b y] [.one .str] w K:=by
 refine qeg ?_
 unfold qcs
 refine qbS (n:Int) w (fun M C=>cond_false (zU (by omega)) C) ?_
 refine qbS (n:Int) w (fun M C=>cond_false (zU (by omega)) C) ?_
 refine qak (fun x w'=>Fr [] w w'/\∃ l,x=strL l/\IsB l/\l.length<=1000000+24) (fun x _=>n-x.size) ⟨.refl _ _,s,rfl,O,by omega⟩ ?_
 rintro x U ⟨G,l,rfl,I,V⟩ X hX
 rw [qaT]
 refine qaa (fun h=>?_) (fun h=>?_)
 ·have h:=zC h
  have h1:=Own.start [] U
  refine Own.new' h1 fun r w2 _ f2 h2=>?_
  have E:RdB [] w2 ⟨pW r,1,1⟩ [y]:=by
   refine ⟨rfl,zM _,.inr ⟨r,0,_,_,_,rfl,h2.at (i:=0) rfl,(fun h=>nomatch h),fun i x J=>?_⟩⟩
   cases i with
   | zero=>cases J; rfl
   | succ i=>cases J
  have u:IsB [y]:=fun z A=>by rw [zE.1 A]; exact Q
  refine qm2 (s:=⟨pW r,1,1⟩) (src:=23) (dst:=9) (e:=5) E u (by kernel_rfl) (by kernel_rfl) (by kernel_rfl) ?_
  rw [qaT]
  refine qbg (by show ((_:Nat):Int)<=9223372036854775807; rw [xL]; omega) ?_
  rw [qta]
  refine hX _ _ ⟨G.trans f2,l++[y],rfl,fun z A=>?_,by rw [zF,xL]; omega⟩ (by rw [qaT,qaT,zF,xL]; omega)
  rcases zD.1 A with h | h
  ·exact I z h
  ·exact u z h
 ·have h:=zB h
  refine quc 0 n rfl rfl (yW _) (by omega) ?_
  exact R _ _ (by rw [xE,yK]; omega) (fun z A=>I z (yU A)) G
def encPr (x:Key×Key):List Value:=[.string (strL x.1),.string (strL x.2)]
theorem qbU (x:Key×Key):(encPr x).length=2:=rfl
theorem qrT (x:Key×Key):∀ u∈encPr x,u.oneCell'=true:=fun u h=>by
 rcases zG.1 h with rfl | h
 ·rfl
 ·rw [zE.1 h]; rfl
theorem quj:∃ i,Tryz.prog.info? 44=some i/\i.zero=some (.agg #[.string ⟨#[]⟩,.string ⟨#[]⟩])/\i.size=2/\i.bytes=32:=qcV (by kernel_rfl)
theorem qfg {w:World} {s:Sl} {L:Prs} {B:List Nat} {a b:ByteArray} {x:Key×Key} {K:Sl->WP} (h:Buf encPr 2 w s L B) (E:a=strL x.1) (G:b=strL x.2) (R:L.length<=1000000) (I:∀ C B' w',Buf encPr 2 w' C (L++[x]) B'->Fr B w w'->(∀ b∈B',b∈B\/w.heap.size<=b)->K C w') :
  Pt.new (.cells #[.string a,.string b] 44) w fun r J=>Pt.run [Ty1.one Cell.slice] ((Builtin.append_ #[31,31] 31 #[s.v,.slice (pW r) 1 1]).run Tryz.prog J) K:=by
 obtain ⟨i,O,Q,u,A⟩:=quj
 subst E G
 exact Buf.push (e:=44) (x:=x) h qbU (qrT x) (by kernel_rfl) O Q u rfl rfl (by rw [A]; omega) (by omega) I
theorem Buf.none {α:Type} {enc:α->List Value} {k:Nat} {w:World} {b:Nat} {T:TypeId} (h:w.heap[b]?=some (.cells #[] T (0,0))):Buf enc k w ⟨pW b,0,0⟩ [] [b]:=
 .inr ⟨b,0,#[],T,rfl,rfl,rfl,h,rfl,zM _,by simp,by simp⟩
def PrB (L:Prs):Prop:=∀ x∈L,IsB x.1/\IsB x.2/\x.1.length<=1000000/\x.2.length<=1000000
theorem Rds.str1 {S:List Nat} {w:World} {s:Sl} {L:Prs} {i:Int} {K:ByteArray->Prop} (h:Rds encPr 2 S w s L) (n:Nat) (hi:i=n) (A:n<L.length) (C:K (strL L[n].1)):idx s i 2 fun a=>ld .str a w K:=by
 subst hi
 obtain ⟨O,b,o,E,_,G,T,Q,I,J⟩:=h.at n (zA A)
 refine qa0 E ⟨by omega,by omega⟩ ?_
 rw [zJ]
 refine qaE _ ?_ C
 refine (qaf I).trans ?_
 have u:((G.toList.drop (o+n*2)).take 2)[0]?=(encPr L[n])[0]?:=by rw [J]
 rw [xA,if_pos (by decide),yZ,xS] at u
 rw [<- xK,u]
 rfl
theorem qr9 {k v:Key} {d:Bool} {L:Prs} {i:Nat} (hi:i<L.length):refP k v d (L.drop i)=(refStep k v d L[i]).1++refP k v (refStep k v d L[i]).2 (L.drop (i+1)):=by
 rw [zX hi,refP]
theorem qsq {w:World} {S:List Nat} {s:Sl} {L:Prs} {t:Int} {k v:Nat} {key val:Key} {K:Sl×Int->WP} (hs:shp t=((k:Int),(v:Int))) (ar:k≠0) (af:key.length=k) (ag:val.length=v) (ah:IsB key) (au:IsB val) (av:k<=1000000)
  (h:Rds encPr 2 S w s L) (hP:PrB L) (hL:L.length<=100000)
  (kk:∀ s' B' w',Buf encPr 2 w' s' (refP key val false L) B'->Fr [] w w'->(∀ b∈B',w.heap.size<=b)->K (s',0) w') :
  cW 18 [s.v,.i t,.string (strL key),.string (strL val)] [.one .slice,.one .i] w K:=by
 refine qgp ?_
 unfold qdl
 have an:s.len=L.length:=h.1
 refine qhq ?_
 rw [hs,qaT,qaT]
 refine cond_false (zR.2 (by dsimp only; omega)) ?_
 refine qbS false w (fun M U=>cond_false (by dsimp only; rw [af]; simp) (by dsimp only; rw [ag]; simpa using U)) (cond_false rfl ?_)
 refine Own.new' (Own.start [] w) fun r w1 e1 f1 ai=>?_
 have aj:Buf encPr 2 w1 ⟨pW r,0,0⟩ [] [r]:=Buf.none (ai.at (i:=0) rfl)
 refine qak (fun q w'=>∃ i:Nat,∃ A B,q.2.2=i/\i<=L.length/\Buf encPr 2 w' q.1 A B/\A++refP key val q.2.1 (L.drop i)=refP key val false L/\A.length<=2*i/\Fr [] w w'/\(∀ b∈B,w.heap.size<=b)) (fun q _=>L.length-q.2.2.toNat) ⟨0,[],[r],rfl,yW _,aj,rfl,zM _,f1,fun b C=>by rw [zE.1 C]; omega⟩ ?_
 rintro ⟨s1,d,x⟩ w2 ⟨i,A,B,hx,hi,C,V,aA,f2,n2⟩ X hX
 dsimp only at hx V C ⊢
 subst hx
 refine qaa (fun hc=>?_) (fun hc=>?_)
 ·have hc:=zC hc
  have I:i<L.length:=by omega
  rw [qr9 I] at V
  obtain ⟨p1,p2,p3,p4⟩:=hP L[i] (zW I)
  refine qag (fun q w'=>∃ B',q.2=(refStep key val d L[i]).2/\Buf encPr 2 w' q.1 (A++(refStep key val d L[i]).1) B'/\Fr [] w w'/\∀ b∈B',w.heap.size<=b) ?_ ?_
  ·refine Rds.str1 (h.frame0 f2) i rfl I ?_
   refine qlc p1 ah p3 (by omega) fun w3 f3=>?_
   have R:=f2.trans f3
   have ad:=C.frame0 f3
   refine qag (fun q w'=>∃ B',q.2=(refStep key val d L[i]).2/\Buf encPr 2 w' q.1 (A++if cmpL L[i].1 key>=0/\d=false then [(key,val)] else []) B'/\Fr [] w w'/\∀ b∈B',w.heap.size<=b) ?_ ?_
   ·refine qbS (decide (cmpL L[i].1 key>=0/\d=false)) w3 (fun M U=>?_) ?_
    ·refine qaa (fun u=>?_) (fun u=>?_)
     ·have u:=zC u
      have e:decide (cmpL L[i].1 key>=0/\d=false) = !d:=by
       cases d
       ·exact zZ ⟨u,rfl⟩
       ·exact zU fun h=>nomatch h.2
      rw [e] at U; exact U
     ·have u:=zB u
      rw [show decide (cmpL L[i].1 key>=0/\d=false)=false from zU fun h=>u h.1] at U
      exact U
    refine qaa (fun u=>?_) (fun u=>?_)
    ·have u:=zC u
     refine qfg (x:=(key,val)) ad rfl rfl (by omega) fun s4 Q w4 E G J=>?_
     refine ⟨Q,?_,by rw [if_pos u]; exact E,(R.trans' G fun b C=>.inr (n2 b C)),fun b C=>?_⟩
     ·show true=_
      unfold refStep
      dsimp only
      rw [zZ u.1,Bool.or_true]
     ·rcases J b C with h | h
      ·exact n2 b h
      ·exact zL R.size h
    ·have u:=zB u
     refine ⟨B,?_,by rw [if_neg u,xG]; exact ad,R,n2⟩
     show d=_
     unfold refStep
     dsimp only
     cases d
     ·rw [Bool.false_or]; exact (zU fun h=>u ⟨h,rfl⟩).symm
     ·rw [Bool.true_or]
   ·rintro ⟨s4,d4⟩ w4 ⟨Q,O,E,G,J⟩
    dsimp only at O E ⊢
    subst O
    refine qaa (fun u=>?_) (fun u=>?_)
    ·have u:cmpL L[i].1 key≠0:=by simpa using u
     refine Rds.getA (x:=L[i]) (y:=(strL L[i].1,strL L[i].2)) (h.frame0 G) i rfl (zA I) rfl rfl ?_
     refine qfg (x:=L[i]) E rfl rfl (by split <;> simp <;> omega) fun s5 B5 w5 b5 f5 n5=>?_
     refine ⟨B5,rfl,?_,(G.trans' f5 fun b C=>.inr (J b C)),fun b C=>?_⟩
     ·unfold refStep
      dsimp only
      rw [if_pos u,<- zV]
      exact b5
     ·rcases n5 b C with h | h
      ·exact J b h
      ·exact zL G.size h
    ·have u:cmpL L[i].1 key=0:=by simpa using u
     refine ⟨Q,rfl,?_,G,J⟩
     unfold refStep
     dsimp only
     rw [if_neg (show ¬ cmpL L[i].1 key≠0 from fun h=>h u),xG]
     exact E
  ·rintro ⟨s4,d4⟩ w4 ⟨Q,O,E,G,J⟩
   dsimp only at O E ⊢
   subst O
   refine hX _ _ ⟨i+1,_,Q,?_,I,E,by rw [zV]; exact V,?_,G,J⟩ ?_
   ·show IntKind.wrap .i64 _=_
    rw [wi' _ (by omega)]; rfl
   ·rw [zF]
    have:(refStep key val d L[i]).1.length<=2:=by
     unfold refStep
     dsimp only
     split <;> split <;> simp
    omega
   ·show L.length-(IntKind.wrap .i64 _).toNat<_
    rw [wi' _ (by omega)]; show _<L.length-((i:Int)).toNat; omega
 ·have hc:=zB hc
  have al:i=L.length:=by omega
  subst al
  rw [drop_length,refP] at V
  refine qag (fun q w'=>∃ B',Buf encPr 2 w' q (refP key val false L) B'/\Fr [] w w'/\∀ b∈B',w.heap.size<=b) ?_ ?_
  ·refine qaa (fun u=>?_) (fun u=>?_)
   ·have u:d=false:=by simpa using u
    subst u
    refine qfg (x:=(key,val)) C rfl rfl (by omega) fun s4 Q w4 E G J=>?_
    refine ⟨Q,by rw [<- V]; exact E,(f2.trans' G fun b C=>.inr (n2 b C)),fun b C=>?_⟩
    rcases J b C with h | h
    ·exact n2 b h
    ·exact zL f2.size h
   ·have u:d=true:=by simpa using u
    subst u
    refine ⟨B,by rw [<- V]; simpa using C,f2,n2⟩
  ·rintro q w4 ⟨Q,E,G,J⟩
   exact kk q Q w4 E G J
theorem Rds.str2 {S:List Nat} {w:World} {s:Sl} {L:Prs} {i:Int} {K:ByteArray->Prop} (h:Rds encPr 2 S w s L) (n:Nat) (hi:i=n) (A:n<L.length) (C:K (strL L[n].2)):idx s i 2 fun a=>ld .str ({ block:=a.block,off:=a.off+1 }:Addr) w K:=by
 subst hi
 obtain ⟨O,b,o,E,_,G,T,Q,I,J⟩:=h.at n (zA A)
 refine qa0 E ⟨by omega,by omega⟩ ?_
 rw [zJ]
 refine qaE _ ?_ C
 refine (qaf I).trans ?_
 have u:((G.toList.drop (o+n*2)).take 2)[1]?=(encPr L[n])[1]?:=by rw [J]
 rw [xA,if_pos (by decide),yZ] at u
 rw [<- xK,u]
 rfl
theorem qrI {key:Key} {x:Key×Key} {L:Prs}:getP key (x::L)=if x.1=key then some x.2 else getP key L:=by
 unfold getP
 by_cases h:x.1=key
 ·rw [if_pos h,List.find?_cons_of_pos (by simp [h])]; rfl
 ·rw [if_neg h,List.find?_cons_of_neg (by simp [h])]
theorem qsE {w:World} {S:List Nat} {s:Sl} {L:Prs} {t:Int} {k v:Nat} {key:Key} {K:ByteArray×Int->WP} (U:shp t=((k:Int),(v:Int))) (V:k≠0) (I:key.length=k) (J:IsB key)
  (h:Rds encPr 2 S w s L) (hP:PrB L) (hL:L.length<=100000) (O:∀ w',Fr [] w w'->K (match getP key L with | some x=>(strL x,0) | none=>(⟨#[]⟩,5)) w') :
  cW 67 [s.v,.i t,.string (strL key)] [.one .str,.one .i] w K:=by
 refine qf3 ?_
 unfold qdh
 have Q:s.len=L.length:=h.1
 refine qhq ?_
 rw [U,qaT]
 refine cond_false (zR.2 (by dsimp only; omega)) ?_
 refine cond_false (by dsimp only; rw [I]; simp) ?_
 refine qak (fun q w'=>∃ i:Nat,q=i/\i<=L.length/\getP key L=getP key (L.drop i)/\Fr [] w w') (fun q _=>L.length-q.toNat) ⟨0,rfl,yW _,rfl,.refl _ _⟩ ?_
 rintro q R ⟨i,rfl,hi,A,E⟩ X hX
 refine qaa (fun G=>?_) (fun G=>?_)
 ·have G:=zC G
  have u:i<L.length:=by omega
  have hp:=hP L[i] (zW u)
  rw [zX u,qrI] at A
  refine Rds.str1 (h.frame0 E) i rfl u ?_
  rw [qmP hp.1 J]
  refine qaa (fun C=>?_) (fun C=>?_)
  ·have C:=zC C
   rw [if_pos C] at A
   refine Rds.str2 (h.frame0 E) i rfl u ?_
   have:=O R E
   rw [A] at this
   exact this
  ·have C:=zB C
   rw [if_neg C] at A
   refine hX _ _ ⟨i+1,?_,u,A,E⟩ ?_
   ·rw [wi' _ (by omega)]; rfl
   ·rw [wi' _ (by omega)]; omega
 ·have G:=zB G
  rw [vE (by omega)] at A
  have:=O R E
  rw [A] at this
  exact this
theorem qsL {w:World} {S:List Nat} {s:Sl} {L:Prs} {t:Int} {k v:Nat} {key:Key} {K:Sl×Int->WP} (hs:shp t=((k:Int),(v:Int))) (O:k≠0) (Q:key.length=k) (G:IsB key)
  (h:Rds encPr 2 S w s L) (hP:PrB L) (hL:L.length<=100000) (u:key∈keysP L)
  (kk:∀ s' B' w',Buf encPr 2 w' s' (cutP key L) B'->Fr [] w w'->(∀ b∈B',w.heap.size<=b)->K (s',0) w') :
  cW 22 [s.v,.i t,.string (strL key)] [.one .slice,.one .i] w K:=by
 refine qfL ?_
 unfold qdd
 have ad:s.len=L.length:=h.1
 refine qsE hs O Q G h hP hL fun w0 f0=>?_
 obtain ⟨x,hx⟩:=qmb u
 rw [hx]
 refine cond_false rfl ?_
 refine Own.new' (Own.start [] w0) fun r w1 e1 f1 R=>?_
 have U:Buf encPr 2 w1 ⟨pW r,0,0⟩ [] [r]:=Buf.none (R.at (i:=0) rfl)
 have am:=f0.size
 refine qak (fun q w'=>∃ i:Nat,∃ B,q.2=i/\i<=L.length/\Buf encPr 2 w' q.1 (cutP key (L.take i)) B/\Fr [] w w'/\(∀ b∈B,w.heap.size<=b)) (fun q _=>L.length-q.2.toNat) ⟨0,[r],rfl,yW _,U,f0.trans f1,fun b A=>by rw [zE.1 A]; omega⟩ ?_
 rintro ⟨s1,y⟩ w2 ⟨i,B,hy,hi,A,E,J⟩ X hX
 dsimp only at hy A ⊢
 subst hy
 refine qaa (fun I=>?_) (fun I=>?_)
 ·have I:=zC I
  have u:i<L.length:=by omega
  have hp:=hP L[i] (zW u)
  refine qag (fun q w'=>∃ B',Buf encPr 2 w' q (cutP key (L.take (i+1))) B'/\Fr [] w w'/\∀ b∈B',w.heap.size<=b) ?_ ?_
  ·refine Rds.str1 (h.frame0 E) i rfl u ?_
   rw [qmP hp.1 G,qqt u]
   refine qaa (fun C=>?_) (fun C=>?_)
   ·have C:¬ L[i].1=key:=by simpa using C
    refine Rds.getA (x:=L[i]) (y:=(strL L[i].1,strL L[i].2)) (h.frame0 E) i rfl (zA u) rfl rfl ?_
    have V:(cutP key (L.take i)).length<=1000000:=by
     have C:(cutP key (L.take i)).length<=(L.take i).length:=length_filter_le _ _
     rw [yK] at C
     omega
    refine qfg (x:=L[i]) A rfl rfl V fun s5 B5 w5 b5 f5 n5=>?_
    refine ⟨B5,by rw [if_neg C]; exact b5,E.trans' f5 (fun b A=>.inr (J b A)),fun b A=>?_⟩
    rcases n5 b A with h | h
    ·exact J b h
    ·exact zL E.size h
   ·have C:L[i].1=key:=by simpa using C
    exact ⟨B,by rw [if_pos C,xG]; exact A,E,J⟩
  ·rintro q w3 ⟨B3,b3,f3,n3⟩
   refine hX _ _ ⟨i+1,B3,?_,u,b3,f3,n3⟩ ?_
   ·show IntKind.wrap .i64 _=_
    rw [wi' _ (by omega)]; rfl
   ·show L.length-(IntKind.wrap .i64 _).toNat<_
    rw [wi' _ (by omega)]; show _<L.length-((i:Int)).toNat; omega
 ·have I:=zB I
  have aa:i=L.length:=by omega
  subst aa
  rw [xZ] at A
  exact kk s1 B w2 A E J
section
theorem qtV {k v:Key} {l:Prs} (h:SortP l):(insP k v l).length<=l.length+1:=by
 by_cases hm:k∈keysP l
 ·rw [qbT h hm]; omega
 ·rw [qbR hm]; omega
theorem qtC {k:Key} {l:Prs}:(cutP k l).length<=l.length:=length_filter_le _ _
theorem qrn (n:Nat):IsB (zs n):=fun x h=>by rw [(mem_replicate.1 h).2]; decide
theorem PrsOk.prB {k v:Nat} {L:Prs} (h:PrsOk k v L) (E:k<=1000000) (G:v<=1000000):PrB L:=fun x u=>by
 obtain ⟨I,J,A,C⟩:=h x u
 exact ⟨A,C,by omega,by omega⟩
structure HiI (k v c:Nat) (t:Int) (w0 w:World) (s:Sl) (m:Nat) (dbk pb:Nat) (FD:List Nat) (D:DiskM) (F:List Nat) (M:PgM) (P:List Int) (L:Prs) (B:List Nat):Prop where
 tw:TW dbk pb FD D 5000 w [] F M
 sole:Sole D M k v c t L P
 buf:Buf encPr 2 w s L B
 len:L.length<=m
 fr:Fr [] w0 w
 new:∀ b∈FD++F,w0.heap.size<=b
 apart:∀ b∈B,b∉F
theorem qkg {dbk pb j:Nat} {FD Y F:List Nat} {D:DiskM} {w:World} {M:PgM} (h:TW dbk pb FD D j w Y F M):∀ b∈Zo FD Y F,b<w.heap.size:=fun b u=>by
 rcases zD.1 u with u | u
 ·rcases zD.1 u with u | u
  ·exact h.disk.lt b u
  ·rcases zG.1 u with rfl | u
   ·exact h.hv.lt
   ·exact h.ylt b u
 ·exact h.pager.lt b u
section
variable {k v c:Nat} {t:Int} {w0 w:World} {s:Sl} {m:Nat} {dbk pb:Nat} {FD F B:List Nat} {D:DiskM} {M:PgM} {P:List Int} {L:Prs}
end
end
end Go.Proofs.YtmmkegapckbomaaGreatDoor
end
section
namespace Go.Pt
open Go
theorem qbX {P:Program} {w:World} {v:Value} {f:FuncId} {ra args:List Value} {ts:List Ty1} {K:ElR ts->WP} (h:v=.func (.func f) ra.toArray #[]) (u:bodyless P f=false) (k:call P f (ra++args) ts w K):callV P v args ts w K:=by
 subst h
 refine .inl ⟨f,ra++args,?_,k⟩
 simp [Deferred.ofValue,invoke,qbe u]
theorem qfB {S ι:Type} {B:(S->WP)->S->WP} {s:S} {w:World} (I:ι->S->WP) (m:ι->Nat) (E:ι) (G:I E s w)
  (step:∀ i s w,I i s w->∀ X:S->WP,(∀ h u w',I h u w'->m h<m i->X u w')->B X s w):loop S B s w:=by
 intro J K
 have key:∀ k i s w,m i=k->I i s w->J s w:=by
  intro k
  induction k using Nat.strongRecOn with
  | _ k ih=>
   intro i s w O Q
   exact K s w (step i s w Q J fun h u w' A C=>ih (m h) (O▸C) h u w' rfl A)
 exact key _ E s w rfl G
end Go.Pt
namespace Go.Proofs.YtmmkegapckbomaaGreatDoor
open Go Go.Pt List
attribute [local irreducible] ld ldA ldV fld fldA newZ st new idx idxS idxA slc slcS slcP mkS chk nn call callV inv run runQ runU join loop held ext rng undefer s2a nxt ent IntKind.wrap
abbrev FrZ:=NdC×CFr
def frV (x:NdC) (i:Int):Array Value:=#[.bool x.1,x.2.1.v,x.2.2.1.v,x.2.2.2.v,.i i]
def encFz (z:FrZ):List Value:=[.bool z.1.1,z.1.2.1.v,z.1.2.2.1.v,z.1.2.2.2.v,.i z.2.2]
theorem qbx:∀ z,(encFz z).length=5:=fun _=>rfl
theorem qrB (z:FrZ):∀ u∈encFz z,u.oneCell'=true:=fun u h=>by
 unfold encFz at h
 simp only [zG,xX,or_false] at h
 rcases h with rfl | rfl | rfl | rfl | rfl <;> rfl
section
variable {w w':World} {s:Sl} {zs:List FrZ} {z:FrZ} {SB:List Nat}
theorem qeo (h:Buf encFz 5 w s (zs++[z]) SB):∃ b u T,SB=[b]/\s.a=pW b/\w.heap[b]?=some (.cells u T (0,0))/\s.len=zs.length+1/\s.len<=s.cap/\s.cap*5<=u.size/\u.toList.take (zs.length*5+5)=zs.flatMap encFz++encFz z:=by
 rcases h with ⟨_,h,_⟩ | ⟨b,o,u,T,E,rfl,G,I,C,J,K,A⟩
 ·exact absurd h (by simp)
 ·rw [zF,xL] at C A
  rw [xE,yP,yG,flatMap_nil,xG,xU] at A
  exact ⟨b,u,T,E,G,I,C,J,by omega,A⟩
theorem qsg {b j:Nat} (h:Buf encFz 5 w s (zs++[z]) [b]) (G:j<5):w.cell? ⟨b,zs.length*5+j,none⟩=(encFz z)[j]?:=by
 obtain ⟨I,J,T,A,K,C,O,Q,R,E⟩:=qeo h
 cases A
 rw [qaf C,<- xK]
 have u:=congrArg (·[zs.length*5+j]?) E
 rw [xA,if_pos (by omega),yX (by rw [qaC qbx]; omega),qaC qbx,vD] at u
 exact u
theorem qoZ {K:Addr->Prop} (h:Buf encFz 5 w s (zs++[z]) SB) (E:zs.length<=1000000) (u:∀ b,SB=[b]->K ⟨b,zs.length*5,none⟩):idx s (IntKind.wrap .i64 ((s.len:Int)-1)) 5 K:=by
 obtain ⟨b,G,T,A,C,I,J,O,Q,R⟩:=qeo h
 have e:IntKind.wrap .i64 ((s.len:Int)-1)=(zs.length:Int):=by rw [IntWalk.i64_in _ (by omega)]; omega
 rw [e]
 refine qa0 C ⟨by omega,by omega⟩ ?_
 rw [zJ,xR]
 exact u b A
theorem qum {b:Nat} {j:Int} {K:WP} (h:Buf encFz 5 w s (zs++[z]) [b]) (kk:∀ w',Buf encFz 5 w' s (zs++[(z.1,z.2.1,j)]) [b]->Fr [b] w w'->K w'):st ⟨b,zs.length*5+4,none⟩ [.i j] w K:=by
 obtain ⟨b',cs,T,hB,h2,h3,h4,h5,h6,h7⟩:=qeo h
 cases hB
 have hm:(zs.flatMap encFz++encFz z).length=zs.length*5+5:=by rw [zF,qaC qbx]; rfl
 refine qbY h3 _ rfl (by rfl) (by simp; omega) fun w' hb f=>kk w' (.inr ⟨b,0,_,T,rfl,rfl,h2,hb,by rw [zF,xL]; exact h4,h5,by rw [qao]; omega,?_⟩) f
 have:=qmn (cs:=cs) (M:=zs.flatMap encFz++encFz z) (i:=zs.length*5+4) (v:=.i j) (by rw [hm]; omega) (by rw [hm]; exact h7)
 rw [hm,set_append_right _ _ (by rw [qaC qbx]; omega),qaC qbx,vD] at this
 rw [xE,zF,xL,xU,yP,yG,flatMap_nil,xG]
 exact this
theorem qtH {K:Sl->Prop} (h:Buf encFz 5 w s (zs++[z]) SB) (Q:zs.length<=1000000) (C:∀ u,Buf encFz 5 w u zs SB->K u):slc s none (some (IntKind.wrap .i64 ((s.len:Int)-1))) none 5 K:=by
 obtain ⟨b,E,T,G,I,J,R,U,V,O⟩:=qeo h
 have e:IntKind.wrap .i64 ((s.len:Int)-1)=(zs.length:Int):=by rw [IntWalk.i64_in _ (by omega)]; omega
 rw [e]
 refine qe3 ⟨by omega,by omega⟩ ?_
 rw [zJ]
 refine C _ (.inr ⟨b,0,E,T,G,rfl,I,J,rfl,by dsimp only; omega,by dsimp only; omega,?_⟩)
 have A:=congrArg (List.take (zs.length*5)) O
 rw [take_take,xQ (by omega)] at A
 rw [xE,A,take_append_of_le_length (by rw [qaC qbx]; exact zM _)]
 exact zS (by rw [qaC qbx]; exact zM _)
end
def dir1 (cb:Nat) (down:Bool):Value:=.func (.func (if down then 72 else 69)) #[.pointer (pW cb)] #[]
def dir2 (cb:Nat) (down:Bool):Value:=.func (.func (if down then 73 else 70)) #[.pointer (pW cb)] #[]
def dir3 (cb:Nat) (down:Bool):Value:=.func (.func (if down then 74 else 71)) #[.pointer (pW cb)] #[]
def pickV (down:Bool) (frm to:Key) (n:NodeM):Int:=if down then highV n to else lowV n frm
def wayV (down:Bool) (i:Int):Int:=if down then i-1 else i+1
def overV (down:Bool) (frm to key:Key):Bool:=if down then decide (cmpL key frm<0) else decide (cmpL key to>0)
structure CurE (dbk pb:Nat) (FD:List Nat) (D:DiskM) (F:List Nat) (M:PgM) (k v:Nat) (frm to:Key) (down:Bool) (w0:World) (cb:Nat) (Y:List Nat) (w:World) (st:Sl) (SB:List Nat) (zs:List FrZ):Prop where
 cell:∃ sf sto,CuAt w cb ⟨pb,k,v,sf,sto,st,dir1 cb down,dir2 cb down,dir3 cb down⟩/\RdB (cb::(SB++Y)) w sf frm/\RdB (cb::(SB++Y)) w sto to
 tw:TW dbk pb FD D 5000 w (cb::(SB++Y)) F M
 buf:Buf encFz 5 w st zs SB
 nodes:∀ z∈zs,NodeR (cb::(SB++Y)) w z.1 z.2.1/\rightV z.2.1 k v
 cbs:cb∉SB
 cby:cb∉Y
 sby:∀ b∈SB,b∉Y
 new:∀ b∈cb::SB,w0.heap.size<=b
 frmB:IsB frm
 toB:IsB to
 few:zs.length<=100000
section
variable {dbk pb:Nat} {FD F:List Nat} {D:DiskM} {M:PgM} {k v:Nat} {frm to:Key} {down:Bool} {w0 w w':World} {cb:Nat} {Y Y' SB SB':List Nat} {st st':Sl} {zs zs':List FrZ}
theorem CurE.turn (h:CurE dbk pb FD D F M k v frm to down w0 cb Y w st SB zs) (f:Fr (cb::(SB++Y)) w w') (hc:∃ O E T,w.heap[cb]?=some (.cells (CuX.cells ⟨pb,k,v,O,E,st,dir1 cb down,dir2 cb down,dir3 cb down⟩) T (0,0))/\w'.heap[cb]?=some (.cells (CuX.cells ⟨pb,k,v,O,E,st',dir1 cb down,dir2 cb down,dir3 cb down⟩) T (0,0)))
  (C:Buf encFz 5 w' st' zs' SB') (hn:∀ z∈zs',NodeR (cb::(SB'++Y')) w' z.1 z.2.1/\rightV z.2.1 k v) (R:∀ b∈SB',b∈SB\/w.heap.size<=b) (hY:∀ b∈Y',b∈Y\/w.heap.size<=b) (U:∀ b∈Y',b<w'.heap.size) (V:∀ b∈SB',b∉Y') (hl:zs'.length<=100000):CurE dbk pb FD D F M k v frm to down w0 cb Y' w' st' SB' zs':=by
 obtain ⟨O,E,⟨T,u⟩,aa,ab⟩:=h.cell
 obtain ⟨K,G,T',e,Q⟩:=hc
 rw [e] at u
 have e1:K=O/\G=E:=by
  injection u with u
  injection u with u
  unfold CuX.cells at u
  simp only [Array.mk.injEq,List.cons.injEq,Value.slice.injEq,and_true,true_and] at u
  obtain ⟨⟨a1,a2,a3⟩,⟨b1,b2,b3⟩⟩:=u
  exact ⟨by cases O; cases K; simp_all,by cases E; cases G; simp_all⟩
 obtain ⟨rfl,rfl⟩:=e1
 have aj:=qab e
 have I:∀ b∈cb::(SB'++Y'),b∈cb::(SB++Y)\/w.heap.size<=b:=fun b C=>by
  rcases zG.1 C with rfl | C
  ·exact .inl (by simp)
  ·rcases zD.1 C with C | C
   ·exact (R b C).imp (fun h=>by simp [h]) id
   ·exact (hY b C).imp (fun h=>by simp [h]) id
 have ac:∀ b∈cb::(SB'++Y'),b<w'.heap.size:=fun b A=>by
  rcases zG.1 A with rfl | A
  ·exact qab Q
  ·rcases zD.1 A with A | A
   ·exact C.lt b A
   ·exact U b A
 have ad:w0.heap.size<=cb:=h.new cb (by simp)
 refine ⟨⟨K,G,⟨T',Q⟩,aa.frame f I,ab.frame f I⟩,h.tw.frameY f ac I,C,hn,fun hm=>?_,fun hm=>?_,V,fun b C=>?_,h.frmB,h.toB,hl⟩
 ·rcases R cb hm with J | J
  ·exact h.cbs J
  ·omega
 ·rcases hY cb hm with J | J
  ·exact h.cby J
  ·omega
 ·rcases zG.1 C with rfl | C
  ·exact ad
  ·rcases R b C with J | J
   ·exact h.new b (by simp [J])
   ·omega
theorem CurE.at (h:CurE dbk pb FD D F M k v frm to down w0 cb Y w st SB zs):∃ A u T,w.heap[cb]?=some (.cells (CuX.cells ⟨pb,k,v,A,u,st,dir1 cb down,dir2 cb down,dir3 cb down⟩) T (0,0)):=by
 obtain ⟨A,u,⟨T,C⟩,_⟩:=h.cell
 exact ⟨A,u,T,C⟩
theorem CurE.lt (h:CurE dbk pb FD D F M k v frm to down w0 cb Y w st SB zs):∀ b∈cb::(SB++Y),b<w.heap.size:=h.tw.ylt
theorem CurE.frame (h:CurE dbk pb FD D F M k v frm to down w0 cb Y w st SB zs) (f:Fr Y w w') (A:∀ b∈Y',b∈Y\/w.heap.size<=b) (C:∀ b∈Y',b<w'.heap.size):CurE dbk pb FD D F M k v frm to down w0 cb Y' w' st SB zs:=by
 obtain ⟨Q,E,T,G⟩:=h.at
 have I:=qab G
 have J:Fr (cb::(SB++Y)) w w':=f.mono fun b u _=>by simp [u]
 refine h.turn J ⟨Q,E,T,G,by rw [f.block cb I h.cby]; exact G⟩ (h.buf.frame f h.sby) (fun z K=>⟨(h.nodes z K).1.frame J fun b u=>?_,(h.nodes z K).2⟩) (fun b u=>.inl u) A C (fun b u R=>?_) h.few
 ·rcases zG.1 u with rfl | u
  ·exact .inl (by simp)
  ·rcases zD.1 u with u | u
   ·exact .inl (by simp [u])
   ·exact (A b u).imp (fun h=>by simp [h]) id
 ·rcases A b R with O | O
  ·exact h.sby b u O
  ·have:=h.lt b (by simp [u]); omega
theorem CurE.frame0 (h:CurE dbk pb FD D F M k v frm to down w0 cb Y w st SB zs) (f:Fr [] w w'):CurE dbk pb FD D F M k v frm to down w0 cb Y w' st SB zs:=
 h.frame (f.mono fun _ h=>nomatch h) (fun b u=>.inl u) fun b u=>yC (h.lt b (by simp [u])) f.size
theorem CurE.drew (h:CurE dbk pb FD D F M k v frm to down w0 cb Y w st SB zs):CurE dbk pb FD D F M k v frm to down w0 cb Y w.drew st SB zs:=h.frame0 (Fr.refl [] w).drew
theorem CurE.ldSt {K:Sl->Prop} (h:CurE dbk pb FD D F M k v frm to down w0 cb Y w st SB zs) (u:K st):ld .slice ⟨cb,5,none⟩ w K:=by
 obtain ⟨E,A,T,C⟩:=h.at
 exact qaE st (qaf C) u
theorem CurE.setSt {K:WP} (h:CurE dbk pb FD D F M k v frm to down w0 cb Y w st SB zs) (G:World) (f:Fr SB w G) (u:Buf encFz 5 G st' zs' SB') (hn:∀ z∈zs',z∈zs\/NodeR (cb::(SB'++Y)) G z.1 z.2.1/\rightV z.2.1 k v) (O:∀ b∈SB',b∈SB\/w.heap.size<=b) (hl:zs'.length<=100000)
  (kk:∀ w',CurE dbk pb FD D F M k v frm to down w0 cb Y w' st' SB' zs'->Fr (cb::SB) w w'->K w'):Pt.st ⟨cb,5,none⟩ [st'.v] G K:=by
 obtain ⟨R,C,T,U⟩:=h.at
 have V:=qab U
 have aa:G.heap[cb]?=some (.cells (CuX.cells ⟨pb,k,v,R,C,st,dir1 cb down,dir2 cb down,dir3 cb down⟩) T (0,0)):=by rw [f.block cb V h.cbs]; exact U
 have I:cb∉SB':=fun E=>by
  rcases O cb E with A | A
  ·exact h.cbs A
  ·omega
 refine qbY aa (CuX.cells ⟨pb,k,v,R,C,st',dir1 cb down,dir2 cb down,dir3 cb down⟩) rfl rfl (zO rfl) fun w2 ab f2=>?_
 have Q:Fr (cb::SB) w w2:=(f.mono fun b u _=>by simp [u]).trans' f2 fun b u=>.inl (by rw [zE.1 u]; simp)
 refine kk w2 (h.turn (Q.mono fun b u _=>by rcases zG.1 u with rfl | u <;> simp [*]) ⟨R,C,T,U,ab⟩ (u.frame f2 fun b u E=>I (by rw [zE.1 E] at u; exact u)) (fun z hz=>?_) O (fun b u=>.inl u) (fun b u=>yC (h.lt b (by simp [u])) Q.size) (fun b u E=>?_) hl) Q
 ·have J:∀ b∈cb::(SB'++Y),b∈cb::(SB++Y)\/w.heap.size<=b:=fun b u=>by
   rcases zG.1 u with rfl | u
   ·exact .inl (by simp)
   ·rcases zD.1 u with u | u
    ·exact (O b u).imp (fun h=>by simp [h]) id
    ·exact .inl (by simp [u])
  rcases hn z hz with A | A
  ·exact ⟨(h.nodes z A).1.frame (Q.mono fun b u _=>by rcases zG.1 u with rfl | u <;> simp [*]) J,(h.nodes z A).2⟩
  ·exact ⟨A.1.frame (f2.mono fun b u _=>by rw [zE.1 u]; simp) fun b u=>.inl u,A.2⟩
 ·rcases O b u with A | A
  ·exact h.sby b A E
  ·have:=h.lt b (by simp [E]); omega
theorem CurE.topSt {z:FrZ} {b:Nat} {j:Int} {K:WP} (h:CurE dbk pb FD D F M k v frm to down w0 cb Y w st [b] (zs++[z]))
  (O:∀ w',CurE dbk pb FD D F M k v frm to down w0 cb Y w' st [b] (zs++[(z.1,z.2.1,j)])->Fr [b] w w'->K w'):Pt.st ⟨b,zs.length*5+4,none⟩ [.i j] w K:=by
 refine qum h.buf fun w' Q f=>O w' ?_ f
 obtain ⟨R,E,T,G⟩:=h.at
 have I:cb∉[b]:=h.cbs
 have J:Fr (cb::([b]++Y)) w w':=f.mono fun x u _=>by rw [zE.1 u]; simp
 have A:∀ x∈cb::([b]++Y),x∈cb::([b]++Y)\/w.heap.size<=x:=fun x u=>.inl u
 refine h.turn J ⟨R,E,T,G,by rw [f.block cb (qab G) I]; exact G⟩ Q (fun y C=>?_) (fun x u=>.inl u) (fun x u=>.inl u) (fun x u=>yC (h.lt x (by simp [u])) f.size) h.sby (by have:=h.few; rw [zF] at this ⊢; exact this)
 rcases zD.1 C with C | C
 ·exact ⟨(h.nodes y (zH _ C)).1.frame J A,(h.nodes y (zH _ C)).2⟩
 ·rw [zE.1 C]
  exact ⟨NodeR.frame (h.nodes z (by simp)).1 J A,(h.nodes z (by simp)).2⟩
end
end Go.Proofs.YtmmkegapckbomaaGreatDoor
end
section
namespace Go.Pt
open Go
theorem qsu {o:Obj} {w:World} {H:WP} {R:Nat->WP} (h:Pt.new o w R) (A:∀ w',Fr [] w w'->H w'):Pt.new o w fun r u=>held [H] u (R r u):=⟨A _ ((Fr.refl [] w).alloc o),h⟩
end Go.Pt
namespace Go.Proofs.YtmmkegapckbomaaGreatDoor
open Go Go.Pt List
open Classical
attribute [local irreducible] ld ldA ldV fld fldA newZ st new idx idxS idxA slc slcS slcP mkS chk nn call callV inv run runQ runU join loop held ext rng undefer s2a nxt ent IntKind.wrap
abbrev FT:TypeId:=145
theorem quk:∃ i,Tryz.prog.info? FT=some i/\i.zero=some (.agg #[.bool false,.slice none 0 0,.slice none 0 0,.slice none 0 0,.i 0])/\i.size=5/\i.bytes=88:=qcV (by kernel_rfl)
theorem qun {w:World} {s:Sl} {zs:List FrZ} {SB:List Nat} {x:NdC} {n:NodeM} {i:Int} {H:WP} {K:Sl->WP} (h:Buf encFz 5 w s zs SB) (Q:zs.length<=1000000) (G:∀ w',Fr [] w w'->H w') (I:∀ C B' w',Buf encFz 5 w' C (zs++[(x,n,i)]) B'->Fr SB w w'->(∀ b∈B',b∈SB\/w.heap.size<=b)->K C w') :
  Pt.new (.cells (frV x i) FT) w fun r E=>held [H] E (Pt.run [Ty1.one Cell.slice] ((Builtin.append_ #[134,134] 134 #[s.v,.slice (pW r) 1 1]).run Tryz.prog E) K):=by
 obtain ⟨j,J,O,u,A⟩:=quk
 exact qsu (Buf.push (e:=FT) (x:=((x,n,i):FrZ)) h qbx (qrB _) (by kernel_rfl) J O u rfl rfl (by rw [A]; omega) (by omega) I) G
section
variable {dbk pb:Nat} {FD F:List Nat} {D:DiskM} {M:PgM} {k v:Nat} {frm to:Key} {down:Bool} {w0 w wA:World} {cb:Nat} {Y SB:List Nat} {st:Sl} {zs:List FrZ} {x:NdC} {n:NodeM} {i:Int}
theorem qm1 {S:List Nat} {K:Int->WP} (h:CurE dbk pb FD D F M k v frm to down w0 cb Y w st SB zs) (u:NodeR (cb::(SB++Y)) w x n) (A:Rising n.keys) (C:n.keys.length<=1000000) (E:∀ w',Fr [] w w'->K (pickV down frm to n) w'):callV Tryz.prog (dir2 cb down) [.agg (ndV x)] [.one .i] w K:=by
 obtain ⟨Q,I,G,J,O⟩:=h.cell
 cases down with
 | false=>exact qbX (ra:=[.pointer (pW cb)]) rfl (by kernel_rfl) (qsF G u J h.frmB A C E)
 | true=>exact qbX (ra:=[.pointer (pW cb)]) rfl (by kernel_rfl) (qrP G u O h.toB A C E)
theorem qrL {K:Int->WP} (hi:-1000000<=i/\i<=1000000) (h:K (wayV down i) w):callV Tryz.prog (dir1 cb down) [.i i] [.one .i] w K:=by
 cases down with
 | false=>exact qbX (ra:=[.pointer (pW cb)]) rfl (by kernel_rfl) (quB hi h)
 | true=>exact qbX (ra:=[.pointer (pW cb)]) rfl (by kernel_rfl) (qto hi h)
theorem qtS {ks:Sl} {key:Key} {K:Bool->WP} (h:CurE dbk pb FD D F M k v frm to down w0 cb Y w st SB zs) (u:RdB (cb::(SB++Y)) w ks key) (A:IsB key) (C:K (overV down frm to key) w):callV Tryz.prog (dir3 cb down) [ks.v] [.one .bool] w K:=by
 obtain ⟨O,G,E,I,J⟩:=h.cell
 cases down with
 | false=>exact qbX (ra:=[.pointer (pW cb)]) rfl (by kernel_rfl) (qsw E u J A h.toB C)
 | true=>exact qbX (ra:=[.pointer (pW cb)]) rfl (by kernel_rfl) (qtb E u I A h.frmB C)
theorem CurE.now {T:List Nat} {L:List (Nat×Obj)} (A:CurE dbk pb FD D F M k v frm to down w0 cb Y wA st SB zs) (h:Own T wA w L) (C:∀ b∈T,b∈Y):CurE dbk pb FD D F M k v frm to down w0 cb Y w st SB zs:=
 A.frame (h.fr.mono fun b u _=>C b u) (fun b u=>.inl u) fun b u=>yC (A.lt b (by simp [u])) h.fr.size
theorem NodeR.nowY {T:List Nat} {L:List (Nat×Obj)} (A:NodeR (cb::(SB++Y)) wA x n) (h:Own T wA w L) (C:∀ b∈T,b∈Y):NodeR (cb::(SB++Y)) w x n:=
 A.frame (h.fr.mono fun b u _=>by simp [C b u]) fun b u=>.inl u
theorem qmf {T:List Nat} {A C:Nat} {X:Int->WP} {K:Unit->WP} (hA:CurE dbk pb FD D F M k v frm to down w0 cb Y wA st SB zs) (hN:NodeR (cb::(SB++Y)) wA x n) (h:Own T wA w [(A,.cells (frV zeroX 0) FT (0,0)),(C,.cells (ndV x) ND (0,0))]) (hT:∀ b∈T,b∈Y) (hl:zs.length+1<=100000) (af:rightV n k v)
  (hI:n.leaf=false->∃ j:Nat,i=j/\j<n.kids.length)
  (E:∀ w' st' SB',CurE dbk pb FD D F M k v frm to down w0 cb Y w' st' SB' (zs++[(x,n,i)])->Fr (cb::(SB++T)) wA w'->(∀ b∈SB',b∈SB\/wA.heap.size<=b)->if n.leaf then K () w' else X (n.kids.getD i.toNat 0) w') :
  qa7 (pW cb) K A x i w C X:=by
 unfold qa7
 refine Own.sz h 0 rfl (frV x i) fun w1 h f1=>?_
 have h:=Own.drew h
 have hC:=hA.now h hT
 refine qae (hC.ldSt ?_)
 refine Own.ldA h 0 rfl (x.1,x.2.1,x.2.2.1,x.2.2.2,i) rfl ?_
 refine qun (x:=x) (n:=n) (i:=i) hC.buf (by omega) (fun w' f=>?_) fun s' B' w2 ag f2 n2=>?_
 ·obtain ⟨sf,ax,T,I⟩:=(hC.frame0 f).at
  exact qaf I
 refine qae ?_
 have J:=qab (h.at (i:=1) rfl)
 have O:=qab (h.at (i:=0) rfl)
 have ai:=h.fr.size
 have aj:=hN.nowY h hT
 refine hC.setSt w2 f2 ag (fun z hz=>(zD.1 hz).imp id fun hz=>?_) n2 (by rw [zF]; exact hl) fun Q h3 f3=>?_
 ·rw [zE.1 hz]
  refine ⟨aj.frame (f2.mono fun b u _=>by simp [u]) fun b u=>?_,af⟩
  rcases zG.1 u with rfl | u
  ·exact .inl (by simp)
  ·rcases zD.1 u with u | u
   ·exact (n2 b u).imp (fun h=>by simp [h]) id
   ·exact .inl (by simp [u])
 have f4:Fr (cb::(SB++T)) wA Q:=(h.fr.mono fun b u _=>by simp [u]).trans (f3.mono fun b u _=>by rcases zG.1 u with rfl | u <;> simp [*])
 have R:∀ r,r∈T\/wA.heap.size<=r->r∉cb::SB:=fun r U V=>by
  rcases U with U | U
  ·rcases zG.1 V with rfl | V
   ·exact hA.cby (hT _ U)
   ·exact hA.sby r V (hT r U)
  ·have:=hA.lt r (by rcases zG.1 V with rfl | V <;> simp [*])
   omega
 have aa:Q.heap[C]?=some (.cells (ndV x) ND (0,0)):=by rw [f3.block C J (R C (h.own (C,.cells (ndV x) ND (0,0)) (by simp)))]; exact h.at (i:=1) rfl
 have am:Q.heap[A]?=some (.cells (frV x i) FT (0,0)):=by rw [f3.block A O (R A (h.own (A,.cells (frV x i) FT (0,0)) (by simp)))]; exact h.at (i:=0) rfl
 have E:=E Q s' B' h3 f4 fun b u=>(n2 b u).imp id fun h=>zL ai h
 have G:x.1=n.leaf:=hN.1
 refine qaj aa x.1 rfl ?_
 refine qaa (fun I=>?_) (fun I=>?_)
 ·rw [<- G,I,if_pos rfl] at E
  exact E
 ·rw [<- G,I,if_neg (by decide)] at E
  refine qaj aa x.2.2.2 rfl ?_
  refine qaj am i rfl ?_
  obtain ⟨j,rfl,hj⟩:=hI (by rw [<- G,I])
  have ab:Rds encU 1 (cb::(B'++Y)) Q x.2.2.2 n.kids:=(h3.nodes (x,n,(j:Int)) (by simp)).1.2.2.2.2
  refine Rds.get ab j rfl (zA hj) (y:=n.kids[j]) rfl ?_
  rw [zJ,yQ,zA hj] at E
  exact E
theorem qq5 {T:List Nat} {I:Nat} {X:Int->WP} {K:Unit->WP} (C:CurE dbk pb FD D F M k v frm to down w0 cb Y wA st SB zs) (J:NodeR (cb::(SB++Y)) wA x n) (h:Own T wA w [(I,.cells (ndV zeroX) ND (0,0))]) (A:∀ b∈T,b∈Y) (U:zs.length+1<=100000) (u:rightV n k v)
  (V:n.leaf=false->∃ j:Nat,pickV down frm to n=j/\j<n.kids.length)
  (kk:∀ w' st' SB',CurE dbk pb FD D F M k v frm to down w0 cb Y w' st' SB' (zs++[(x,n,pickV down frm to n)])->Fr (cb::(SB++T)) wA w'->(∀ b∈SB',b∈SB\/wA.heap.size<=b)->if n.leaf then K () w' else X (n.kids.getD (pickV down frm to n).toNat 0) w') :
  qaQ (pW cb) K I (x,0) w X:=by
 unfold qaQ
 refine Own.sz h 0 rfl (ndV x) fun w1 h f1=>?_
 have h:=Own.drew h
 refine cond_false rfl ?_
 refine ⟨?_,?_⟩
 ·refine Own.ldA h 0 rfl x rfl ?_
  obtain ⟨O,E,T,G⟩:=(C.now h A).at
  refine qae (qaE (dir2 cb down) (qaf G) ?_)
  refine Own.ldA h 0 rfl x rfl ?_
  refine qm1 (S:=[]) (C.now h A) (J.nowY h A) u.2.2.1 (by have:=(qa6 u).1; omega) fun w2 Q=>?_
  have h:=h.frame0 Q
  refine qah (h.cells 0 rfl rfl) ?_
  refine Own.new' h fun R w3 e3 f3 h=>?_
  obtain ⟨O,E,T,G⟩:=(C.now h A).at
  refine qan (h.cells 1 rfl rfl) (qaf G) (h.cells 1 rfl rfl) ?_
  exact qmf C J h A U u V kk
 ·refine Own.ldA h 0 rfl x rfl ?_
  obtain ⟨O,E,T,G⟩:=(C.now h A).at
  refine qae (qaE (dir2 cb down) (qaf G) ?_)
  refine Own.ldA h 0 rfl x rfl ?_
  refine Own.new' h fun R w3 e3 f3 h=>?_
  obtain ⟨O,E,T,G⟩:=(C.now h A).at
  refine qan (h.cells 1 rfl rfl) (qaf G) (h.cells 1 rfl rfl) ?_
  refine qm1 (S:=[]) (C.now h A) (J.nowY h A) u.2.2.1 (by have:=(qa6 u).1; omega) fun w2 Q=>?_
  have h:=h.frame0 Q
  refine qah (h.cells 1 rfl rfl) ?_
  exact qmf C J h A U u V kk
theorem qlz {s:Seg} {h:Nat} {K:Unit->WP} (hs:Has D M k v h s) (hu:U32 s.page) (hC:CurE dbk pb FD D F M k v frm to down w0 cb Y w st SB zs) (hl:zs.length+h+1<=100000)
  (kk:∀ w' st' SB' zs',CurE dbk pb FD D F M k v frm to down w0 cb Y w' st' SB' (zs++zs')->pushV D k v M (pickV down frm to) (h+1) s.page=some (zs'.map (·.2))->Fr (cb::SB) w w'->(∀ b∈SB',b∈SB\/w.heap.size<=b)->K () w') :
  cW 75 [.pointer (pW cb),.u s.page] [] w K:=by
 refine qfm ?_
 unfold qcR
 refine qfB (fun (hh:Nat) p w'=>∃ (V:Seg) (C:List FrZ) (ab:Sl) (I:List Nat),p=V.page/\U32 V.page/\Has D M k v hh V/\CurE dbk pb FD D F M k v frm to down w0 cb Y w' ab I (zs++C)/\(pushV D k v M (pickV down frm to) (hh+1) V.page).map (C.map (·.2)++·)=pushV D k v M (pickV down frm to) (h+1) s.page/\C.length+hh=h/\Fr (cb::SB) w w'/\∀ b∈I,b∈SB\/w.heap.size<=b) id h ⟨s,[],st,SB,rfl,hu,hs,by rw [xG]; exact hC,by simp,by simp,.refl _ _,fun b A=>.inl A⟩ ?_
 rintro hh p w1 ⟨V,C,ab,I,rfl,aG,ar,R,au,aZ,f1,n1⟩ X hX
 have G:∃ n,loadN D M k v V.page=(n,0)/\(n.leaf=true->hh=0)/\(n.leaf=false->∃ h2 O,hh=h2+1/\n=inOf O/\∃ hj:kidV n.keys (if down then to else frm)<O.length,n.kids.getD (kidV n.keys (if down then to else frm)) 0=O[kidV n.keys (if down then to else frm)].2.page/\Has D M k v h2 O[kidV n.keys (if down then to else frm)].2):=by
  cases hh with
  | zero=>
   obtain ⟨h1,h2,h3,h4⟩:=ar
   exact ⟨_,h3.load h4,fun _=>rfl,(fun e=>nomatch e)⟩
  | succ h2=>
   obtain ⟨O,e1,hj,e2,e3⟩:=qsf (key:=if down then to else frm) ar
   exact ⟨_,e1,(fun e=>nomatch e),fun _=>⟨h2,O,rfl,rfl,hj,e2,e3⟩⟩
 obtain ⟨n,G,aI,av⟩:=G
 have aw:=qcK G
 obtain ⟨l1,l2,l3,l4,l5⟩:=qa6 aw
 have ak:(pagerReadM D M V.page).2.2=0/\readNV (pagerReadM D M V.page).1 (pagerReadM D M V.page).2.1 k v=(n,0):=by
  unfold loadN at G
  split at G
  ·rename_i ac
   exact absurd (vB G).2 ac
  ·rename_i he
   exact ⟨by omega,G⟩
 have ax:IsB (pagerReadM D M V.page).2.1:=qe6 R.tw.lim.ok (fun e he=>(R.tw.wf.body e he).2.2) _
 have aJ:(zs++C).length+1<=100000:=by rw [zF]; omega
 have hI:n.leaf=false->∃ j:Nat,pickV down frm to n=j/\j<n.kids.length:=fun e=>by
  obtain ⟨h2,O,_,rfl,hj,_⟩:=av e
  refine ⟨_,?_,by show _<(O.map _).length; rw [zK]; exact hj⟩
  cases down with
  | false=>
   show lowV (inOf O) frm=_
   exact if_neg (fun g=>nomatch g)
  | true=>
   show highV (inOf O) to=_
   exact if_neg (fun g=>nomatch g)
 have af:∀ (x:NdC) (Y' T:List Nat) (wA wB:World) (r:Nat),CurE dbk pb FD D F M k v frm to down w0 cb Y' wA ab I (zs++C)->NodeR (cb::(I++Y')) wA x n->Own T wA wB [(r,.cells (ndV zeroX) ND (0,0))]->(∀ b∈T,b∈Y')->(∀ b∈T,w1.heap.size<=b)->(∀ b∈Y,b∈Y')->Fr [] w1 wA->qaQ (pW cb) K r (x,0) wB X:=by
  intro x Y' T wA wB r hA hN hO hT aL hY fA
  refine qq5 hA hN hO hT aJ aw hI fun w2 al ad E f2 n2=>?_
  have E:CurE dbk pb FD D F M k v frm to down w0 cb Y w2 al ad (zs++(C++[(x,n,pickV down frm to n)])):=by
   rw [<- zV]
   exact E.frame (.refl _ _) (fun b A=>.inl (hY b A)) fun b A=>E.lt b (by simp [hY b A])
  have f3:Fr (cb::SB) w w2:=f1.trans' ((fA.mono fun _ h=>nomatch h).trans f2) fun b A=>by
   rcases zG.1 A with rfl | A
   ·exact .inl (by simp)
   ·rcases zD.1 A with A | A
    ·exact (n1 b A).imp (fun h=>by simp [h]) id
    ·exact .inr (zL f1.size (aL b A))
  have n3:∀ b∈ad,b∈SB\/w.heap.size<=b:=fun b A=>by
   rcases n2 b A with h | h
   ·exact n1 b h
   ·exact .inr (zL f1.size (zL fA.size h))
  by_cases hlf2:n.leaf=true
  ·rw [if_pos hlf2]
   obtain rfl:=aI hlf2
   refine kk w2 al ad (C++[(x,n,pickV down frm to n)]) E ?_ f3 n3
   rw [<- au,pushV,G,if_neg (fun h=>h rfl),if_pos hlf2]
   simp
  ·rw [if_neg hlf2]
   have ay:n.leaf=false:=by simpa using hlf2
   obtain ⟨h2,O,rfl,ac,hj,am,hk⟩:=av ay
   have az:pickV down frm to n=((kidV n.keys (if down then to else frm):Nat):Int):=by
    cases down with
    | false=>
     show lowV n frm=_
     exact if_neg hlf2
    | true=>
     show highV n to=_
     exact if_neg hlf2
   rw [az,zJ,am]
   refine hX h2 _ w2 ⟨_,C++[(x,n,pickV down frm to n)],al,ad,rfl,?_,hk,E,?_,by rw [zF,xL]; omega,f3,n3⟩ (Nat.lt_succ_self _)
   ·rw [<- am]
    have aA:kidV n.keys (if down then to else frm)<n.kids.length:=by rw [ac]; show _<(O.map _).length; rw [zK,<- ac]; exact hj
    rw [yQ,zA aA]
    exact hN.2.1.2.2 _ (zW aA)
   ·rw [<- au]
    conv=>rhs; rw [pushV,G,if_neg (fun h=>h rfl),if_neg hlf2]
    dsimp only
    rw [az,zJ,am,Option.map_map]
    simp [Function.comp_def]
 obtain ⟨sf,an,T,Q⟩:=R.at
 refine qae (qaE (pW pb) (qaf Q) ?_)
 refine TW.read R.tw aG fun sb w2 aB f2=>?_
 have E:=(R.frame0 f2).drew
 refine cond_false (by dsimp only; rw [ak.1]; rfl) ?_
 obtain ⟨sf,an,T,Q⟩:=E.at
 have U:=E.lt
 refine ⟨?_,?_⟩
 ·refine qae (qaE (k:Int) (qaf Q) ?_)
  refine qae (qaE (v:Int) (qaf Q) ?_)
  refine qjF (k:=k) (v:=v) (aB [] fun _ h=>nomatch h) ax fun x B w3 hN f3 ao=>?_
  rw [ak.2] at hN ⊢
  have J:=E.frame0 f3
  refine Own.new' (Own.start [] w3) fun r w4 e4 f4 h=>?_
  obtain ⟨sf,an,T,Q⟩:=(J.frame0 f4).at
  refine qar (qaf Q) (qaf Q) ?_
  refine af x Y [] w3 w4 r J (hN.rd (fun b A hm=>?_) fun b A=>.inl ?_) h (fun _ h=>nomatch h) (fun _ h=>nomatch h) (fun b A=>A) (f2.drew.trans f3)
  ·have:=ao b A; have:=U b hm; omega
  ·have:b<w2.heap.size:=U b A
   exact zH _ (mem_range.2 this)
 ·refine qae (qaE (k:Int) (qaf Q) ?_)
  refine qae (qaE (v:Int) (qaf Q) ?_)
  refine Own.new' (Own.start [] w2.drew) fun r w3 e3 f3 h=>?_
  have aO:=qab (h.at (i:=0) rfl)
  have J:CurE dbk pb FD D F M k v frm to down w0 cb (r::Y) w3 ab I (zs++C):=E.frame (f3.mono fun _ h=>nomatch h) (fun b A=>(zG.1 A).elim (fun e=>.inr (by rw [e,e3]; exact zM _)) .inl) fun b A=>by
   rcases zG.1 A with rfl | A
   ·exact aO
   ·exact yC (U b (by simp [A])) f3.size
  obtain ⟨sf,an,T,Q⟩:=J.at
  refine qar (qaf Q) (qaf Q) ?_
  refine qjF (k:=k) (v:=v) (Rds.frame0 (w:=w2.drew) (aB [] fun _ h=>nomatch h) f3) ax fun x B w4 hN f4 ao=>?_
  rw [ak.2] at hN ⊢
  have ai:=J.lt
  refine af x (r::Y) [r] w4 w4 r (J.frame0 f4) (hN.rd (fun b A hm=>?_) fun b A=>.inl ?_) (qoU ((h.frame0 f4).at (i:=0) rfl)) (fun b A=>by rw [zE.1 A]; simp) (fun b A=>?_) (fun b A=>by simp [A]) ((f2.drew.trans f3).trans f4)
  ·have:=ao b A; have:=ai b hm; omega
  ·exact zH _ (mem_range.2 (ai b A))
  ·rw [zE.1 A,e3]; exact f2.size
end
end Go.Proofs.YtmmkegapckbomaaGreatDoor
end
section
namespace Go.Proofs.YtmmkegapckbomaaGreatDoor
open Go Go.Pt List
open Classical
attribute [local irreducible] ld ldA ldV fld fldA newZ st new idx idxS idxA slc slcS slcP mkS chk nn call callV inv run runQ runU join loop held ext rng undefer s2a nxt ent IntKind.wrap
section
variable {dbk pb:Nat} {FD F:List Nat} {D:DiskM} {M:PgM} {k v:Nat} {frm to:Key} {down:Bool} {w0 w wA:World} {cb:Nat} {Y SB:List Nat} {st:Sl} {zs:List FrZ}
theorem CurE.ldTop {c:Cell} {b j:Nat} {z:FrZ} {K:c.El->Prop} (h:CurE dbk pb FD D F M k v frm to down w0 cb Y w st [b] (zs++[z])) (u:j<5) (x:c.El) (A:(encFz z)[j]?=some (c.mk x)) (C:K x):ld c ⟨b,zs.length*5+j,none⟩ w K:=
 qaE x ((qsg h.buf u).trans A) C
theorem qqF {h:Nat} {K:Unit->WP} (hp:Path D M k v (wayV down) h (zs.map (·.2))) (hC:CurE dbk pb FD D F M k v frm to down w0 cb Y w st SB zs)
  (kk:∀ w' st' SB' zs',CurE dbk pb FD D F M k v frm to down w0 cb Y w' st' SB' zs'->zs'.map (·.2)=(nextV D k v M (pickV down frm to) (wayV down) h (zs.map (·.2))).getD []->Fr (cb::SB) w w'->(∀ b∈SB',b∈SB\/w.heap.size<=b)->K () w') :
  cW 76 [.pointer (pW cb)] [] w K:=by
 refine qfi ?_
 unfold qcP
 have I:=hp.len
 have aS:=hC.few
 rw [zK] at I
 refine qfB (fun (U:List CFr) (_:PUnit) w'=>∃ (u:List FrZ) (z:FrZ) (A:List CFr) (h1:Nat) (ai:Sl) (V:List Nat),u.map (·.2)=U/\CurE dbk pb FD D F M k v frm to down w0 cb Y w' ai V (u++[z])/\zs.map (·.2)=U++A/\U.length+h1=h/\nextV D k v M (pickV down frm to) (wayV down) h1 A=none/\Fr (cb::SB) w w'/\∀ b∈V,b∈SB\/w.heap.size<=b) List.length (zs.map (·.2)).dropLast ?_ ?_
 ·have G:zs≠[]:=fun e=>by rw [e] at I; simp at I
  have R:=(vA G).symm
  refine ⟨zs.dropLast,zs.getLast G,[(zs.getLast G).2],0,st,SB,by rw [map_dropLast],by rw [<- R]; exact hC,?_,by simp; omega,rfl,.refl _ _,fun b E=>.inl E⟩
  conv=>lhs; rw [R]
  simp
 rintro U _ w1 ⟨u,z,A,h1,ai,V,rfl,aa,R,hh,hn,f1,n1⟩ X hX
 have aq:=aa.few
 rw [zF,xL] at aq
 have aD:ai.len=u.length+1:=by rw [aa.buf.len,zF]; rfl
 refine qae (aa.ldSt (cond_true (by rw [aD]; exact zZ (by omega)) ?_))
 have ab:=aa.drew
 refine qae (ab.ldSt ?_)
 refine qae (ab.ldSt ?_)
 refine qtH ab.buf (by omega) fun s2 au=>?_
 refine qae ?_
 refine ab.setSt w1.drew (.refl _ _) au (fun z R=>.inl (zH _ R)) (fun b E=>.inl E) (by omega) fun w2 aj f2=>?_
 have av:Fr (cb::SB) w w2:=f1.trans' ((Fr.refl _ w1).drew.trans f2) fun b E=>by
  rcases zG.1 E with rfl | E
  ·exact .inl (by simp)
  ·exact (n1 b E).imp (fun h=>by simp [h]) id
 refine qae (aj.ldSt ?_)
 have aw:s2.len=u.length:=au.len
 refine qaa (fun hc=>?_) (fun hc=>?_)
 ·have hc:(s2.len:Int)=0:=yO.1 hc
  have e0:u=[]:=length_eq_zero_iff.1 (by omega)
  subst e0
  refine kk w2 s2 V [] aj ?_ av n1
  rw [R,map_nil,xH]
  have:h1=h:=by simpa using hh
  rw [<- this,hn]
  rfl
 ·have hc:¬ (s2.len:Int)=0:=zR.1 hc
  have G:u≠[]:=fun e=>by rw [e] at aw; simp at aw; omega
  obtain ⟨J,y,rfl⟩:∃ J y,u=J++[y]:=⟨u.dropLast,u.getLast G,(vA G).symm⟩
  rw [xM,xN,map_nil,zV,singleton_append] at R
  rw [xM,xN,map_nil,zF,xL] at hh
  have ac:(J.map (·.2)).length+(h1+1)=h:=by omega
  have ak:Path D M k v (wayV down) (h1+1) (y.2::A):=by
   rw [R,<- ac] at hp
   exact hp.drop
  obtain ⟨C,i,up,ey,a2,a3,ay,_⟩:=ak
  obtain ⟨yx,yf⟩:=y
  have aF:yf=(inOf C,i):=(vC ey).1
  subst aF
  have ad:=aj.drew
  rw [zF,xL] at aq
  refine qae (ad.ldSt ?_)
  refine qae (ad.ldSt ?_)
  refine qoZ ad.buf (by omega) fun b hB=>?_
  subst hB
  have ae:=ad.drew
  obtain ⟨sf,a6,T,aG⟩:=ae.at
  have am:=ae.nodes (yx,inOf C,i) (by simp)
  have af:(inOf C).kids.length=C.length:=by show (C.map (·.2.page)).length=_; rw [zK]
  have aW:C.length<=498:=by rw [<- af]; exact (qa6 am.2).2.2.1
  refine qae (qaE (dir1 cb down) (qaf aG) ?_)
  refine ae.ldTop (j:=4) (by decide) i rfl ?_
  refine qrL (by omega) ?_
  have aX:-1<=wayV down i/\wayV down i<=1000000:=by unfold wayV; split <;> omega
  refine ae.topSt fun w3 aH f3=>?_
  have O:=aH.drew
  have an:Fr (cb::SB) w w3:=av.trans' (((Fr.refl _ w2).drew.drew).trans f3) fun b' E=>by
   rw [zE.1 E]
   exact (n1 b (by simp)).imp (fun h=>by simp [h]) id
  have aI:yx.2.2.2.len=C.length:=by rw [am.1.2.2.2.2.1,af]
  have Q:=qpu (x:=(inOf C,i)) hn
  refine qag (fun q w'=>q=decide (0<=wayV down i/\wayV down i<C.length)/\w'=w3.drew) ?_ ?_
  ·refine O.ldTop (j:=4) (by decide) (wayV down i) rfl ?_
   refine qaa (fun h=>?_) (fun h=>?_)
   ·have h:=zC h
    refine O.ldTop (j:=4) (by decide) (wayV down i) rfl ?_
    refine O.ldTop (j:=3) (by decide) yx.2.2.2 rfl ?_
    exact ⟨decide_eq_decide.2 (by rw [aI]; omega),rfl⟩
   ·have h:=zB h
    exact ⟨(zU fun g=>h g.1).symm,rfl⟩
  rintro q w4 ⟨rfl,rfl⟩
  have ag:=O.drew
  refine qaa (fun h=>?_) (fun h=>?_)
  ·obtain ⟨h5,h6⟩:=zC h
   obtain ⟨j,hj⟩:∃ j:Nat,wayV down i=j:=⟨(wayV down i).toNat,by omega⟩
   have aA:j<C.length:=by omega
   refine ag.ldTop (j:=3) (by decide) yx.2.2.2 rfl ?_
   refine ag.ldTop (j:=4) (by decide) (wayV down i) rfl ?_
   have aK:Rds encU 1 _ w3.drew.drew yx.2.2.2 (inOf C).kids:=(ag.nodes (yx,inOf C,wayV down i) (by simp)).1.2.2.2.2
   have ao:(inOf C).kids[j]?=some C[j].2.page:=by
    show (C.map (·.2.page))[j]?=_
    rw [zQ,zA aA]
    rfl
   refine Rds.get aK j hj ao (y:=C[j].2.page) rfl ?_
   refine qlz (ay j hj aA) (am.1.2.1.2.2 _ (yE ao)) ag (by rw [zF,xL]; rw [zK] at ac; omega) fun w5 aL aM aN aO aP f5 n5=>?_
   refine kk w5 aL aM _ aO ?_ (an.trans' ((Fr.refl _ w3).drew.drew.trans f5) fun b' E=>?_) fun b' E=>?_
   ·have e1:nextV D k v M (pickV down frm to) (wayV down) (h1+1) ((inOf C,i)::A)=some ((inOf C,wayV down i)::aN.map (·.2)):=by
     rw [Q,stepV,if_pos ⟨by dsimp only; omega,by dsimp only; rw [af]; exact h6⟩]
     dsimp only
     rw [hj,zJ,yQ,ao]
     simp only [xV]
     rw [aP]
     rfl
    rw [R,<- ac,qlZ e1]
    simp
   ·rcases zG.1 E with rfl | E
    ·exact .inl (by simp)
    ·exact (n1 b' E).imp (fun h=>by simp [h]) id
   ·rcases n5 b' E with h | h
    ·exact n1 b' h
    ·exact .inr (zL an.size h)
  ·have h:=zB h
   refine hX (J.map (·.2)) _ _ ⟨J,(yx,inOf C,wayV down i),(inOf C,i)::A,h1+1,s2,[b],rfl,O,R,ac,?_,an.drew,n1⟩ ?_
   ·rw [Q,stepV,if_neg fun g=>h ⟨g.1,by have:=g.2; dsimp only at this; rw [af] at this; exact this⟩]
   ·simp
end
end Go.Proofs.YtmmkegapckbomaaGreatDoor
end
section
namespace Go.Proofs.YtmmkegapckbomaaGreatDoor
open Go Go.Pt List
open Classical
section
variable {D:DiskM} {M:PgM} {k v:Nat} {frm to:Key} {down:Bool}
def Tells (D:DiskM) (M:PgM) (k v:Nat) (frm to:Key) (down:Bool) (h:Nat) (u:List CFr) (T:Prs):Prop:=if down then RestD D M k v to h u T else RestU D M k v frm h u T
def DoneC (down:Bool) (h:Nat) (u:List CFr):Prop:=if down then DoneD h u else DoneU h u
theorem Tells.path {h:Nat} {u:List CFr} {T:Prs} (A:Tells D M k v frm to down h u T):Path D M k v (wayV down) h u:=by
 cases down with
 | false=>exact RestU.path (frm:=frm) A
 | true=>exact RestD.path (to:=to) A
theorem Tells.told {h:Nat} {A:List CFr} {T:Prs} (C:Tells D M k v frm to down h A T):DoneC down h A\/∃ (u:Prs) (i:Nat) (lo:List CFr) (hi:i<u.length) (T':Prs),A=lo++[(lfOf u,(i:Int))]/\T=u[i]::T'/\Tells D M k v frm to down h (lo++[(lfOf u,wayV down i)]) T':=by
 cases down with
 | false=>exact qo4 (frm:=frm) C
 | true=>exact qmq (to:=to) C
theorem Tells.next {h:Nat} {C:List CFr} {T:Prs} (E:Tells D M k v frm to down h C T) (G:DoneC down h C):(nextV D k v M (pickV down frm to) (wayV down) h C=none/\T=[])\/∃ u,nextV D k v M (pickV down frm to) (wayV down) h C=some u/\Tells D M k v frm to down h u T/\¬ DoneC down h u:=by
 cases down with
 | false=>
  rcases qo9 (frm:=frm) E G with A | ⟨u,A,I⟩
  ·exact .inl A
  ·exact .inr ⟨u,A,I,qgz (frm:=frm) E G A⟩
 | true=>
  rcases qmp (to:=to) E G with A | ⟨u,A,I⟩
  ·exact .inl A
  ·exact .inr ⟨u,A,I,qen (to:=to) E G A⟩
theorem DoneU.top:∀ {h:Nat} {A:List CFr},DoneU h A->∃ (lo:List CFr) (u:Prs),A=lo++[(lfOf u,(u.length:Int))]
 | 0,_,⟨u,e⟩=>⟨[],u,e⟩
 | _+1,[],h=>h.elim
 | h+1,x::E,C=>by
  obtain ⟨lo,u,e⟩:=DoneU.top (h:=h) C
  exact ⟨x::lo,u,by rw [e]; rfl⟩
theorem DoneD.top:∀ {h:Nat} {A:List CFr},DoneD h A->∃ (lo:List CFr) (u:Prs),A=lo++[(lfOf u,-1)]
 | 0,_,⟨u,e⟩=>⟨[],u,e⟩
 | _+1,[],h=>h.elim
 | h+1,x::E,C=>by
  obtain ⟨lo,u,e⟩:=DoneD.top (h:=h) C
  exact ⟨x::lo,u,by rw [e]; rfl⟩
theorem DoneC.top {h:Nat} {A:List CFr} (C:DoneC down h A):∃ (lo:List CFr) (u:Prs) (i:Int),A=lo++[(lfOf u,i)]/\¬ (0<=i/\i<u.length):=by
 cases down with
 | false=>
  obtain ⟨lo,u,e⟩:=DoneU.top C
  exact ⟨lo,u,_,e,by omega⟩
 | true=>
  obtain ⟨lo,u,e⟩:=DoneD.top C
  exact ⟨lo,u,_,e,by omega⟩
def Left (D:DiskM) (M:PgM) (k v:Nat) (frm to:Key) (down:Bool) (n:Nat) (u:List CFr) (L:Prs):Prop:=
 (u=[]/\L=[])\/∃ h T,Tells D M k v frm to down h u T/\L=T.takeWhile (fun x=>!overV down frm to x.1)/\(n=0->¬ DoneC down h u)
theorem qqp {h:Nat} {s:Seg} (u:Has D M k v h s):∃ A,pushV D k v M (pickV down frm to) (h+1) s.page=some A/\Tells D M k v frm to down h A (if down then (toP to s.prs).reverse else fromP frm s.prs):=by
 cases down with
 | false=>exact qli u
 | true=>exact qh3 u
theorem qdU {α:Type} {p:α->Bool}:∀ {l:List α},l.Pairwise (fun a b=>p b=true->p a=true)->l.takeWhile p=l.filter p
 | [],_=>rfl
 | a::l,h=>by
  have A:=yI.1 h
  rw [takeWhile_cons,filter_cons]
  split
  ·rw [qdU A.2]
  ·rename_i C
   exact (filter_eq_nil_iff.2 fun b E u=>C (A.1 b E u)).symm
end
end Go.Proofs.YtmmkegapckbomaaGreatDoor
end
section
namespace Go.Proofs.YtmmkegapckbomaaGreatDoor
open Go Go.Pt List
open Classical
attribute [local irreducible] ld ldA ldV fld fldA newZ st new idx idxS idxA slc slcS slcP mkS chk nn call callV inv run runQ runU join loop held ext rng undefer s2a nxt ent IntKind.wrap
abbrev CPT:TypeId:=62
def prV (a b:Sl):Array Value:=#[a.v,b.v]
@[reducible] def nxcs:List Cell:=[Cell.slice,Cell.slice]
section
variable {dbk pb:Nat} {FD F:List Nat} {D:DiskM} {M:PgM} {k v:Nat} {frm to:Key} {down:Bool} {w0 w wA:World} {cb:Nat} {Y SB:List Nat} {st:Sl} {zs:List FrZ}
theorem qsc {n:NodeM} (h:rightV n k v) (C:n.leaf=true):k<=24/\v<=108:=by
 obtain ⟨_,_,_,A⟩:=h
 rw [if_pos C] at A
 have u:=A.2.2.1
 unfold capsV at u
 split at u
 ·dsimp only at u; omega
 ·omega
theorem qlS {L:Prs} {K:(Sl×Sl)×Bool->WP} (hC:CurE dbk pb FD D F M k v frm to down w0 cb Y w st SB zs) (hL:Left D M k v frm to down 1 (zs.map (·.2)) L)
  (k0:L=[]->∀ w',CurE dbk pb FD D F M k v frm to down w0 cb Y w' ⟨none,0,0⟩ [] []->Fr (cb::SB) w w'->K ((⟨none,0,0⟩,⟨none,0,0⟩),false) w')
  (k1:∀ x L',L=x::L'->∀ ks vs B1 B2 w' st' SB' zs',BufB w' ks x.1 B1->BufB w' vs x.2 B2->CurE dbk pb FD D F M k v frm to down w0 cb (B1++(B2++Y)) w' st' SB' zs'->Left D M k v frm to down 1 (zs'.map (·.2)) L'->Fr (cb::SB) w w'->(∀ b∈SB',b∈SB\/w.heap.size<=b)->(∀ b∈B1,w.heap.size<=b)->(∀ b∈B2,w.heap.size<=b)->(∀ b∈B1,b∉B2)->K ((ks,vs),true) w') :
  cW 32 [.pointer (pW cb)] [.agg nxcs,.one .bool] w K:=by
 refine qfv (c:=pW cb) ?_
 unfold qcQ
 refine Own.new' (Own.start [] w) fun r w1 e1 f1 h=>?_
 have hrl:=qab (h.at (i:=0) rfl)
 dsimp only at hrl
 have hltw:=hC.lt
 have hC1:CurE dbk pb FD D F M k v frm to down w0 cb (r::Y) w1 st SB zs:=hC.frame (f1.mono fun _ h=>nomatch h) (fun b hb=>(zG.1 hb).elim (fun e=>.inr (by rw [e,e1]; exact zM _)) .inl) fun b hb=>by
  rcases zG.1 hb with rfl | hb
  ·exact hrl
  ·exact yC (hltw b (by simp [hb])) f1.size
 have hr1:w1.heap[r]?=some (.cells (prV ⟨none,0,0⟩ ⟨none,0,0⟩) CPT (0,0)):=h.at (i:=0) rfl
 have hrS:r∉cb::SB:=fun hm=>by
  have:=hltw r (by rcases zG.1 hm with h | h <;> simp [h])
  omega
 have hfr:∀ {w':World},Fr (cb::SB) w1 w'->w'.heap[r]?=some (.cells (prV ⟨none,0,0⟩ ⟨none,0,0⟩) CPT (0,0)):=fun f=>by rw [f.block r hrl hrS]; exact hr1
 clear h
 refine qag (fun _ w'=>L=[]/\Fr (cb::SB) w1 w'/\∃ st' SB' zs',CurE dbk pb FD D F M k v frm to down w0 cb (r::Y) w' st' SB' zs'/\∀ b∈SB',b∈SB\/w1.heap.size<=b) ?_ ?_
 ·refine qfB (fun (n:Nat) (_:PUnit) w'=>Fr (cb::SB) w1 w'/\∃ st' SB' zs',CurE dbk pb FD D F M k v frm to down w0 cb (r::Y) w' st' SB' zs'/\(∀ b∈SB',b∈SB\/w1.heap.size<=b)/\Left D M k v frm to down n (zs'.map (·.2)) L) id 1 ⟨.refl _ _,st,SB,zs,hC1,fun b hb=>.inl hb,hL⟩ ?_
  rintro n _ w2 ⟨f2,st2,SB2,zs2,hC2,n2,hL2⟩ X hX
  refine qae (hC2.ldSt ?_)
  have hsl:st2.len=zs2.length:=hC2.buf.len
  refine qaa (fun hc=>?_) (fun hc=>?_)
  rotate_left
  ·have hc:=zB hc
   have e0:zs2=[]:=length_eq_zero_iff.1 (by omega)
   refine ⟨?_,f2,st2,SB2,zs2,hC2,n2⟩
   rcases hL2 with h | ⟨hh,T,ht,_,_⟩
   ·exact h.2
   ·have:=ht.path.len
    rw [e0] at this
    simp at this
  have hc:=zC hc
  have hne:zs2≠[]:=fun e=>by rw [e] at hsl; simp at hsl; omega
  rcases hL2 with ⟨h,_⟩ | ⟨hh,T,ht,hLT,hnd⟩
  ·exact absurd (map_eq_nil_iff.1 h) hne
  have htop:∃ (lo:List CFr) (prs:Prs) (i:Int),zs2.map (·.2)=lo++[(lfOf prs,i)]/\((DoneC down hh (zs2.map (·.2))/\¬ (0<=i/\i<prs.length))\/∃ j:Nat,i=j/\∃ hj:j<prs.length,∃ T',T=prs[j]::T'/\Tells D M k v frm to down hh (lo++[(lfOf prs,wayV down i)]) T'):=by
   rcases ht.told with hd | ⟨prs,j,lo,hj,T',e1,e2,e3⟩
   ·obtain ⟨lo,prs,i,e,hi⟩:=hd.top
    exact ⟨lo,prs,i,e,.inl ⟨hd,hi⟩⟩
   ·exact ⟨lo,prs,j,e1,.inr ⟨j,rfl,hj,T',e2,e3⟩⟩
  obtain ⟨lo,prs,i,ez,hcase⟩:=htop
  obtain ⟨zlo,zr,rfl,rfl,ezr⟩:=map_eq_append_iff.1 ez
  obtain ⟨⟨zx,zf⟩,rfl,ezf⟩:=map_eq_singleton_iff.1 ezr
  have ezf:zf=(lfOf prs,i):=ezf
  subst ezf
  have hfew:=hC2.few
  rw [zF,xL] at hfew
  have hD2:=hC2.drew
  refine qae (hD2.ldSt ?_)
  refine qae (hD2.ldSt ?_)
  refine qoZ hD2.buf (by omega) fun b hB=>?_
  subst hB
  have hE2:=hD2.drew
  have hny:=hE2.nodes (zx,lfOf prs,i) (by simp)
  have hkl:(lfOf prs).keys.length=prs.length:=zK ..
  have hkl2:prs.length<=498:=by rw [<- hkl]; exact (qa6 hny.2).1
  obtain ⟨hzl,hNB,⟨pk,hpk,hpke⟩,⟨pv,hpv,hpve⟩,_⟩:=hny.1
  dsimp only at hzl hpk hpke hpv hpve
  have hpkl:pk.length=prs.length:=by rw [<- hkl,<- hpke,zK]
  have hpvl:pv.length=prs.length:=by
   have:(lfOf prs).vals.length=prs.length:=zK ..
   rw [<- this,<- hpve,zK]
  refine qag (fun q w'=>q=decide (0<=i/\i<prs.length)/\w'=w2.drew.drew) ?_ ?_
  ·refine hE2.ldTop (c:=.bool) (j:=0) (by decide) zx.1 rfl ?_
   refine cond_true hzl ?_
   refine hE2.ldTop (c:=.i) (j:=4) (by decide) i rfl ?_
   refine qaa (fun h=>?_) (fun h=>?_)
   ·have h:=zC h
    refine hE2.ldTop (c:=.i) (j:=4) (by decide) i rfl ?_
    refine hE2.ldTop (c:=.slice) (j:=1) (by decide) zx.2.1 rfl ?_
    exact ⟨decide_eq_decide.2 (by rw [hpk.len,hpkl]; omega),rfl⟩
   ·have h:=zB h
    exact ⟨(zU fun g=>h g.1).symm,rfl⟩
  rintro q w3 ⟨rfl,rfl⟩
  have hpth:=ht.path
  refine qaa (fun h=>?_) (fun h=>?_)
  rotate_left
  ·-- the leaf is told
   have h:=zB h
   have hd:DoneC down hh ((zlo++[(zx,lfOf prs,i)]).map (·.2)):=by
    rcases hcase with hd | ⟨j,rfl,hj,_⟩
    ·exact hd.1
    ·exact absurd ⟨by omega,by omega⟩ h
   have hn1:n≠0:=fun e=>hnd e hd
   refine qqF hpth hE2 fun w4 st4 SB4 zs4 hC4 hz4 f4 n4=>?_
   have f14:Fr (cb::SB) w1 w4:=f2.trans' ((Fr.refl _ w2).drew.drew.trans f4) fun b' hb=>by
    rcases zG.1 hb with rfl | hb
    ·exact .inl (by simp)
    ·exact (n2 b' hb).imp (fun h=>by simp [h]) id
   have n14:∀ b'∈SB4,b'∈SB\/w1.heap.size<=b':=fun b' hb=>by
    rcases n4 b' hb with h | h
    ·exact n2 b' h
    ·exact .inr (zL f2.size h)
   refine hX 0 _ w4 ⟨f14,st4,SB4,zs4,hC4,n14,?_⟩ (by show 0<n; omega)
   rcases ht.next hd with ⟨e2,rfl⟩ | ⟨fs',e2,e3,e4⟩
   ·rw [e2] at hz4
    exact .inl ⟨hz4,hLT⟩
   ·rw [e2] at hz4
    have hz4:zs4.map (·.2)=fs':=hz4
    rw [hz4]
    exact .inr ⟨hh,T,e3,hLT,fun _=>e4⟩
  have h:=zC h
  obtain ⟨j,rfl,hj,T',hT,ht'⟩:∃ j:Nat,i=j/\∃ hj:j<prs.length,∃ T',T=prs[j]::T'/\Tells D M k v frm to down hh (zlo.map (·.2)++[(lfOf prs,wayV down i)]) T':=by
   rcases hcase with hd | hd
   ·exact absurd h hd.2
   ·exact hd
  have hG2:=hE2.drew
  refine hG2.ldTop (c:=.slice) (j:=1) (by decide) zx.2.1 rfl ?_
  refine hG2.ldTop (c:=.i) (j:=4) (by decide) (j:Int) rfl ?_
  have hjk:j<pk.length:=by omega
  have hjv:j<pv.length:=by omega
  refine RdK.get (hpk.frame0 (Fr.refl [] _).drew) j rfl hjk ?_
  refine hG2.ldTop (c:=.slice) (j:=2) (by decide) zx.2.2.1 rfl ?_
  refine hG2.ldTop (c:=.i) (j:=4) (by decide) (j:Int) rfl ?_
  refine RdK.get (hpv.frame0 (Fr.refl [] _).drew) j rfl hjv ?_
  have hH2:=hG2.drew
  obtain ⟨sf,sto,Tc,hcc⟩:=hH2.at
  refine qae (qaE (c:=.any) (dir1 cb down) (qaf hcc) ?_)
  refine hH2.ldTop (c:=.i) (j:=4) (by decide) (j:Int) rfl ?_
  refine qrL (by omega) ?_
  refine hH2.topSt fun w5 hC5 f5=>?_
  have f15:Fr (cb::SB) w1 w5:=f2.trans' ((Fr.refl _ w2).drew.drew.drew.drew.trans f5) fun b' hb=>by
   rw [zE.1 hb]
   exact (n2 b (by simp)).imp (fun h=>by simp [h]) id
  obtain ⟨sf,sto,Tc,hcc⟩:=hC5.at
  refine qae (qaE (c:=.any) (dir3 cb down) (qaf hcc) ?_)
  have f5':Fr (cb::([b]++(r::Y))) w2.drew.drew w5:=(Fr.refl _ w2.drew.drew).drew.drew.trans (f5.mono fun x hx _=>by rw [zE.1 hx]; simp)
  have hks:RdB (cb::([b]++(r::Y))) w5 pk[j].1 pk[j].2:=(hpk.2 _ (zW hjk)).frame f5' fun x hx=>.inl hx
  have hvs:RdB (cb::([b]++(r::Y))) w5 pv[j].1 pv[j].2:=(hpv.2 _ (zW hjv)).frame f5' fun x hx=>.inl hx
  have ek:pk[j].2=prs[j].1:=by
   have:=congrArg (·[j]?) hpke
   dsimp only [lfOf] at this
   rw [zQ,zQ,zA hjk,zA hj] at this
   exact yN this
  have ev:pv[j].2=prs[j].2:=by
   have:=congrArg (·[j]?) hpve
   dsimp only [lfOf] at this
   rw [zQ,zQ,zA hjv,zA hj] at this
   exact yN this
  rw [ek] at hks
  rw [ev] at hvs
  have hkB:IsB prs[j].1:=hNB.1 _ (zY (zW hj))
  have hkn:prs[j].1.length=k:=hny.2.1 _ (zY (zW hj))
  have hvn:prs[j].2.length=v:=hny.2.2.1 _ (zY (zW hj))
  have hkv:=qsc hny.2 rfl
  refine qtS hC5 hks hkB ?_
  refine qaa (fun ho=>?_) (fun ho=>?_)
  ·refine ⟨?_,f15,st2,[b],_,hC5,n2⟩
   rw [hLT,hT,takeWhile_cons,ho]
   rfl
  refine qaO hks (by omega) fun s1 B1 w6 b6 f6 n6 _ _=>?_
  refine qaO (hvs.frame0 f6) (by omega) fun s2 B2 w7 b7 f7 n7 _ _=>?_
  have hr7:=hfr (f15.trans ((f6.trans f7).mono fun _ h=>nomatch h))
  refine qbY hr7 (prV s1 s2) rfl rfl (zO rfl) fun w8 hr8 f8=>?_
  refine qh7 hr8 (s1,s2) rfl ?_
  have hC7:=(hC5.frame0 f6).frame0 f7
  have hn1:∀ b'∈B1,w5.heap.size<=b':=n6
  have hn2:∀ b'∈B2,w5.heap.size<=b':=fun b' hb=>zL f6.size (n7 b' hb)
  have hz5:=f15.size
  have hz1:=f1.size
  have h12:∀ b'∈B1,b'∉B2:=fun b' hb hm=>by
   have:=b6.lt b' hb; have:=n7 b' hm; omega
  have hrn:∀ b'∈B1++B2,b'≠r:=fun b' hb e=>by
   rcases zD.1 hb with hb | hb
   ·have:=hn1 b' hb; omega
   ·have:=hn2 b' hb; omega
  have b8:BufB w8 s1 prs[j].1 B1:=(b6.frame0 f7).frame f8 fun b' hb hm=>hrn b' (by simp [hb]) (zE.1 hm)
  have b9:BufB w8 s2 prs[j].2 B2:=b7.frame f8 fun b' hb hm=>hrn b' (by simp [hb]) (zE.1 hm)
  have hC8:CurE dbk pb FD D F M k v frm to down w0 cb (B1++(B2++Y)) w8 st2 [b] (zlo++[(zx,lfOf prs,wayV down j)]):=by
   have hA:CurE dbk pb FD D F M k v frm to down w0 cb (B1++(B2++(r::Y))) w7 st2 [b] (zlo++[(zx,lfOf prs,wayV down j)]):=hC5.frame ((f6.trans f7).mono fun _ h=>nomatch h) (fun b' hb=>?_) fun b' hb=>?_
   ·exact hA.frame (f8.mono fun b' hb _=>by rw [zE.1 hb]; simp) (fun b' hb=>.inl (by simp only [zD] at hb ⊢; rcases hb with h | h | h <;> simp [h])) fun b' hb=>yC (hA.lt b' (by simp only [zD,zG] at hb ⊢; rcases hb with h | h | h <;> simp [h])) f8.size
   ·rcases zD.1 hb with h | hb
    ·exact .inr (hn1 b' h)
    ·rcases zD.1 hb with h | hb
     ·exact .inr (hn2 b' h)
     ·exact .inl hb
   ·rcases zD.1 hb with h | hb
    ·exact (b6.frame0 f7).lt b' h
    ·rcases zD.1 hb with h | hb
     ·exact b7.lt b' h
     ·exact hC7.lt b' (by simp only [zG,zD]; exact .inr (.inr (zG.1 hb)))
  refine k1 prs[j] (T'.takeWhile fun x=>!overV down frm to x.1) (by rw [hLT,hT,takeWhile_cons,ho]; rfl) s1 s2 B1 B2 w8 st2 [b] _ b8 b9 hC8 (.inr ⟨hh,T',by rw [xM]; exact ht',rfl,fun e=>absurd e (by decide)⟩) ?_ (fun b' hb=>(n2 b' hb).imp id fun h=>zL hz1 h) (fun b' hb=>zL (zL hz1 hz5) (hn1 b' hb)) (fun b' hb=>zL (zL hz1 hz5) (hn2 b' hb)) h12
  refine ((f1.mono fun _ h=>nomatch h).trans (f15.trans ((f6.trans f7).mono fun _ h=>nomatch h))).trans' f8 fun b' hb=>.inr ?_
  rw [zE.1 hb,e1]
  exact zM _
 ·rintro _ w2 ⟨hL0,f2,st2,SB2,zs2,hC2,n2⟩
  refine qae ?_
  refine hC2.setSt (st':=⟨none,0,0⟩) (SB':=[]) (zs':=[]) w2 (.refl _ _) (.nil _ _ _) (fun z hz=>nomatch hz) (fun b hb=>nomatch hb) (yW _) fun w3 hC3 f3=>?_
  have f13:Fr (cb::SB) w1 w3:=f2.trans' f3 fun b hb=>by
   rcases zG.1 hb with rfl | hb
   ·exact .inl (by simp)
   ·exact (n2 b hb).imp (fun h=>by simp [h]) id
  refine qbY (hfr f13) (prV ⟨none,0,0⟩ ⟨none,0,0⟩) rfl rfl (zO rfl) fun w4 hr4 f4=>?_
  refine qh7 hr4 (⟨none,0,0⟩,⟨none,0,0⟩) rfl ?_
  refine k0 hL0 w4 (hC3.frame (f4.mono fun b hb _=>by rw [zE.1 hb]; simp) (fun b hb=>.inl (by simp [hb])) fun b hb=>yC (hC3.lt b (by simp [hb])) f4.size) (((f1.mono fun _ h=>nomatch h).trans f13).trans' f4 fun b hb=>.inr ?_)
  rw [zE.1 hb,e1]
  exact zM _
end
end Go.Proofs.YtmmkegapckbomaaGreatDoor
end
