/- Texts LpE, LwM, RsR, FormsL, LpA, PmF, LpF, LpG, PmG, PmH, PmI, LpH, PmJ, PmL, PmM, CpA, CpB, LpI, CpC: contracts of the program's functions, one behind the other. Conditions: those that stand in each line. -/
import Derived.Test.YtmbcedengdoamaaGreatDoorCCrash4
import Derived.Test.YtmbcedengdoamaaGreatDoorCCrash2
import Derived.Test.YtmbcedengdoamaaGreatDoorCCrash1
import Derived.Test.YtmbcedengdoamaaGreatDoorProg
import Derived.KernelRfl
import Derived.Lib.SlBytesConst
section
set_option linter.unusedVariables false
set_option linter.unusedSimpArgs false
namespace Go.Proofs.YtmbcedengdoamaaGreatDoor
open Go Go.Pt
attribute [local irreducible] ld ldA ldV fld fldA newZ st new idx idxS idxA slc slcS slcP mkS chk nn call callV inv run runQ runU join loop held ext rng undefer s2a nxt ent IntKind.wrap
structure Pair (w:World) (bb dbk pb:Nat) (FD X F:List Nat) (x:RV) (D:DiskM) (M:PgM) (D':DiskM) (M':PgM) (k:Nat) (m:Option Addr) (wv:List Value) (t:Int):Prop where
 cell:w.heap[bb]?=some (.cells (bothV (some ⟨dbk,0,none⟩) (some ⟨pb,0,none⟩) x m wv t).toArray BTT (0,0))
 disk:DiskAt w dbk FD D
 lim:Lim D k
 pager:PagerAt w X pb (dbOf dbk M) F M
 sub:∀ b∈FD,b∈X
 bx:bb∈X
 nd:bb∉FD
 ref:RP (X++F) w x D' M'
 wl:wv.length=27
 w1:wv.all Value.oneCell'=true
section
variable {w w':World} {bb dbk pb:Nat} {FD X F:List Nat} {x:RV} {D D':DiskM} {M M':PgM} {k:Nat} {m:Option Addr} {wv:List Value} {t:Int}
theorem Pair.frame0 (h:Pair w bb dbk pb FD X F x D M D' M' k m wv t) (f:Fr [] w w'):Pair w' bb dbk pb FD X F x D M D' M' k m wv t:=
 ⟨by rw [f.block bb (qab h.cell) (by simp)]; exact h.cell,h.disk.frame0 f,h.lim,h.pager.frame0 f,h.sub,h.bx,h.nd,h.ref.frame0 f,h.wl,h.w1⟩
theorem Pair.bnF (h:Pair w bb dbk pb FD X F x D M D' M' k m wv t):bb∉F:=h.pager.sep bb h.bx
theorem Pair.lt (h:Pair w bb dbk pb FD X F x D M D' M' k m wv t):∀ b∈X++F,b<w.heap.size:=fun b hb=>(List.mem_append.1 hb).elim (h.pager.xlt b) (h.pager.lt b)
theorem Pair.real {F2:List Nat} {M2:PgM} (h:Pair w bb dbk pb FD X F x D M D' M' k m wv t) (hp:PagerAt w' X pb (dbOf dbk M) F2 M2) (ho:M2.over=M.over) (f:Fr F w w') (n:∀ b∈F2,b∈F\/w.heap.size<=b):Pair w' bb dbk pb FD X F2 x D M2 D' M' k m wv t:=
 ⟨by rw [f.block bb (qab h.cell) h.bnF]; exact h.cell,h.disk.frame f fun b hb=>h.pager.sep b (h.sub b hb),h.lim,by rw [dbOf,ho]; exact hp,h.sub,h.bx,h.nd,
  h.ref.frame (f.mono fun b hb _=>List.mem_append_right _ hb) (fun b hb=>(List.mem_append.1 hb).elim (fun h=>.inl (List.mem_append_left _ h)) fun hb=>(n b hb).imp (List.mem_append_right _) id),h.wl,h.w1⟩
theorem qa4 {wq:World} {r:Nat} {x':RV} {M2:PgM} {D2:DiskM} {K:World->Prop} (h:Pair w bb dbk pb FD X F x D M D' M' k m wv t) (f:Fr [] w wq) (hz:wq.heap[r]?=some (.cells (refV rvZ).toArray RPT (0,0))) (hrn:w.heap.size<=r) (hr:RP (r::(X++F)) wq x' D2 M2)
  (kk:∀ w',Pair w' bb dbk pb FD X F x' D M D2 M2 k m wv t->Fr [bb] w w'->K w') :
  chk ((refV x').length=64) (st ⟨r,0,none⟩ (refV x') wq fun w32=>ldV 64 ⟨r,0,none⟩ w32 fun vs=>nn (some ⟨bb,0,none⟩) fun a=>chk (vs.length=64) (st ⟨a.block,a.off+2,none⟩ vs w32 fun w35=>K w35)):=by
 have hx:=h.ref.ok
 have hx':=hr.ok
 have l64:=qaM hx'
 have lz:=qaM qaJ
 refine qam l64 ?_
 refine qce hz (refV x').toArray (qaP (by rw [List.size_toArray,lz,l64])) qkB (by rw [List.size_toArray,lz,l64]; exact Nat.le_of_ble_eq_true rfl) fun w1 c1 f1=>?_
 refine qau c1 (refV x') l64 (by rw [List.drop_zero,List.take_of_length_le (Nat.le_of_eq l64)]) ?_
 refine qac (qam l64 ?_)
 have f01:Fr [] w w1:=f.trans' f1 fun b hb=>by rw [List.mem_singleton.1 hb]; exact .inr hrn
 have h1:=h.frame0 f01
 have hbr:bb≠r:=by have:=qab h.cell; omega
 refine qce (off:=0+2) h1.cell (bothV (some ⟨dbk,0,none⟩) (some ⟨pb,0,none⟩) x' m wv t).toArray (qtu hx hx') qkB (by rw [qfY hx h.wl,l64]; exact Nat.le_of_ble_eq_true rfl) fun w2 c2 f2=>?_
 have hr2:RP (X++F) w2 x' D2 M2:=hr.frame ((f1.mono fun b hb _=>by rw [List.mem_singleton.1 hb]; simp:Fr (r::(X++F)) wq w1).trans (f2.mono fun b hb _=>by rw [List.mem_singleton.1 hb]; exact List.mem_cons_of_mem _ (List.mem_append_left _ h.bx))) fun b hb=>.inl (List.mem_cons_of_mem _ hb)
 refine kk w2 ⟨c2,h1.disk.frame f2 fun b hb hm=>h.nd ((show b=bb from List.mem_singleton.1 hm)▸hb),h.lim,h1.pager.frameX (f2.mono fun b hb _=>by rw [List.mem_singleton.1 hb]; exact h.bx) (fun b hb=>Nat.lt_of_lt_of_le (h1.pager.xlt b hb) f2.size) (fun b hb=>.inl hb),h.sub,h.bx,h.nd,hr2,h.wl,h.w1⟩ ((f01.mono fun b hb=>nomatch hb).trans f2)
structure PgM.Small (M:PgM):Prop where
 lists:M.lists.length<=100000
 free:M.free.length<=100000
 deferred:M.deferred.length<=100000
 fresh:M.fresh.length<=100000
 freeS:M.free.Pairwise (· < ·)
 defS:M.deferred.Pairwise (· < ·)
 body:∀ e∈M.fresh,e.2.2.length<=100000
 bytes:∀ e∈M.fresh,IsB e.2.2
end
def pageM (D D':DiskM) (M M':PgM) (a:OpM):Bool×PgM×PgM:=
 if a.act%12=0 then (decide ((makeV M a.kind a.all).1=(makeR M' a.kind a.all).1),(makeV M a.kind a.all).2,(makeR M' a.kind a.all).2)
 else if a.act%12=1 then (decide ((putV M a.n a.kind a.all).1=(putV M' a.n a.kind a.all).1),(putV M a.n a.kind a.all).2,(putV M' a.n a.kind a.all).2)
 else if a.act%12=2 then (decide ((dropV M a.n).1=(dropV M' a.n).1),(dropV M a.n).2,(dropV M' a.n).2)
 else if a.act%12=3 then (decide (pagerReadM D M a.n=pagerReadM D' M' a.n),M,M')
 else (decide ((setRootM M (IntKind.wrap .i32 a.n) a.n a.kind a.long).1=(setRootM M' (IntKind.wrap .i32 a.n) a.n a.kind a.long).1),(setRootM M (IntKind.wrap .i32 a.n) a.n a.kind a.long).2,(setRootM M' (IntKind.wrap .i32 a.n) a.n a.kind a.long).2)
theorem qpT (M:PgM) (kd:Int) (l:List Int):(makeV M kd l).2.over=M.over:=by unfold makeV; split; rfl; split; rfl; split <;> rfl
theorem qrB (M:PgM) (n kd:Int) (l:List Int):(putV M n kd l).2.over=M.over:=by
 unfold putV
 split
 ·rfl
 ·split
  ·rfl
  ·split <;> rfl
theorem qqD (M:PgM) (n:Int):(dropV M n).2.over=M.over:=by
 unfold dropV
 split
 ·rfl
 ·split
  ·rfl
  ·split <;> rfl
theorem qm7 (M:PgM) (t a b c:Int):(setRootM M t a b c).2.over=M.over:=by
 unfold setRootM
 split
 ·rfl
 ·split <;> rfl
abbrev opCs:List Cell:=[.int .u8,.int .u32,.int .u8,.slice,.int .u16,.slice]
theorem qll (x:Int):-2147483648<=IntKind.wrap .i32 x/\IntKind.wrap .i32 x<2147483648:=by
 unfold IntKind.wrap
 have h1:(IntKind.i32.signed)=true:=rfl
 have h2:∀ y:Int,y%(2:Int)^IntKind.i32.bits=y%4294967296:=fun y=>rfl
 have h3:(2:Int)^IntKind.i32.bits=4294967296:=rfl
 have h4:(2:Int)^(IntKind.i32.bits-1)=2147483648:=rfl
 simp only [h1,h3,h4,Bool.true_and,decide_eq_true_eq]
 split <;> omega
theorem qdn {D:DiskM} {M:PgM} (hD:D.Ok) (hB:∀ e∈M.fresh,IsB e.2.2) (n:Int):IsB (pagerReadM D M n).2.1:=by
 have hz:IsB ([]:List Int):=fun x hx=>nomatch hx
 unfold pagerReadM
 split
 ·exact hz
 split
 ·rename_i q hq
  exact hB _ (qax hq).2
 ·split
  ·exact hz
  split
  ·exact hz
  ·exact (qfp (qaG hD n).1 n).1
theorem qsY {w:World} {bb dbk pb:Nat} {FD X F:List Nat} {x:RV} {D D':DiskM} {M M':PgM} {k:Nat} {m:Option Addr} {wv:List Value} {t:Int} {o:OpC} {a:OpM} {K:Bool->World->Prop}
  (h:Pair w bb dbk pb FD X F x D M D' M' k m wv t) (hM:M.Small) (hM':M'.Small) (hD':D'.Ok) (hv:Hv w) (hop:OpOk (X++F) w o a) (hl:a.body.length<=600)
  (kk:∀ F2 x2 w2,Pair w2 bb dbk pb FD X F2 x2 D (pageM D D' M M' a).2.1 D' (pageM D D' M M' a).2.2 k m wv t->Fr (bb::F) w w2->(∀ b∈F2,b∈F\/w.heap.size<=b)->K (pageM D D' M M' a).1 w2) :
  call Tryz.prog 18 [.pointer (some ⟨bb,0,none⟩),.agg (opA o)] [.one .bool] w K:=by
 obtain ⟨o0,o1,o2,o3,o4,o5⟩:=o
 have ea:o0=a.act:=hop.act
 have en:o1=a.n:=hop.n
 have ek:o2=a.kind:=hop.kind
 have el:o4=a.long:=hop.long
 have hact:=hop.ract
 have hnu:=hop.rn
 have hkd:=hop.rkind
 have hlg:=hop.rlong
 have hBa:=OpM.all_IsB hop.rbody
 have hLa:=OpM.all_len hl hlg.1
 refine qdY (b:=some ⟨bb,0,none⟩) (o0:=o0) (o1:=o1) (o2:=o2) (o3:=o3) (o4:=o4) (o5:=o5) ?_
 unfold qbY
 refine Own.new' (Own.start F w) fun r1 w2 e2 f2 ho=>?_
 have h2:=h.frame0 f2
 have ok2:=hop.frame0 f2
 have hx:=h.ref.ok
 have l64:=qaM hx
 have sepO:∀ {L:List (Nat×Obj)},(∀ p∈L,w.heap.size<=p.1)->∀ p∈L,p.1∉F:=fun hL p hp hb=>by have:=hL p hp; have:=h.pager.lt _ hb; omega
 have hr1:∀ p∈[(r1,Obj.cells (opA (o0,o1,o2,o3,o4,o5)) OPT (0,0))],w.heap.size<=p.1:=fun p hp=>by rw [List.mem_singleton.1 hp]; show w.heap.size<=r1; omega
 refine Own.ld (c:=.int .u8) ho 0 rfl o0 rfl ?_
 have htm:Int.tmod o0 12=a.act%12:=by rw [ea,Int.tmod_eq_emod_of_nonneg hact.1]
 rw [htm]
 have hod:=ho.drew
 have h2d:=h2.frame0 (Fr.refl [] w2).drew
 have ok2d:=ok2.frame0 (Fr.refl [] w2).drew
 have bvx:((bothV (some ⟨dbk,0,none⟩) (some ⟨pb,0,none⟩) x m wv t).toArray.toList.drop (0+2)).take 64=refV x:=qus hx
 have cellP:∀ {w':World},w'.heap[bb]?=some (.cells (bothV (some ⟨dbk,0,none⟩) (some ⟨pb,0,none⟩) x m wv t).toArray BTT (0,0))->w'.cell? ⟨bb,0+1,none⟩=some (.pointer (some ⟨pb,0,none⟩)):=fun hc=>by rw [qah hc]; exact qlo
 have cellsX:∀ {w':World},w'.heap[bb]?=some (.cells (bothV (some ⟨dbk,0,none⟩) (some ⟨pb,0,none⟩) x m wv t).toArray BTT (0,0))->cellsAt w' ⟨bb,0+2,none⟩ 0 (refV x):=fun hc=>qaS hc _ _ 0 (by rw [Nat.add_zero,l64]; exact bvx)
 have cellsO:∀ {w':World} {r:Nat},w'.heap[r]?=some (.cells (opA (o0,o1,o2,o3,o4,o5)) OPT (0,0))->cellsAt w' ⟨r,0,none⟩ 0 (HL.mk opCs (o0,o1,o2,o3,o4,o5)):=fun hc=>qaS hc _ _ 0 rfl
 refine qaa (fun hc=>?_) (fun hc0=>?_)
 ·have h0:a.act%12=0:=by simpa using hc
  rw [show pageM D D' M M' a=(decide ((makeV M a.kind a.all).1=(makeR M' a.kind a.all).1),(makeV M a.kind a.all).2,(makeR M' a.kind a.all).2) from if_pos h0] at kk
  subst ek
  refine qac ?_
  refine qaf (c:=.ptr) (off:=0+1) h2d.cell (some ⟨pb,0,none⟩) qlo ?_
  refine Own.ld (c:=.int .u8) hod 0 rfl a.kind rfl ?_
  refine Own.ldA (cl:=opCs) hod 0 rfl (o0,o1,a.kind,o3,o4,o5) rfl ?_
  refine qbV (o:=(o0,o1,a.kind,o3,o4,o5)) ok2d hl fun s8 B8 w9 b8 f9 n8=>?_
  have ho9:=hod.frame0 f9
  have h9:=h2d.frame0 f9
  refine qa8 (ho9.cell 0 rfl rfl) (cellP h9.cell) ?_
  have hf2:=f2.size
  have away:∀ b∈B8,b∉X++F:=fun b hb hm=>by have:=n8 b hb; have:=h.lt b hm; have:w2.heap.size<=b:=n8 b hb; omega
  refine qol h9.pager (Buf.rds qak b8 away) (by omega) (Nat.le_trans hM.free (by decide)) fun F13 w13 hp13 f13 n13=>?_
  have h13:=h9.real hp13 (qpT M a.kind a.all) f13 n13
  have ho13:=(ho9.frame f13 (fun b hb=>.inl hb) (sepO hr1)).drew
  have h13d:=h13.frame0 (Fr.refl [] w13).drew
  have f09:Fr [] w w9:=(f2.trans (Fr.refl [] w2).drew).trans f9
  have ok13:OpOk (X++F13) w13.drew (o0,o1,a.kind,o3,o4,o5) a:=((hop.frame0 f09).frame (S':=X++F13) (f13.mono fun b hb _=>List.mem_append_right _ hb) (fun b hb=>(List.mem_append.1 hb).elim (fun h=>.inl (List.mem_append_left _ h)) fun hb=>(n13 b hb).imp (List.mem_append_right _) id)).frame0 (Fr.refl [] w13).drew
  have fin:∀ {x5:RV} {w35:World},Pair w35 bb dbk pb FD X F13 x5 D (makeV M a.kind a.all).2 D' (makeR M' a.kind a.all).2 k m wv t->Fr [bb] w13 w35->
    cond ((makeV M a.kind a.all).1.1==(makeR M' a.kind a.all).1.1) (K ((makeV M a.kind a.all).1.2==(makeR M' a.kind a.all).1.2) w35) (K false w35):=by
   intro x5 w35 h35 f35
   have hK:=kk F13 x5 w35 h35 ((f09.mono fun b hb=>nomatch hb).trans ((f13.mono fun b hb _=>List.mem_cons_of_mem _ hb).trans (f35.mono fun b hb _=>by rw [List.mem_singleton.1 hb]; simp))) fun b hb=>(n13 b hb).imp id fun h=>Nat.le_trans f09.size h
   refine qaa (fun hc=>?_) (fun hc=>?_)
   ·have e1:(makeV M a.kind a.all).1.1=(makeR M' a.kind a.all).1.1:=by simpa using hc
    rw [show ((makeV M a.kind a.all).1.2==(makeR M' a.kind a.all).1.2)=decide ((makeV M a.kind a.all).1=(makeR M' a.kind a.all).1) from by
     by_cases e2:(makeV M a.kind a.all).1.2=(makeR M' a.kind a.all).1.2
     ·rw [decide_eq_true (Prod.ext e1 e2),beq_iff_eq]; exact e2
     ·rw [decide_eq_false (fun e=>e2 (congrArg Prod.snd e)),beq_eq_false_iff_ne]; exact e2]
    exact hK
   ·have e1:¬ (makeV M a.kind a.all).1.1=(makeR M' a.kind a.all).1.1:=by simpa using hc
    rw [decide_eq_false (fun e=>e1 (congrArg Prod.fst e))] at hK
    exact hK
  refine ⟨?_,?_,?_⟩
  ·refine qac ?_
   refine qau (off:=0+2) h13d.cell (refV x) l64 bvx ?_
   refine Own.ld (c:=.int .u8) ho13 0 rfl a.kind rfl ?_
   refine Own.ldA (cl:=opCs) ho13 0 rfl (o0,o1,a.kind,o3,o4,o5) rfl ?_
   refine qbV (o:=(o0,o1,a.kind,o3,o4,o5)) ok13 hl fun s18 B18 w19 b18 f19 n18=>?_
   have ho19:=ho13.frame0 f19
   have h19:=h13d.frame0 f19
   have rd18:=Buf.rds (S:=[]) qak b18 (fun b hb hm=>nomatch hm)
   refine qa8 (ho19.cell 0 rfl rfl) (cellsX h19.cell) ?_
   refine qaI (S:=[]) rd18 hBa ?_
   refine qjT (S:=X++F13) (l:=a.all) h19.ref h19.lt hM'.fresh hM'.free fun x5 w25 hp25 f25=>?_
   have ho25:=ho19.frame0 f25
   have h25:=h19.frame0 f25
   refine Own.newZ (Own.start [] w25) qcM fun r w27 e27 hoz=>?_
   have ho27:=ho25.frame0 hoz.fr
   have h27:=h25.frame0 hoz.fr
   refine qii (qb2 (S:=[]) (rd18.frame0 (f25.trans hoz.fr)) hBa) (cellsO (ho27.at (i:=0) rfl)) (ho27.cell 0 rfl rfl) (cellsX h27.cell) ?_
   have f1327:Fr [] w13 w27:=(((Fr.refl [] w13).drew.trans f19).trans f25).trans hoz.fr
   refine qa4 h13 f1327 (hoz.at (i:=0) rfl) (by rw [e27]; exact (((Fr.refl [] w13).drew.trans f19).trans f25).size) (hp25.frame (hoz.fr.mono fun b hb=>nomatch hb) fun b hb=>(List.mem_cons.1 hb).elim (fun e=>.inr (by rw [e,e27]; exact Nat.le_refl _)) .inl) fun w35 h35 f35=>?_
   exact fin h35 f35
  ·refine qac ?_
   refine qau (off:=0+2) h13d.cell (refV x) l64 bvx ?_
   refine Own.ld (c:=.int .u8) ho13 0 rfl a.kind rfl ?_
   refine Own.ldA (cl:=opCs) ho13 0 rfl (o0,o1,a.kind,o3,o4,o5) rfl ?_
   refine qbV (o:=(o0,o1,a.kind,o3,o4,o5)) ok13 hl fun s18 B18 w19 b18 f19 n18=>?_
   have ho19:=ho13.frame0 f19
   have h19:=h13d.frame0 f19
   have rd18:=Buf.rds (S:=[]) qak b18 (fun b hb hm=>nomatch hm)
   refine qa8 (ho19.cell 0 rfl rfl) (cellsX h19.cell) ?_
   refine qaI (S:=[]) rd18 hBa ?_
   refine Own.newZ (Own.start [] w19) qcM fun r w27 e27 hoz=>?_
   have ho27:=ho19.frame0 hoz.fr
   have h27:=h19.frame0 hoz.fr
   refine qii (qb2 (S:=[]) (rd18.frame0 hoz.fr) hBa) (cellsO (ho27.at (i:=0) rfl)) (ho27.cell 0 rfl rfl) (cellsX h27.cell) ?_
   have hrQ:RP (r::(X++F13)) w27 x D' M':=h19.ref.frame (hoz.fr.mono fun b hb=>nomatch hb) fun b hb=>(List.mem_cons.1 hb).elim (fun e=>.inr (by rw [e,e27]; exact Nat.le_refl _)) .inl
   have hSQ:∀ b∈r::(X++F13),b<w27.heap.size:=fun b hb=>(List.mem_cons.1 hb).elim (fun e=>by rw [e]; exact qab (hoz.at (i:=0) rfl)) (h27.lt b)
   refine qjT (S:=r::(X++F13)) (l:=a.all) hrQ hSQ hM'.fresh hM'.free fun x5 w25 hp25 f25=>?_
   have f1325:Fr [] w13 w25:=(((Fr.refl [] w13).drew.trans f19).trans hoz.fr).trans f25
   refine qa4 h13 f1325 ((hoz.frame0 f25).at (i:=0) rfl) (by rw [e27]; exact ((Fr.refl [] w13).drew.trans f19).size) hp25 fun w35 h35 f35=>?_
   exact fin h35 f35
  ·refine qac ?_
   refine qau (off:=0+2) h13d.cell (refV x) l64 bvx ?_
   refine Own.ld (c:=.int .u8) ho13 0 rfl a.kind rfl ?_
   refine Own.ldA (cl:=opCs) ho13 0 rfl (o0,o1,a.kind,o3,o4,o5) rfl ?_
   refine Own.newZ (Own.start [] w13.drew) qcM fun r w27 e27 hoz=>?_
   have ho27:=ho13.frame0 hoz.fr
   have h27:=h13d.frame0 hoz.fr
   have ok27:=ok13.frame0 hoz.fr
   refine qbi (cellsO (ho27.at (i:=0) rfl)) (ho27.cell 0 rfl rfl) (cellsX h27.cell) ?_
   refine qbV (o:=(o0,o1,a.kind,o3,o4,o5)) ok27 hl fun s18 B18 w19 b18 f19 n18=>?_
   have ho19:=ho27.frame0 f19
   have h19:=h27.frame0 f19
   have rd18:=Buf.rds (S:=[]) qak b18 (fun b hb hm=>nomatch hm)
   refine qa8 (ho19.cell 0 rfl rfl) (cellsX h19.cell) ?_
   refine qaI (S:=[]) rd18 hBa ?_
   have hrQ:RP (r::(X++F13)) w19 x D' M':=(h13d.ref.frame (hoz.fr.mono fun b hb=>nomatch hb) fun b hb=>(List.mem_cons.1 hb).elim (fun e=>.inr (by rw [e,e27]; exact Nat.le_refl _)) .inl:RP (r::(X++F13)) w27 x D' M').frame0 f19
   have hSQ:∀ b∈r::(X++F13),b<w19.heap.size:=fun b hb=>(List.mem_cons.1 hb).elim (fun e=>by rw [e]; exact qab ((hoz.frame0 f19).at (i:=0) rfl)) (h19.lt b)
   refine qjT (S:=r::(X++F13)) (l:=a.all) hrQ hSQ hM'.fresh hM'.free fun x5 w25 hp25 f25=>?_
   have f1325:Fr [] w13 w25:=(((Fr.refl [] w13).drew.trans hoz.fr).trans f19).trans f25
   refine qa4 h13 f1325 (((hoz.frame0 f19).frame0 f25).at (i:=0) rfl) (by rw [e27]; exact ((Fr.refl [] w13).drew).size) hp25 fun w35 h35 f35=>?_
   exact fin h35 f35
 have h0:¬ a.act%12=0:=by simpa using hc0
 refine qaa (fun hc=>?_) (fun hc1=>?_)
 ·have h1:a.act%12=1:=by simpa using hc
  rw [show pageM D D' M M' a=(decide ((putV M a.n a.kind a.all).1=(putV M' a.n a.kind a.all).1),(putV M a.n a.kind a.all).2,(putV M' a.n a.kind a.all).2) from (if_neg h0).trans (if_pos h1)] at kk
  subst ek
  subst en
  refine qac ?_
  refine qaf (c:=.ptr) (off:=0+1) h2d.cell (some ⟨pb,0,none⟩) qlo ?_
  refine Own.ld (c:=.int .u32) hod 0 rfl a.n rfl ?_
  refine Own.ld (c:=.int .u8) hod 0 rfl a.kind rfl ?_
  refine Own.ldA (cl:=opCs) hod 0 rfl (o0,a.n,a.kind,o3,o4,o5) rfl ?_
  refine qbV (o:=(o0,a.n,a.kind,o3,o4,o5)) ok2d hl fun s8 B8 w9 b8 f9 n8=>?_
  have ho9:=hod.frame0 f9
  have h9:=h2d.frame0 f9
  refine qbi (ho9.cell 0 rfl rfl) (ho9.cell 0 rfl rfl) (cellP h9.cell) ?_
  have hf2:=f2.size
  have away:∀ b∈B8,b∉X++F:=fun b hb hm=>by have:=h.lt b hm; have:w2.heap.size<=b:=n8 b hb; omega
  refine qte h9.pager (Buf.rds qak b8 away) (by omega) fun w13 hp13 f13=>?_
  have n13:∀ b∈F,b∈F\/w9.heap.size<=b:=fun b hb=>.inl hb
  have h13:=h9.real hp13 (qrB M a.n a.kind a.all) f13 n13
  have ho13:=(ho9.frame f13 (fun b hb=>.inl hb) (sepO hr1)).drew
  have h13d:=h13.frame0 (Fr.refl [] w13).drew
  have f09:Fr [] w w9:=(f2.trans (Fr.refl [] w2).drew).trans f9
  have ok13:OpOk (X++F) w13.drew (o0,a.n,a.kind,o3,o4,o5) a:=((hop.frame0 f09).frame (S':=X++F) (f13.mono fun b hb _=>List.mem_append_right _ hb) (fun b hb=>.inl hb)).frame0 (Fr.refl [] w13).drew
  have fin:∀ {x5:RV} {w35:World},Pair w35 bb dbk pb FD X F x5 D (putV M a.n a.kind a.all).2 D' (putV M' a.n a.kind a.all).2 k m wv t->Fr [bb] w13 w35->K ((putV M a.n a.kind a.all).1==(putV M' a.n a.kind a.all).1) w35:=by
   intro x5 w35 h35 f35
   exact kk F x5 w35 h35 ((f09.mono fun b hb=>nomatch hb).trans ((f13.mono fun b hb _=>List.mem_cons_of_mem _ hb).trans (f35.mono fun b hb _=>by rw [List.mem_singleton.1 hb]; simp))) fun b hb=>.inl hb
  refine ⟨?_,?_,?_⟩
  ·refine qac ?_
   refine qau (off:=0+2) h13d.cell (refV x) l64 bvx ?_
   refine Own.ld (c:=.int .u32) ho13 0 rfl a.n rfl ?_
   refine Own.ld (c:=.int .u8) ho13 0 rfl a.kind rfl ?_
   refine Own.ldA (cl:=opCs) ho13 0 rfl (o0,a.n,a.kind,o3,o4,o5) rfl ?_
   refine qbV (o:=(o0,a.n,a.kind,o3,o4,o5)) ok13 hl fun s18 B18 w19 b18 f19 n18=>?_
   have ho19:=ho13.frame0 f19
   have h19:=h13d.frame0 f19
   have rd18:=Buf.rds (S:=[]) qak b18 (fun b hb hm=>nomatch hm)
   refine qbi (ho19.cell 0 rfl rfl) (ho19.cell 0 rfl rfl) (cellsX h19.cell) ?_
   refine qaI (S:=[]) rd18 hBa ?_
   refine qjR (S:=X++F) (l:=a.all) h19.ref h19.lt hM'.fresh fun x5 w25 hp25 f25=>?_
   have ho25:=ho19.frame0 f25
   have h25:=h19.frame0 f25
   refine Own.newZ (Own.start [] w25) qcM fun r w27 e27 hoz=>?_
   have ho27:=ho25.frame0 hoz.fr
   have h27:=h25.frame0 hoz.fr
   refine qmG (qb2 (S:=[]) (rd18.frame0 (f25.trans hoz.fr)) hBa) (cellsO (ho27.at (i:=0) rfl)) (ho27.cell 0 rfl rfl) (ho27.cell 0 rfl rfl) (cellsX h27.cell) ?_
   have f1327:Fr [] w13 w27:=(((Fr.refl [] w13).drew.trans f19).trans f25).trans hoz.fr
   refine qa4 h13 f1327 (hoz.at (i:=0) rfl) (by rw [e27]; exact (((Fr.refl [] w13).drew.trans f19).trans f25).size) (hp25.frame (hoz.fr.mono fun b hb=>nomatch hb) fun b hb=>(List.mem_cons.1 hb).elim (fun e=>.inr (by rw [e,e27]; exact Nat.le_refl _)) .inl) fun w35 h35 f35=>?_
   exact fin h35 f35
  ·refine qac ?_
   refine qau (off:=0+2) h13d.cell (refV x) l64 bvx ?_
   refine Own.ld (c:=.int .u32) ho13 0 rfl a.n rfl ?_
   refine Own.ld (c:=.int .u8) ho13 0 rfl a.kind rfl ?_
   refine Own.ldA (cl:=opCs) ho13 0 rfl (o0,a.n,a.kind,o3,o4,o5) rfl ?_
   refine qbV (o:=(o0,a.n,a.kind,o3,o4,o5)) ok13 hl fun s18 B18 w19 b18 f19 n18=>?_
   have ho19:=ho13.frame0 f19
   have h19:=h13d.frame0 f19
   have rd18:=Buf.rds (S:=[]) qak b18 (fun b hb hm=>nomatch hm)
   refine qbi (ho19.cell 0 rfl rfl) (ho19.cell 0 rfl rfl) (cellsX h19.cell) ?_
   refine qaI (S:=[]) rd18 hBa ?_
   refine Own.newZ (Own.start [] w19) qcM fun r w27 e27 hoz=>?_
   have ho27:=ho19.frame0 hoz.fr
   have h27:=h19.frame0 hoz.fr
   refine qmG (qb2 (S:=[]) (rd18.frame0 hoz.fr) hBa) (cellsO (ho27.at (i:=0) rfl)) (ho27.cell 0 rfl rfl) (ho27.cell 0 rfl rfl) (cellsX h27.cell) ?_
   have hrQ:RP (r::(X++F)) w27 x D' M':=h19.ref.frame (hoz.fr.mono fun b hb=>nomatch hb) fun b hb=>(List.mem_cons.1 hb).elim (fun e=>.inr (by rw [e,e27]; exact Nat.le_refl _)) .inl
   have hSQ:∀ b∈r::(X++F),b<w27.heap.size:=fun b hb=>(List.mem_cons.1 hb).elim (fun e=>by rw [e]; exact qab (hoz.at (i:=0) rfl)) (h27.lt b)
   refine qjR (S:=r::(X++F)) (l:=a.all) hrQ hSQ hM'.fresh fun x5 w25 hp25 f25=>?_
   have f1325:Fr [] w13 w25:=(((Fr.refl [] w13).drew.trans f19).trans hoz.fr).trans f25
   refine qa4 h13 f1325 ((hoz.frame0 f25).at (i:=0) rfl) (by rw [e27]; exact ((Fr.refl [] w13).drew.trans f19).size) hp25 fun w35 h35 f35=>?_
   exact fin h35 f35
  ·refine qac ?_
   refine qau (off:=0+2) h13d.cell (refV x) l64 bvx ?_
   refine Own.ld (c:=.int .u32) ho13 0 rfl a.n rfl ?_
   refine Own.ld (c:=.int .u8) ho13 0 rfl a.kind rfl ?_
   refine Own.ldA (cl:=opCs) ho13 0 rfl (o0,a.n,a.kind,o3,o4,o5) rfl ?_
   refine Own.newZ (Own.start [] w13.drew) qcM fun r w27 e27 hoz=>?_
   have ho27:=ho13.frame0 hoz.fr
   have h27:=h13d.frame0 hoz.fr
   have ok27:=ok13.frame0 hoz.fr
   refine qii (cellsO (ho27.at (i:=0) rfl)) (ho27.cell 0 rfl rfl) (ho27.cell 0 rfl rfl) (cellsX h27.cell) ?_
   refine qbV (o:=(o0,a.n,a.kind,o3,o4,o5)) ok27 hl fun s18 B18 w19 b18 f19 n18=>?_
   have ho19:=ho27.frame0 f19
   have h19:=h27.frame0 f19
   have rd18:=Buf.rds (S:=[]) qak b18 (fun b hb hm=>nomatch hm)
   refine qbi (ho19.cell 0 rfl rfl) (ho19.cell 0 rfl rfl) (cellsX h19.cell) ?_
   refine qaI (S:=[]) rd18 hBa ?_
   have hrQ:RP (r::(X++F)) w19 x D' M':=(h13d.ref.frame (hoz.fr.mono fun b hb=>nomatch hb) fun b hb=>(List.mem_cons.1 hb).elim (fun e=>.inr (by rw [e,e27]; exact Nat.le_refl _)) .inl:RP (r::(X++F)) w27 x D' M').frame0 f19
   have hSQ:∀ b∈r::(X++F),b<w19.heap.size:=fun b hb=>(List.mem_cons.1 hb).elim (fun e=>by rw [e]; exact qab ((hoz.frame0 f19).at (i:=0) rfl)) (h19.lt b)
   refine qjR (S:=r::(X++F)) (l:=a.all) hrQ hSQ hM'.fresh fun x5 w25 hp25 f25=>?_
   have f1325:Fr [] w13 w25:=(((Fr.refl [] w13).drew.trans hoz.fr).trans f19).trans f25
   refine qa4 h13 f1325 (((hoz.frame0 f19).frame0 f25).at (i:=0) rfl) (by rw [e27]; exact ((Fr.refl [] w13).drew).size) hp25 fun w35 h35 f35=>?_
   exact fin h35 f35
 have h1:¬ a.act%12=1:=by simpa using hc1
 refine qaa (fun hc=>?_) (fun hc2=>?_)
 ·have h2':a.act%12=2:=by simpa using hc
  rw [show pageM D D' M M' a=(decide ((dropV M a.n).1=(dropV M' a.n).1),(dropV M a.n).2,(dropV M' a.n).2) from (if_neg h0).trans ((if_neg h1).trans (if_pos h2'))] at kk
  subst en
  refine qac ?_
  refine qaf (c:=.ptr) (off:=0+1) h2d.cell (some ⟨pb,0,none⟩) qlo ?_
  refine Own.ld (c:=.int .u32) hod 0 rfl a.n rfl ?_
  refine qsf h2d.pager (Nat.le_trans hM.lists (by decide)) (Nat.le_trans hM.free (by decide)) (Nat.le_trans hM.deferred (by decide)) fun F13 w13 hp13 f13 n13=>?_
  have h13:=h2d.real hp13 (qqD M a.n) f13 n13
  have ho13:=(hod.frame f13 (fun b hb=>.inl hb) (sepO hr1)).drew
  have h13d:=h13.frame0 (Fr.refl [] w13).drew
  have f09:Fr [] w w2.drew:=f2.trans (Fr.refl [] w2).drew
  have fin:∀ {x5:RV} {w35:World},Pair w35 bb dbk pb FD X F13 x5 D (dropV M a.n).2 D' (dropV M' a.n).2 k m wv t->Fr [bb] w13 w35->K ((dropV M a.n).1==(dropV M' a.n).1) w35:=by
   intro x5 w35 h35 f35
   exact kk F13 x5 w35 h35 ((f09.mono fun b hb=>nomatch hb).trans ((f13.mono fun b hb _=>List.mem_cons_of_mem _ hb).trans (f35.mono fun b hb _=>by rw [List.mem_singleton.1 hb]; simp))) fun b hb=>(n13 b hb).imp id fun h=>Nat.le_trans f09.size h
  refine ⟨?_,?_⟩
  ·refine qac ?_
   refine qau (off:=0+2) h13d.cell (refV x) l64 bvx ?_
   refine Own.ld (c:=.int .u32) ho13 0 rfl a.n rfl ?_
   refine qmg (S:=X++F13) h13d.ref h13d.lt hM'.lists hM'.free hM'.deferred hM'.fresh hM'.freeS hM'.defS fun x5 w25 hp25 f25=>?_
   have ho25:=ho13.frame0 f25
   have h25:=h13d.frame0 f25
   refine Own.newZ (Own.start [] w25) qcM fun r w27 e27 hoz=>?_
   have ho27:=ho25.frame0 hoz.fr
   have h27:=h25.frame0 hoz.fr
   refine qa8 (ho27.cell 0 rfl rfl) (cellsX h27.cell) ?_
   have f1325:Fr [] w13 w25:=(Fr.refl [] w13).drew.trans f25
   refine qa4 h13 (f1325.trans hoz.fr) (hoz.at (i:=0) rfl) (by rw [e27]; exact f1325.size) (hp25.frame (hoz.fr.mono fun b hb=>nomatch hb) fun b hb=>(List.mem_cons.1 hb).elim (fun e=>.inr (by rw [e,e27]; exact Nat.le_refl _)) .inl) fun w35 h35 f35=>?_
   exact fin h35 f35
  ·refine qac ?_
   refine qau (off:=0+2) h13d.cell (refV x) l64 bvx ?_
   refine Own.ld (c:=.int .u32) ho13 0 rfl a.n rfl ?_
   refine Own.newZ (Own.start [] w13.drew) qcM fun r w27 e27 hoz=>?_
   have ho27:=ho13.frame0 hoz.fr
   have h27:=h13d.frame0 hoz.fr
   refine qa8 (ho27.cell 0 rfl rfl) (cellsX h27.cell) ?_
   have hrQ:RP (r::(X++F13)) w27 x D' M':=h13d.ref.frame (hoz.fr.mono fun b hb=>nomatch hb) fun b hb=>(List.mem_cons.1 hb).elim (fun e=>.inr (by rw [e,e27]; exact Nat.le_refl _)) .inl
   have hSQ:∀ b∈r::(X++F13),b<w27.heap.size:=fun b hb=>(List.mem_cons.1 hb).elim (fun e=>by rw [e]; exact qab (hoz.at (i:=0) rfl)) (h27.lt b)
   refine qmg (S:=r::(X++F13)) hrQ hSQ hM'.lists hM'.free hM'.deferred hM'.fresh hM'.freeS hM'.defS fun x5 w25 hp25 f25=>?_
   have f1325:Fr [] w13 w25:=((Fr.refl [] w13).drew.trans hoz.fr).trans f25
   refine qa4 h13 f1325 ((hoz.frame0 f25).at (i:=0) rfl) (by rw [e27]; exact ((Fr.refl [] w13).drew).size) hp25 fun w35 h35 f35=>?_
   exact fin h35 f35
 have h2':¬ a.act%12=2:=by simpa using hc2
 refine qaa (fun hc=>?_) (fun hc3=>?_)
 ·have h3':a.act%12=3:=by simpa using hc
  rw [show pageM D D' M M' a=(decide (pagerReadM D M a.n=pagerReadM D' M' a.n),M,M') from (if_neg h0).trans ((if_neg h1).trans ((if_neg h2').trans (if_pos h3')))] at kk
  subst en
  refine qac ?_
  refine qaf (c:=.ptr) (off:=0+1) h2d.cell (some ⟨pb,0,none⟩) qlo ?_
  refine Own.ld (c:=.int .u32) hod 0 rfl a.n rfl ?_
  have hv2:Hv w2.drew:=(hv.frame0 f2).frame0 (Fr.refl [] w2).drew
  refine ql2 h2d.disk h2d.lim h2d.pager hv2 hnu (Nat.le_trans hM.lists (by decide)) hM.body fun s13 w13 rd13 f13=>?_
  have h13:=h2d.frame0 f13
  have ho13:=(hod.frame0 f13).drew
  have h13d:=h13.frame0 (Fr.refl [] w13).drew
  refine qac ?_
  refine qau (off:=0+2) h13d.cell (refV x) l64 bvx ?_
  refine Own.ld (c:=.int .u32) ho13 0 rfl a.n rfl ?_
  refine qq6 (S:=X++F) h13d.ref hD' hnu hM'.lists hM'.free hM'.deferred hM'.fresh fun w25 f25=>?_
  have f025:Fr [] w w25:=(((f2.trans (Fr.refl [] w2).drew).trans f13).trans (Fr.refl [] w13).drew).trans f25
  have hK:=kk F x w25 (h.frame0 f025) (f025.mono fun b hb=>nomatch hb) fun b hb=>.inl hb
  have hBr:=qdn h.lim.ok hM.bytes a.n
  have hBr':=qdn hD' hM'.bytes a.n
  refine qaa (fun hc=>?_) (fun hc=>?_)
  ·have e1:(pagerReadM D M a.n).1=(pagerReadM D' M' a.n).1:=by simpa using hc
   refine qaI (S:=[]) ((rd13 [] (fun b hb=>nomatch hb)).frame0 ((Fr.refl [] w13).drew.trans f25)) hBr ?_
   rw [qhX hBr hBr']
   refine qaa (fun hc=>?_) (fun hc=>?_)
   ·have e2:(pagerReadM D M a.n).2.1=(pagerReadM D' M' a.n).2.1:=of_decide_eq_true hc
    rw [show ((pagerReadM D M a.n).2.2==(pagerReadM D' M' a.n).2.2)=decide (pagerReadM D M a.n=pagerReadM D' M' a.n) from by
     by_cases e3:(pagerReadM D M a.n).2.2=(pagerReadM D' M' a.n).2.2
     ·rw [decide_eq_true (Prod.ext e1 (Prod.ext e2 e3)),beq_iff_eq]; exact e3
     ·rw [decide_eq_false (fun e=>e3 (by rw [e])),beq_eq_false_iff_ne]; exact e3]
    exact hK
   ·have e2:=of_decide_eq_false hc
    rw [decide_eq_false (fun e=>e2 (by rw [e]))] at hK
    exact hK
  ·have e1:¬ (pagerReadM D M a.n).1=(pagerReadM D' M' a.n).1:=by simpa using hc
   rw [decide_eq_false (fun e=>e1 (by rw [e]))] at hK
   exact hK
 have h3':¬ a.act%12=3:=by simpa using hc3
 rw [show pageM D D' M M' a=(decide ((setRootM M (IntKind.wrap .i32 a.n) a.n a.kind a.long).1=(setRootM M' (IntKind.wrap .i32 a.n) a.n a.kind a.long).1),(setRootM M (IntKind.wrap .i32 a.n) a.n a.kind a.long).2,(setRootM M' (IntKind.wrap .i32 a.n) a.n a.kind a.long).2) from (if_neg h0).trans ((if_neg h1).trans ((if_neg h2').trans (if_neg h3')))] at kk
 subst en
 subst ek
 subst el
 refine Own.ld (c:=.int .u32) ho 0 rfl a.n rfl ?_
 refine Own.ld (c:=.int .u8) ho 0 rfl a.kind rfl ?_
 refine Own.ld (c:=.int .u16) ho 0 rfl a.long rfl ?_
 rw [qaE a.kind (by omega),qaE a.long (by omega)]
 refine Own.newSt ho (cs':=#[.int .u32 a.n,.int .u32 a.kind,.int .u32 a.long]) rfl rfl (Nat.le_of_ble_eq_true rfl) fun rr w3 e3 ho3 f3=>?_
 have h3:=h2.frame0 f3
 have h3d:=h3.frame0 (Fr.refl [] w3).drew
 have ho3d:=ho3.drew
 have hr2:∀ p∈[(rr,Obj.cells #[.int .u32 a.n,.int .u32 a.kind,.int .u32 a.long] 42 (0,0)),(r1,Obj.cells (opA (o0,a.n,a.kind,o3,a.long,o5)) OPT (0,0))],w.heap.size<=p.1:=fun p hp=>by
  have:=f2.size
  simp only [List.mem_cons,List.not_mem_nil,or_false] at hp
  rcases hp with rfl | rfl
  ·show w.heap.size<=rr; omega
  ·show w.heap.size<=r1; omega
 have hw32:IntKind.wrap .i64 (IntKind.wrap .i32 a.n)=IntKind.wrap .i32 a.n:=wi' _ (by have:=qll a.n; omega)
 have cellsR:∀ {w':World},w'.heap[rr]?=some (Obj.cells #[.int .u32 a.n,.int .u32 a.kind,.int .u32 a.long] 42 (0,0))->cellsAt w' ⟨rr,0,none⟩ 0 (HL.mk [Cell.int .u32,Cell.int .u32,Cell.int .u32] (a.n,a.kind,a.long)):=fun hc=>qaS hc _ _ 0 rfl
 refine qac ?_
 refine qaf (c:=.ptr) (off:=0+1) h3d.cell (some ⟨pb,0,none⟩) qlo ?_
 refine Own.ld (c:=.int .u32) ho3d 1 rfl a.n rfl ?_
 refine Own.ldA (cl:=[Cell.int .u32,Cell.int .u32,Cell.int .u32]) ho3d 0 rfl (a.n,a.kind,a.long) rfl ?_
 rw [hw32]
 refine qo5 h3d.pager fun w13 hp13 f13=>?_
 have n13:∀ b∈F,b∈F\/w3.drew.heap.size<=b:=fun b hb=>.inl hb
 have h13:=h3d.real hp13 (qm7 M _ _ _ _) f13 n13
 have ho13:=(ho3d.frame f13 (fun b hb=>.inl hb) (sepO hr2)).drew
 have h13d:=h13.frame0 (Fr.refl [] w13).drew
 have f09:Fr [] w w3.drew:=(f2.trans f3).drew
 have fin:∀ {x5:RV} {w35:World},Pair w35 bb dbk pb FD X F x5 D (setRootM M (IntKind.wrap .i32 a.n) a.n a.kind a.long).2 D' (setRootM M' (IntKind.wrap .i32 a.n) a.n a.kind a.long).2 k m wv t->Fr [bb] w13 w35->K ((setRootM M (IntKind.wrap .i32 a.n) a.n a.kind a.long).1==(setRootM M' (IntKind.wrap .i32 a.n) a.n a.kind a.long).1) w35:=by
  intro x5 w35 h35 f35
  exact kk F x5 w35 h35 ((f09.mono fun b hb=>nomatch hb).trans ((f13.mono fun b hb _=>List.mem_cons_of_mem _ hb).trans (f35.mono fun b hb _=>by rw [List.mem_singleton.1 hb]; simp))) fun b hb=>.inl hb
 refine ⟨?_,?_⟩
 ·refine qac ?_
  refine qau (off:=0+2) h13d.cell (refV x) l64 bvx ?_
  refine Own.ld (c:=.int .u32) ho13 1 rfl a.n rfl ?_
  refine Own.ldA (cl:=[Cell.int .u32,Cell.int .u32,Cell.int .u32]) ho13 0 rfl (a.n,a.kind,a.long) rfl ?_
  rw [hw32]
  refine qi2 (S:=X++F) h13d.ref fun x5 w25 hp25 f25=>?_
  have ho25:=ho13.frame0 f25
  have h25:=h13d.frame0 f25
  refine Own.newZ (Own.start [] w25) qcM fun r w27 e27 hoz=>?_
  have ho27:=ho25.frame0 hoz.fr
  have h27:=h25.frame0 hoz.fr
  refine qbi (cellsR (ho27.at (i:=0) rfl)) (ho27.cell 1 rfl rfl) (cellsX h27.cell) ?_
  have f1325:Fr [] w13 w25:=(Fr.refl [] w13).drew.trans f25
  refine qa4 h13 (f1325.trans hoz.fr) (hoz.at (i:=0) rfl) (by rw [e27]; exact f1325.size) (hp25.frame (hoz.fr.mono fun b hb=>nomatch hb) fun b hb=>(List.mem_cons.1 hb).elim (fun e=>.inr (by rw [e,e27]; exact Nat.le_refl _)) .inl) fun w35 h35 f35=>?_
  exact fin h35 f35
 ·refine qac ?_
  refine qau (off:=0+2) h13d.cell (refV x) l64 bvx ?_
  refine Own.ld (c:=.int .u32) ho13 1 rfl a.n rfl ?_
  refine Own.ldA (cl:=[Cell.int .u32,Cell.int .u32,Cell.int .u32]) ho13 0 rfl (a.n,a.kind,a.long) rfl ?_
  refine Own.newZ (Own.start [] w13.drew) qcM fun r w27 e27 hoz=>?_
  have ho27:=ho13.frame0 hoz.fr
  have h27:=h13d.frame0 hoz.fr
  refine qbi (cellsR (ho27.at (i:=0) rfl)) (ho27.cell 1 rfl rfl) (cellsX h27.cell) ?_
  have hrQ:RP (r::(X++F)) w27 x D' M':=h13d.ref.frame (hoz.fr.mono fun b hb=>nomatch hb) fun b hb=>(List.mem_cons.1 hb).elim (fun e=>.inr (by rw [e,e27]; exact Nat.le_refl _)) .inl
  rw [hw32]
  refine qi2 (S:=r::(X++F)) hrQ fun x5 w25 hp25 f25=>?_
  have f1325:Fr [] w13 w25:=((Fr.refl [] w13).drew.trans hoz.fr).trans f25
  refine qa4 h13 f1325 ((hoz.frame0 f25).at (i:=0) rfl) (by rw [e27]; exact ((Fr.refl [] w13).drew).size) hp25 fun w35 h35 f35=>?_
  exact fin h35 f35
end Go.Proofs.YtmbcedengdoamaaGreatDoor
end
section
namespace Go.Proofs.YtmbcedengdoamaaGreatDoor
open Go.ChangeShapes Go.WideShapes Go.ChangeAt Go.RowKit Go.Pt
open Go
set_option linter.unusedVariables false
theorem qur:fieldT Tryz.prog OPT 3=some 22:=by kernel_rfl
theorem qup:fieldT Tryz.prog OPT 5=some 40:=by kernel_rfl
theorem qs4 {H:Type} {enc:TypeId×Value->H} {W:World} {base:Nat} {spare:Nat->Bool} {held:Bool} {n:Nat} {s:Sl} {y:DataW H×List MemPlace} (h:DataW.trod enc Tryz.prog W base spare held n 40 [.slice s.a s.len s.cap]=some y):∃ l,Rds encLoss 2 [] W s l:=by
 obtain ⟨l,g,_⟩:=qfa (P:=Tryz.prog) (t:=40) (e:=136) (s:=s) (k:=2) (encB:=HL.mk [Cell.int .i64,Cell.int .i64]) (by kernel_rfl) (by kernel_rfl) (by decide) (qhI (cs:=[Cell.int .i64,Cell.int .i64]) (by kernel_rfl)) h
 exact ⟨l,g⟩
theorem quj {H:Type} {enc:TypeId×Value->H} {W:World} {base:Nat} {spare:Nat->Bool} {held:Bool} {x:OpC}
  (h:HFit opCs x/\∀ (i:Nat) v,(HL.mk opCs x)[i]?=some v->∃ u n y,fieldT Tryz.prog OPT i=some u/\DataW.trod enc Tryz.prog W base spare held n u [v]=some y):∃ a,OpOk [] W x a:=by
 obtain ⟨o0,o1,o2,o3,o4,o5⟩:=x
 obtain ⟨⟨q0,q1,q2,q3,q4,q5⟩,hf⟩:=h
 obtain ⟨u3,n3,y3,hu3,ht3⟩:=hf 3 (.slice o3.a o3.len o3.cap) rfl
 obtain rfl:=Option.some.inj (qur.symm.trans hu3)
 obtain ⟨u5,n5,y5,hu5,ht5⟩:=hf 5 (.slice o5.a o5.len o5.cap) rfl
 obtain rfl:=Option.some.inj (qup.symm.trans hu5)
 obtain ⟨l3,g3,e3⟩:=qfa (P:=Tryz.prog) (t:=22) (e:=5) (s:=o3) (k:=1) (encB:=fun n=>[Value.int .u8 n]) (by kernel_rfl) (by kernel_rfl) (by decide) (qsD (k:=.u8) (by kernel_rfl)) ht3
 obtain ⟨l5,g5⟩:=qs4 ht5
 exact ⟨⟨o0,o1,o2,l3,o4,l5⟩,rfl,rfl,rfl,g3,rfl,g5,qnc q0,qt1 q1,qnc q2,qtN q4,fun z hz=>qnc (e3 z hz)⟩
end Go.Proofs.YtmbcedengdoamaaGreatDoor
end
section
set_option linter.unusedVariables false
set_option linter.unusedSimpArgs false
namespace Go.Proofs.YtmbcedengdoamaaGreatDoor
open Go Go.Pt
attribute [local irreducible] ld ldA ldV fld fldA newZ st new idx idxS idxA slc slcS slcP mkS chk nn call callV inv run runQ runU join loop held ext rng undefer s2a nxt ent IntKind.wrap
end Go.Proofs.YtmbcedengdoamaaGreatDoor
end
section
set_option linter.unusedVariables false
set_option maxRecDepth 100000
namespace Go.Proofs.YtmbcedengdoamaaGreatDoor
open Go Go.Pt
def qc9 (blocks:Int) (K:((Option Addr)×(Option Addr))->World->Prop) (w:World):Prop:=call Tryz.prog 38 ([.int .i64 blocks]) ([.one .ptr,.one (.int .i64)]) w fun (a:Option Addr×Int) b=>join (Bool) (fun c=>cond (!a.snd==0) (c true b) (cond (Option.isNone a.fst) (c true b) (call Tryz.prog 39 ([.pointer a.fst]) ([.one (.int .i64)]) b fun (d:Int) e=>c (!d==0) e))) fun (f:Bool) g=>cond f (K ((none,none)) g) (call Tryz.prog 24 ([.pointer a.fst]) ([.one .ptr,.one (.int .i64)]) g fun (h:Option Addr×Int) i=>cond (!h.snd==0) (K ((none,none)) i) (K ((a.fst,h.fst)) i))
def qhk:List Ann:=[.n,.n,.n,.j [(22,.one .bool)],.n,.n,.n,.n,.n,.n]
theorem qgn {blocks w K} (hF:qc9 blocks K w):call Tryz.prog 8 [.int .i64 blocks] [.one .ptr,.one .ptr] w K:=qad (an:=qhk) Tryz.func8 hF
def qcQ  (K:Bool->World->Prop) (w:World):Prop:=call Tryz.prog 8 ([.int .i64 8]) ([.one .ptr,.one .ptr]) w fun (b:Option Addr×Option Addr) c=>join (Bool) (fun d=>cond (Option.isNone b.fst) (d true c) (cond (Option.isNone b.snd) (d true c) (call Tryz.prog 32 ([.pointer b.snd]) ([.one .slice]) c fun e f=>new (Obj.cells #[.int .u32 2] 29) f fun g h=>call Tryz.prog 31 ([.slice e.a e.len e.cap,.slice (some ⟨g,0,none⟩) 1 1]) ([.one .bool]) h fun (i:Bool) j=>cond (!i) (d true j) (call Tryz.prog 9 ([.pointer b.snd]) ([.one .slice]) j fun k l=>new (Obj.cells #[.int .u32 3,.int .u32 4,.int .u32 5,.int .u32 6,.int .u32 7] 29) l fun m n=>call Tryz.prog 31 ([.slice k.a k.len k.cap,.slice (some ⟨m,0,none⟩) 5 5]) ([.one .bool]) n fun (o:Bool) p=>d (!o) p)))) fun (q:Bool) r=>cond q (K false r) (new (Obj.cells #[.int .u8 120] 5) r fun s t=>run [.one .slice] ((convert 22 22 (.slice (some ⟨s,0,none⟩) 1 1)).run Tryz.prog t) fun u v=>call Tryz.prog 10 ([.pointer b.snd,.int .u8 3,.slice u.a u.len u.cap]) ([.one (.int .u32),.one (.int .i64)]) v fun (x:Int×Int) y=>call Tryz.prog 20 ([.pointer b.snd]) ([.one (.int .i64)]) y fun (z:Int) A=>cond (x.snd==0) (cond (x.fst==3) (cond (z==0) (call Tryz.prog 25 ([.pointer b.snd]) ([.one (.int .u64)]) A fun (B:Int) C=>cond (B==2) (call Tryz.prog 32 ([.pointer b.snd]) ([.one .slice]) C fun D E=>new (Obj.cells #[.int .u32 4] 29) E fun F G=>call Tryz.prog 31 ([.slice D.a D.len D.cap,.slice (some ⟨F,0,none⟩) 1 1]) ([.one .bool]) G fun (H:Bool) I=>cond H (call Tryz.prog 9 ([.pointer b.snd]) ([.one .slice]) I fun J L=>new (Obj.cells #[.int .u32 2,.int .u32 5,.int .u32 6,.int .u32 7] 29) L fun M N=>call Tryz.prog 31 ([.slice J.a J.len J.cap,.slice (some ⟨M,0,none⟩) 4 4]) ([.one .bool]) N fun (O:Bool) P=>K O P) (K false I)) (K false C)) (K false A)) (K false A)) (K false A))
def qgG:List Ann:=[.n,.n,.n,.j [(29,.one .bool)],.n,.n,.n,.n]
theorem qfA {w K} (hF:qcQ  K w):call Tryz.prog 12 [] [.one .bool] w K:=qad (an:=qgG) Tryz.func12 hF
end Go.Proofs.YtmbcedengdoamaaGreatDoor
end
section
set_option linter.unusedVariables false
set_option linter.unusedSimpArgs false
namespace Go.Proofs.YtmbcedengdoamaaGreatDoor
open Go Go.Pt
attribute [local irreducible] ld ldA ldV fld fldA newZ st new idx idxS idxA slc slcS slcP mkS chk nn call callV inv run runQ runU join loop held ext rng undefer s2a nxt ent IntKind.wrap
theorem Lim.new {n:Nat} (h:n<=4096):Lim (newM n) 0:=⟨qty h,by simp [newM],by simp [newM]⟩
def pgs (n:Nat):List Int:=(allV n).take (needP (allV n).length)
def nums (n:Nat):List Int:=(allV n).drop (needP (allV n).length)
def madeM (n:Nat):PgM:=begunM (fmtSup n) (pgs n) (nums n) 1 false (nums n)
theorem qlW {n:Nat} (h8:8<=n) (h4:n<=4096):(madeM n).Wf:=by
 have e:(fmtSup n).2.getD 0 0=n:=by show IntKind.wrap .u32 (n:Int)=_; exact qaE _ (by omega)
 exact qoA (by rw [e]; exact qk8) (by rw [e]; omega) (qh7 h8 h4).u32
structure Made (D:DiskM) (n:Nat):Prop where
 quiet:Quiet D
 size:D.size=n
 waits:D.waits=[]
 opens:Opens D (fmtSup n) (pgs n) (nums n)
 fmt:formatM (newM n)=(D,0)
 zero:view D 0=zs 512
theorem qnT {w:World} {n:Nat} {K:Option Addr×Option Addr->World->Prop} (X:List Nat) (hXl:∀ b∈X,b<w.heap.size) (hv:Hv w) (h8:8<=n) (h4:n<=4096)
  (hk:∀ dbk pb FD F D w',DiskAt w' dbk FD D->Lim D 5000->PagerAt w' (FD++X) pb (dbOf dbk (madeM n)) F (madeM n)->Made D n->Fr [] w w'->(∀ b∈FD++F,w.heap.size<=b)->K (some ⟨dbk,0,none⟩,some ⟨pb,0,none⟩) w') :
  call Tryz.prog 8 [.int .i64 n] [.one .ptr,.one .ptr] w K:=by
 refine qgn ?_
 unfold qc9
 refine qs6 (fun h=>by omega) fun _ _ dbk FD w1 d1 f1 n1=>?_
 rw [Int.toNat_natCast] at d1
 obtain ⟨D',e1,q1,s1,wt1,o1,z1⟩:=qnF (qqy n) (qrW n) h8 h4
 have hv1:=hv.frame0 f1
 have hg:HG∉FD:=fun hm=>by have:=n1 _ hm; have:=hv.lt; omega
 have hsl:(newM n).safe.length=n:=by simp [newM]
 refine qae (fun b w'=>b=false/\∃ F',DS dbk w1 FD w' F' D' (0+5000)) ?_ ?_
 ·refine cond_false rfl (cond_false rfl ?_)
  refine qqG d1 (Lim.new h4) (by decide) (by omega) hv1 hg fun w' F' d'=>?_
  rw [e1] at d' ⊢
  exact ⟨rfl,F',d'⟩
 rintro b w2 ⟨rfl,F2,d2⟩
 refine cond_false rfl ?_
 have hnew:∀ b∈F2,w.heap.size<=b:=fun b hb=>by
  rcases d2.nw b hb with h | h
  ·exact n1 b h
  ·exact Nat.le_trans f1.size h
 have hop:=o1.open
 refine qmE (F2++X) (fun b hb=>(List.mem_append.1 hb).elim (d2.at_.lt b) fun hb=>Nat.lt_of_lt_of_le (hXl b hb) (Nat.le_trans f1.size d2.fr.size)) d2.at_ d2.lim.ok (d2.hv hv1 hg).1 (fun h=>by rw [hop] at h; cases h) fun pb F M w3 hM hp f3 n3=>?_
 rw [hop] at hM
 cases hM
 refine cond_false rfl ?_
 refine hk dbk pb F2 F D' w3 (d2.at_.frame0 f3) d2.lim hp ⟨q1,s1,wt1,o1,e1,z1⟩ ((f1.trans' d2.fr fun b hb=>.inr (n1 b hb)).trans' f3 (by simp)) fun b hb=>?_
 rcases List.mem_append.1 hb with hb | hb
 ·exact hnew b hb
 ·exact Nat.le_trans (Nat.le_trans f1.size d2.fr.size) (n3 b hb)
theorem qs3 {w:World} {n:Nat} {K:Option Addr×Option Addr->World->Prop} (hv:Hv w) (h8:8<=n) (h4:n<=4096)
  (hk:∀ dbk pb FD F D w',Both w' dbk pb FD F D (madeM n) 5000->Made D n->Fr [] w w'->(∀ b∈FD++F,w.heap.size<=b)->K (some ⟨dbk,0,none⟩,some ⟨pb,0,none⟩) w') :
  call Tryz.prog 8 [.int .i64 n] [.one .ptr,.one .ptr] w K:=
 qnT [] (fun b hb=>nomatch hb) hv h8 h4 fun dbk pb FD F D w' h1 h2 h3=>hk dbk pb FD F D w' ⟨h1,h2,h3.weakX fun b hb=>List.mem_append_left _ hb⟩
theorem qkn {S:List Nat} {w:World} {b:Nat} {T:TypeId} {fr:Nat×Nat} {l:List Int} (hb:w.heap[b]?=some (.cells (l.map (Value.int .u32)).toArray T fr)) (hS:b∉S):Rd S w ⟨some ⟨b,0,none⟩,l.length,l.length⟩ l:=by
 refine ⟨rfl,Nat.le_refl _,.inr ⟨b,0,_,T,fr,rfl,hb,hS,fun i x hx=>?_⟩⟩
 have hi:=(List.getElem?_eq_some_iff.1 hx).1
 rw [Nat.zero_add,Nat.mul_one]
 apply List.ext_getElem?
 intro j
 rw [List.getElem?_take,List.getElem?_drop]
 match j with
 | 0=>simp [hx]
 | j+1=>simp
theorem qts {w:World} {C:Array Value} {n c:Nat} {K:Sl->World->Prop} (hk:∀ b w',b=w.heap.size->Fr [] w w'->w'.heap[b]?=some (.cells C 5 (C.size,C.size+1))->K ⟨some ⟨b,0,none⟩,n,c⟩ w') :
  Pt.new (.cells C 5 (0,0)) w fun r w1=>Pt.run [Ty1.one Cell.slice] ((convert 22 22 (.slice (some ⟨r,0,none⟩) n c)).run Tryz.prog w1) K:=by
 refine Pt.qip ?_
 refine qcO ⟨some ⟨w.heap.size,0,none⟩,n,c⟩ _ (Lib.run_convert_bytes_const (P:=Tryz.prog) w 22 5 C n c (by kernel_rfl) (by kernel_rfl)) ?_
 exact hk _ _ rfl ((Fr.refl [] w).alloc _) (by rw [qbC,if_pos rfl])
theorem quw:pgs 8=[2]:=by decide
theorem quk:nums 8=[3,4,5,6,7]:=by decide
theorem qef {w:World} {K:Bool->World->Prop} (hv:Hv w) (hk:∀ w',Fr [] w w'->K true w') :
  call Tryz.prog 12 [] [.one .bool] w K:=by
 refine qfA ?_
 unfold qcQ
 refine qs3 (n:=8) hv (by decide) (by decide) fun dbk pb FD F D w1 hb hm f1 n1=>?_
 have hM:madeM 8=begunM (fmtSup 8) [2] [3,4,5,6,7] 1 false [3,4,5,6,7]:=by rw [madeM,quw,quk]
 have hfree:(madeM 8).free=[3,4,5,6,7]:=by rw [hM]; rfl
 have hlists:(madeM 8).lists=[2]:=by rw [hM]; rfl
 refine qae (fun b w'=>b=false/\Fr [] w1 w') ?_ ?_
 ·refine cond_false rfl (cond_false rfl ?_)
  refine qmw hb.pager (by rw [hlists]; decide) fun s2 B2 w2 b2 f2 n2=>?_
  rw [hlists] at b2
  refine Own.new' (Own.start [] w2) fun r3 w3 e3 f3 ho3=>?_
  refine qgC (S:=[]) (S':=[]) (t:=⟨some ⟨r3,0,none⟩,1,1⟩) ((b2.frame0 f3).rds qaC (by simp)) (qkn (l:=[2]) (ho3.at (i:=0) rfl) (by simp)) (by decide) fun w4 s4=>?_
  refine cond_false rfl ?_
  have f14:=(f2.trans f3).trans (.of_same s4)
  refine qot (hb.pager.frame0 f14) (by rw [hfree]; decide) fun s5 w5 t5 f5=>?_
  rw [hfree] at t5
  obtain ⟨B5,b5,n5⟩:=qgU t5
  refine Own.new' (Own.start [] w5) fun r6 w6 e6 f6 ho6=>?_
  refine qgC (S:=[]) (S':=[]) (t:=⟨some ⟨r6,0,none⟩,5,5⟩) ((b5.frame0 f6).rds qaC (by simp)) (qkn (l:=[3,4,5,6,7]) (ho6.at (i:=0) rfl) (by simp)) (by decide) fun w7 s7=>?_
  exact ⟨rfl,((f14.trans f5).trans f6).trans (.of_same s7)⟩
 rintro b w2 ⟨rfl,f2⟩
 refine cond_false rfl ?_
 have hW:=qlW (n:=8) (by decide) (by decide)
 refine qts fun r3 w3 e3 f3 ho3=>?_
 have hb3:=hb.frame0 (f2.trans f3)
 have hrd:RdB (FD++F) w3 ⟨some ⟨r3,0,none⟩,1,1⟩ [120]:=by
  have:=qdr (S:=FD++F) (o:=0) (n:=1) (cap:=1) (L:=[120]) ho3 (by decide) (by decide) (fun hm=>by
   rcases List.mem_append.1 hm with h | h
   ·have:=hb.disk.lt r3 h; have:=f2.size; omega
   ·have:=hb.pager.lt r3 h; have:=f2.size; omega)
  exact this
 have hIsB:IsB [120]:=fun x hx=>by simp at hx; subst hx; decide
 have hmk:makeV (madeM 8) 3 [120]=((3,0),{ madeM 8 with free:=[4,5,6,7],fresh:=setL 3 (3,[120]) (madeM 8).fresh }):=by
  rw [makeV,if_neg (by rw [hM]; decide),if_neg (by decide),hfree]
 refine qol hb3.pager hrd (by decide) (by rw [hfree]; decide) fun F4 w4 hp4 f4 n4=>?_
 have hW2:=(qpL (kind:=3) (body:=[120]) hW (by decide) hIsB).1
 rw [hmk] at hp4 hW2 ⊢
 have hM2:({ madeM 8 with free:=[4,5,6,7],fresh:=setL 3 (3,[120]) (madeM 8).fresh }:PgM)=⟨fmtSup 8,[2],[3,4,5,6,7],1,false,[4,5,6,7],[],[(3,3,[120])],(fmtSup 8).2.drop 3⟩:=by rw [hM]; rfl
 rw [hM2] at hp4 hW2
 generalize hMM:(⟨fmtSup 8,[2],[3,4,5,6,7],1,false,[4,5,6,7],[],[(3,3,[120])],(fmtSup 8).2.drop 3⟩:PgM)=M2 at hp4 hW2
 have hsepF:∀ b∈F,b∉FD:=fun b hb1 hb2=>hb.pager.sep b hb2 hb1
 have hd4:DiskAt w4 dbk FD D:=hb3.disk.frame f4 fun b hbf hbF=>hsepF b hbF hbf
 have hB4:Both w4 dbk pb FD F4 D M2 5000:=⟨hd4,hb.lim,by rw [dbOf,if_neg (by rw [<- hMM]; decide)]; exact hp4⟩
 have hFw:∀ b∈FD++F,b∉([]:List Nat)/\w.heap.size<=b:=fun b hb=>⟨by simp,n1 b hb⟩
 have hg:HG∉FD:=fun hm=>by have:=n1 _ (List.mem_append_left _ hm); have:=hv.lt; omega
 have hgF:HG∉F:=fun hm=>by have:=n1 _ (List.mem_append_right _ hm); have:=hv.lt; omega
 have f03:=(f1.trans f2).trans f3
 have hv4:Hv w4:=(hv.frame0 f03).frame f4 hgF
 have hplan:planM M2=some ([4],[2,5,6,7]):=by rw [<- hMM]; decide
 have hsup:M2.sup=fmtSup 8:=by rw [<- hMM]
 have hns:=qns hW2 hplan (by rw [<- hMM]; rfl) (by rw [hsup]; exact ⟨by decide,by decide⟩)
 have hfl:=hm.quiet.flushed hW2 (by rw [hsup]; exact hm.opens.blocks) hm.opens.size.1 hplan hns.1
 have hcm:commitM D M2=(((flushM D M2.fresh [4] [2,5,6,7] (nextS M2 [4] [2,5,6,7])).1,begunM (nextS M2 [4] [2,5,6,7]) [4] [2,5,6,7] (M2.turn+1) false [2,5,6,7]),0):=by
  rw [commitM,if_neg (by rw [<- hMM]; decide),if_neg (by rw [<- hMM]; simp),hplan]
  exact if_neg (by rw [hfl.1]; simp)
 refine qpV hB4 hW2 (by decide) (by rw [<- hMM]; decide) hv4 hg fun FD5 F5 w5 hB5 t5=>?_
 rw [hcm] at hB5 ⊢
 refine cond_true rfl (cond_true rfl (cond_true rfl ?_))
 refine qlh hB5.pager ?_
 have hseq:(nextS M2 [4] [2,5,6,7]).1=2:=by rw [hns.2,hsup]; rfl
 refine cond_true (by show ((nextS M2 [4] [2,5,6,7]).1==2)=true; rw [hseq]; rfl) ?_
 have f05:Fr [] w w5:=(f03.trans' f4 fun b hb=>.inr (n1 b (List.mem_append_right _ hb))).trans' t5.1 fun b hb=>by
  rcases List.mem_append.1 hb with h | h
  ·exact .inr (n1 b (List.mem_append_left _ h))
  ·rcases n4 b h with h | h
   ·exact .inr (n1 b (List.mem_append_right _ h))
   ·exact .inr (Nat.le_trans f03.size h)
 refine qmw hB5.pager (by show [(4:Int)].length<=_; decide) fun s6 B6 w6 b6 f6 n6=>?_
 refine Own.new' (Own.start [] w6) fun r7 w7 e7 f7 ho7=>?_
 refine qgC (S:=[]) (S':=[]) (l:=[4]) (t:=⟨some ⟨r7,0,none⟩,1,1⟩) ((b6.frame0 f7).rds qaC (by simp)) (qkn (l:=[4]) (ho7.at (i:=0) rfl) (by simp)) (by decide) fun w8 s8=>?_
 refine cond_true rfl ?_
 have f58:=(f6.trans f7).trans (.of_same s8)
 refine qot (hB5.pager.frame0 f58) (by show [(2:Int),5,6,7].length<=_; decide) fun s9 w9 t9 f9=>?_
 obtain ⟨B9,b9,n9⟩:=qgU t9
 refine Own.new' (Own.start [] w9) fun r10 w10 e10 f10 ho10=>?_
 refine qgC (S:=[]) (S':=[]) (l:=[2,5,6,7]) (t:=⟨some ⟨r10,0,none⟩,4,4⟩) ((b9.frame0 f10).rds qaC (by simp)) (qkn (l:=[2,5,6,7]) (ho10.at (i:=0) rfl) (by simp)) (by decide) fun w11 s11=>?_
 exact hk w11 (((((f05.trans f58).trans f9).trans f10).trans (.of_same s11)))
section
structure Sim (M M':PgM):Prop where
 sup:M'.sup=M.sup
 lists:M'.lists=M.lists
 named:M'.named=M.named
 over:M'.over=M.over
 free:M'.free=M.free
 deferred:M'.deferred=M.deferred
 roots:M'.roots=M.roots
 perm:M'.fresh.Perm M.fresh
 sorted:(M'.fresh.map (·.1)).Pairwise (· < ·)
abbrev Fsh:=List (Int×Int×List Int)
theorem qcv {L L':Fsh} (hp:L'.Perm L) (hn:(L.map (·.1)).Nodup) (n:Int):(look n L').map (·.2)=(look n L).map (·.2):=by
 have hn':(L'.map (·.1)).Nodup:=(hp.map (·.1)).nodup_iff.2 hn
 cases h:look n L with
 | some q=>
  obtain ⟨i,hi⟩:=qbI (e:=(n,q.2)) hn' (hp.mem_iff.2 (qax h).2)
  rw [hi]; rfl
 | none=>
  cases h':look n L' with
  | none=>rfl
  | some q=>
   have:=qbd.1 h
   exact absurd (List.mem_map_of_mem (f:=(·.1)) (hp.mem_iff.1 (qax h').2)) this
theorem qoV {L L':Fsh} (hp:L'.Perm L) (hn:(L.map (·.1)).Nodup) (n:Int):(look n L').isNone=(look n L).isNone:=by
 have:=qcv hp hn n
 cases h:look n L <;> cases h':look n L' <;> rw [h,h'] at this <;> simp_all
theorem qoB {L:Fsh} {n:Int} {q:Nat×Int×List Int} (h:look n L=some q):L.Perm ((n,q.2)::delL n L):=by
 have h1:=(qax h).1
 rw [delL,h]
 dsimp only
 have hi:=(List.getElem?_eq_some_iff.1 h1).1
 have he:=(List.getElem?_eq_some_iff.1 h1).2
 rw [List.eraseIdx_eq_take_drop_succ]
 have hs:L=L.take q.1++(n,q.2)::L.drop (q.1+1):=by rw [<- he,<- List.drop_eq_getElem_cons hi,List.take_append_drop]
 have hp:(L.take q.1++(n,q.2)::L.drop (q.1+1)).Perm ((n,q.2)::(L.take q.1++L.drop (q.1+1))):=List.perm_middle
 rw [<- hs] at hp
 exact hp
theorem qnd {L:Fsh} {n:Int} {v:Int×List Int} {q:Nat×Int×List Int} (h:look n L=some q):(setL n v L).Perm ((n,v)::delL n L):=by
 have h1:=(qax h).1
 rw [delL,setL,h]
 dsimp only
 have hi:=(List.getElem?_eq_some_iff.1 h1).1
 rw [List.eraseIdx_eq_take_drop_succ,List.set_eq_take_append_cons_drop,if_pos hi]
 exact List.perm_middle
theorem qmo {L L':Fsh} (hp:L'.Perm L) (hn:(L.map (·.1)).Nodup) {n:Int}:(delL n L').Perm (delL n L):=by
 have hl:=qcv hp hn n
 cases h:look n L with
 | none=>
  cases h':look n L' with
  | none=>rw [delL,delL,h,h']; exact hp
  | some q=>rw [h,h'] at hl; cases hl
 | some q=>
  cases h':look n L' with
  | none=>rw [h,h'] at hl; cases hl
  | some q'=>
   rw [h,h'] at hl
   have hq:q'.2=q.2:=Option.some.inj hl
   have a:=qoB h
   have b:=qoB h'
   rw [hq] at b
   exact List.Perm.cons_inv (b.symm.trans (hp.trans a))
theorem qrp {L L':Fsh} (hp:L'.Perm L) (hn:(L.map (·.1)).Nodup) {n:Int} {v:Int×List Int}:(setL n v L').Perm (setL n v L):=by
 have hl:=qcv hp hn n
 cases h:look n L with
 | none=>
  cases h':look n L' with
  | none=>rw [setL,setL,h,h']; exact hp.append_right _
  | some q=>rw [h,h'] at hl; cases hl
 | some q=>
  cases h':look n L' with
  | none=>rw [h,h'] at hl; cases hl
  | some q'=>exact (qnd h').trans (((qmo hp hn).cons _).trans (qnd h).symm)
theorem qhW {n:Int} {v:Int×List Int}:∀ L:Fsh,(insF n v L).Perm ((n,v)::L)
 | []=>.refl _
 | a::L=>by
  rw [insF]
  split
  ·exact .refl _
  ·exact ((qhW L).cons a).trans (.swap _ _ _)
theorem qi9 {n:Int} {v:Int×List Int}:∀ {L:Fsh},(L.map (·.1)).Pairwise (· < ·)->n∉L.map (·.1)->((insF n v L).map (·.1)).Pairwise (· < ·)
 | [],_,_=>by simp [insF]
 | a::L,h,hn=>by
  rw [List.map_cons,List.pairwise_cons] at h
  rw [List.map_cons,List.mem_cons,not_or] at hn
  rw [insF]
  split
  ·rename_i hgt
   rw [List.map_cons,List.map_cons,List.pairwise_cons,List.pairwise_cons]
   refine ⟨fun x hx=>?_,h⟩
   rcases List.mem_cons.1 hx with rfl | hx
   ·exact hgt
   ·have:=h.1 x hx; show n<x; omega
  ·rename_i hgt
   rw [List.map_cons,List.pairwise_cons]
   refine ⟨fun x hx=>?_,qi9 h.2 hn.2⟩
   have:=((qhW (n:=n) (v:=v) L).map (·.1)).mem_iff.1 hx
   rw [List.map_cons,List.mem_cons] at this
   rcases this with e | hx
   ·have h1:=hn.1; have e:x=n:=e; show a.1<x; omega
   ·exact h.1 x hx
section
variable {M M':PgM}
theorem Sim.used (h:Sim M M') (hW:M.Wf) (n:Int):usedV M' n=usedV M n:=by
 rw [usedV,usedV,h.sup,h.lists,h.free,h.deferred,qoV h.perm hW.keysNodup]
theorem Sim.make (h:Sim M M') (hW:M.Wf) (kd:Int) (l:List Int):(makeR M' kd l).1=(makeV M kd l).1/\Sim (makeV M kd l).2 (makeR M' kd l).2:=by
 unfold makeR makeV
 rw [h.over,h.free]
 split
 ·exact ⟨rfl,h⟩
 split
 ·exact ⟨rfl,h⟩
 cases hf:M.free with
 | nil=>exact ⟨rfl,h⟩
 | cons n r=>
  have hn:n∉M.fresh.map (·.1):=fun hm=>by
   have:=(List.nodup_append.1 hW.nodup).2.2 n (by rw [hf]; simp) n (List.mem_append_right _ (List.mem_append_right _ hm))
   exact this rfl
  have hn':n∉M'.fresh.map (·.1):=fun hm=>hn ((h.perm.map (·.1)).mem_iff.1 hm)
  refine ⟨rfl,⟨h.sup,h.lists,h.named,rfl,rfl,h.deferred,h.roots,?_,qi9 h.sorted hn'⟩⟩
  show (insF n (kd,l) M'.fresh).Perm (setL n (kd,l) M.fresh)
  rw [qjF hn]
  exact (qhW _).trans ((h.perm.cons _).trans (List.perm_append_comm (l₁:=[(n,kd,l)])))
theorem Sim.put (h:Sim M M') (hW:M.Wf) (n kd:Int) (l:List Int):(putV M' n kd l).1=(putV M n kd l).1/\Sim (putV M n kd l).2 (putV M' n kd l).2:=by
 have hl:=qcv h.perm hW.keysNodup n
 unfold putV
 rw [h.over]
 split
 ·exact ⟨rfl,h⟩
 cases h1:look n M.fresh with
 | none=>
  cases h2:look n M'.fresh with
  | none=>exact ⟨rfl,h⟩
  | some q=>rw [h1,h2] at hl; cases hl
 | some q=>
  cases h2:look n M'.fresh with
  | none=>rw [h1,h2] at hl; cases hl
  | some q'=>
   dsimp only
   split
   ·exact ⟨rfl,h⟩
   ·refine ⟨rfl,⟨h.sup,h.lists,h.named,rfl,h.free,h.deferred,h.roots,qrp h.perm hW.keysNodup,?_⟩⟩
    show ((setL n (kd,l) M'.fresh).map (·.1)).Pairwise (· < ·)
    rw [qia (List.mem_map_of_mem (f:=(·.1)) (qax h2).2)]
    exact h.sorted
theorem Sim.drop (h:Sim M M') (hW:M.Wf) (n:Int):(dropV M' n).1=(dropV M n).1/\Sim (dropV M n).2 (dropV M' n).2:=by
 have hl:=qcv h.perm hW.keysNodup n
 have hu:=h.used hW n
 unfold dropV
 rw [h.over]
 split
 ·exact ⟨rfl,h⟩
 cases h1:look n M.fresh with
 | none=>
  cases h2:look n M'.fresh with
  | none=>
   dsimp only
   rw [hu]
   split
   ·exact ⟨rfl,⟨h.sup,h.lists,h.named,rfl,h.free,by show ins n M'.deferred=ins n M.deferred; rw [h.deferred],h.roots,h.perm,h.sorted⟩⟩
   ·exact ⟨rfl,h⟩
  | some q=>rw [h1,h2] at hl; cases hl
 | some q=>
  cases h2:look n M'.fresh with
  | none=>rw [h1,h2] at hl; cases hl
  | some q'=>
   refine ⟨rfl,⟨h.sup,h.lists,h.named,rfl,by show ins n M'.free=ins n M.free; rw [h.free],h.deferred,h.roots,qmo h.perm hW.keysNodup,?_⟩⟩
   show ((delL n M'.fresh).map (·.1)).Pairwise (· < ·)
   rw [delL,h2]
   dsimp only
   exact h.sorted.sublist ((List.eraseIdx_sublist _ _).map _)
theorem Sim.setRoot (h:Sim M M') (t a b c:Int):(setRootM M' t a b c).1=(setRootM M t a b c).1/\Sim (setRootM M t a b c).2 (setRootM M' t a b c).2:=by
 unfold setRootM
 rw [h.over,h.roots]
 split
 ·exact ⟨rfl,h⟩
 split
 ·exact ⟨rfl,h⟩
 ·exact ⟨rfl,⟨h.sup,h.lists,h.named,rfl,h.free,h.deferred,rfl,h.perm,h.sorted⟩⟩
theorem Sim.read (h:Sim M M') (hW:M.Wf) (D:DiskM) (n:Int):pagerReadM D M' n=pagerReadM D M n:=by
 have hl:=qcv h.perm hW.keysNodup n
 unfold pagerReadM
 rw [h.over,h.used hW]
 split
 ·rfl
 cases h1:look n M.fresh with
 | none=>
  cases h2:look n M'.fresh with
  | none=>rfl
  | some q=>rw [h1,h2] at hl; cases hl
 | some q=>
  cases h2:look n M'.fresh with
  | none=>rw [h1,h2] at hl; cases hl
  | some q'=>
   rw [h1,h2] at hl
   have hq:q'.2=q.2:=Option.some.inj hl
   dsimp only
   rw [hq]
theorem PgM.Wf.small (hW:M.Wf):M.Small:=by
 have:=PgM.Wf.all M hW
 exact ⟨by omega,by omega,by omega,by omega,hW.freeS,hW.defS,fun e he=>Nat.le_trans (hW.body e he).2.1 (by decide),fun e he=>(hW.body e he).2.2⟩
theorem Sim.page (h:Sim M M') (hW:M.Wf) (D:DiskM) (a:OpM) (hn:U32 a.n) (hk:0<=a.kind/\a.kind<256) (hlg:0<=a.long/\a.long<65536) (hB:IsB a.body) :
  (pageM D D M M' a).1=true/\Sim (pageM D D M M' a).2.1 (pageM D D M M' a).2.2/\(pageM D D M M' a).2.1.Wf:=by
 unfold pageM
 split
 ·have:=h.make hW a.kind a.all
  exact ⟨decide_eq_true this.1.symm,this.2,(qpL hW hk (OpM.all_IsB hB)).1⟩
 split
 ·have:=h.put hW a.n a.kind a.all
  exact ⟨decide_eq_true this.1.symm,this.2,(qtF hW hk (OpM.all_IsB hB)).1⟩
 split
 ·have:=h.drop hW a.n
  exact ⟨decide_eq_true this.1.symm,this.2,qs1 hW⟩
 split
 ·exact ⟨decide_eq_true (h.read hW D a.n).symm,h,hW⟩
 ·have:=h.setRoot (IntKind.wrap .i32 a.n) a.n a.kind a.long
  refine ⟨decide_eq_true this.1.symm,this.2,?_⟩
  unfold setRootM
  split
  ·exact hW
  split
  ·exact hW
  ·refine { hW with roots:=fun x hx=>?_ }
   have hx:x∈M.roots.take (3*(IntKind.wrap .i32 a.n).toNat)++[a.n,a.kind,a.long]++M.roots.drop (3*(IntKind.wrap .i32 a.n).toNat+3):=hx
   rcases List.mem_append.1 hx with hx | hx
   ·rcases List.mem_append.1 hx with hx | hx
    ·exact hW.roots x (List.mem_of_mem_take hx)
    ·simp only [List.mem_cons,List.not_mem_nil,or_false] at hx
     rcases hx with rfl | rfl | rfl
     ·exact hn
     ·constructor <;> omega
     ·constructor <;> omega
   ·exact hW.roots x (List.mem_of_mem_drop hx)
end
end
def wvZ:List Value:=rvW rvZ
theorem qev:wvZ.length=27:=rfl
theorem qpE:wvZ.all Value.oneCell'=true:=rfl
theorem qsS:((Tryz.prog.info? BTT).bind (·.zero)).map (fun z=>z.cells.toList)=some (bothV none none rvZ none wvZ 0):=by kernel_rfl
abbrev btOffs:Array (Nat×Nat):=#[(0,1),(1,1),(2,64),(66,1),(67,27),(94,1)]
theorem qrw:Tryz.prog.underlying BTT=some (.struct (fieldsOf Tryz.prog BTT)):=by kernel_rfl
theorem qtA:∀ w,((fieldsOf Tryz.prog BTT).mapM fun f=>do pure (f.offset,<- sizeOf f.type):Sem (Array (Nat×Nat))).run Tryz.prog w=.ok btOffs w:=fun w=>by kernel_rfl
theorem qeq {D:DiskM} {f:List (Int×Int×List Int)} {p n:List Int} {s:Sup}:(flushM D f p n s).1.safe.length=D.safe.length:=
 qdz qdt fun D' h=>qdz (by rw [qfx,h]) fun D' h=>by rw [qrQ,h]
structure Good (D:DiskM) (M M':PgM) (j:Nat):Prop where
 sim:Sim M M'
 wf:M.Wf
 turn:0<=M.turn/\M.turn<=j
 turn':0<=M'.turn/\M'.turn<=j
theorem qo2 {v v':Int->List Int} {s t:Sup} (h:newestV (v 0) (v 1)=(s,0)) (ht:t.1=s.1+1) (h0:0<=s.1) (hr:readSV (t.1%2) (v' (t.1%2))=(t,0)) (ho:v' (s.1%2)=v (s.1%2)):newestV (v' 0) (v' 1)=(t,0):=by
 rcases qbW h with ⟨h1,hp,_⟩ | ⟨h1,hp,_⟩
 ·have hp:s.1%2=0:=by rw [<- Int.tmod_eq_emod_of_nonneg h0]; exact hp
  have e:t.1%2=1:=by omega
  rw [e] at hr
  rw [hp] at ho
  rw [newestV,ho,h1,hr,if_neg (by simp),if_pos (.inr ⟨rfl,by dsimp only; omega⟩)]
 ·have hp:s.1%2=1:=by rw [<- Int.tmod_eq_emod_of_nonneg h0]; exact hp
  have e:t.1%2=0:=by omega
  rw [e] at hr
  rw [hp] at ho
  rw [newestV,ho,h1,hr,if_neg (by simp),if_neg (by dsimp only; omega)]
theorem qgt {v v':Int->List Int} {s:Sup} (h:newestV (v 0) (v 1)=(s,0)) (h0:0<=s.1) (ho:v' (s.1%2)=v (s.1%2)) (hr:(readSV ((s.1+1)%2) (v' ((s.1+1)%2))).2=0->(readSV ((s.1+1)%2) (v' ((s.1+1)%2))).1.1<s.1):newestV (v' 0) (v' 1)=(s,0):=by
 rcases qbW h with ⟨h1,hp,_⟩ | ⟨h1,hp,_⟩
 ·have hp:s.1%2=0:=by rw [<- Int.tmod_eq_emod_of_nonneg h0]; exact hp
  have e:(s.1+1)%2=1:=by omega
  rw [e] at hr
  rw [hp] at ho
  rw [newestV,ho,h1,if_neg (by simp),if_neg (by
   rintro (h' | ⟨h',h''⟩)
   ·exact h' rfl
   ·have:=hr h'
    have h3:(readSV 1 (v' 1)).1.1>s.1:=h''
    omega)]
 ·have hp:s.1%2=1:=by rw [<- Int.tmod_eq_emod_of_nonneg h0]; exact hp
  have e:(s.1+1)%2=0:=by omega
  rw [e] at hr
  rw [hp] at ho
  rw [newestV,ho,h1,if_neg (by simp),if_pos (by
   by_cases h':(readSV 0 (v' 0)).2=0
   ·exact .inr ⟨rfl,by have:=hr h'; dsimp only; omega⟩
   ·exact .inl h')]
theorem qh9 {p:Int} {l:List Int} (h:(readSV p l).2=0):Int.tmod (readSV p l).1.1 2=p:=by
 unfold readSV at h ⊢
 split
 ·rename_i h1; rw [if_pos h1] at h; exact absurd h h1
 rename_i h1; rw [if_neg h1] at h
 split
 ·rename_i h2; rw [if_pos h2] at h; cases h
 rename_i h2; rw [if_neg h2] at h
 split
 ·rename_i h3; rw [if_pos h3] at h; cases h
 ·rename_i h3; exact Classical.not_not.1 h3
theorem qnH (M:PgM) (pages named:List Int):(nextS M pages named).2.getD 0 0=M.sup.2.getD 0 0/\(nextS M pages named).2.getD 1 0=pages.headD 0/\(nextS M pages named).2.getD 2 0=IntKind.wrap .u32 named.length:=⟨rfl,rfl,rfl⟩
theorem qjr (M:PgM) (pages named:List Int):(nextS M pages named).2.drop 3=M.roots:=rfl
theorem qrb {n:Int} {pages named:List Int} (h:ListOk n named pages) (h4:n<=4096):IntKind.wrap .u32 (named.length:Int)=named.length:=by
 have:=qcR (qbm h.rises) h.nums
 refine qaE _ ?_
 rcases this with h' | h'
 ·omega
 ·rw [h']; exact ⟨by decide,by decide⟩
theorem Opens.same {D D':DiskM} {M:PgM} {pages named:List Int} (h:Opens D M.sup M.lists M.named) (hW:M.Wf) (hplan:planM M=some (pages,named)) (hd:D'.down=false) (hsz:D'.size=D.size)
  (hn:newestV (view D' 0) (view D' 1)=(M.sup,0)) (hv:∀ m,2<=m->m∉M.fresh.map (·.1)->m∉pages->view D' m=view D m):Opens D' M.sup M.lists M.named where
 down:=hd
 size:=by rw [hsz]; exact h.size
 newest:=hn
 blocks:=by rw [hsz]; exact h.blocks
 list:=h.list
 free:=h.free
 ok:=by rw [hsz]; exact h.ok
 listed:=fun i p hp=>by
  have hm:=List.mem_of_getElem? hp
  have h2:=h.ok.pgs p hm
  have hnd:=hW.nodup
  rw [List.nodup_append] at hnd
  have hnd2:=hnd.2.1
  rw [List.nodup_append] at hnd2
  have hnd3:=hnd2.2.1
  rw [List.nodup_append] at hnd3
  obtain ⟨k,hk,hkl,rfl,rfl⟩:=qcL hplan
  rw [hv p h2.1 (fun hm2=>hnd3.2.2 p hm p hm2 rfl) (fun hm2=>hnd.2.2 p (List.mem_of_mem_take hm2) p (List.mem_append_right _ (List.mem_append_left _ hm)) rfl)]
  exact h.listed i p hp
theorem Opens.next {D D':DiskM} {M:PgM} {pages named:List Int} (h:Opens D M.sup M.lists M.named) (hW:M.Wf) (hplan:planM M=some (pages,named)) (hs:SupOk (nextS M pages named)) (hq:(nextS M pages named).1=M.sup.1+1) (h0:0<=M.sup.1) (hd:D'.down=false) (hsz:D'.size=D.size)
  (hl:Listed D' named pages) (hp:view D' ((nextS M pages named).1%2)=sealV ((nextS M pages named).1%2) 1 (superB (nextS M pages named).1 (nextS M pages named).2)) (ho:view D' (M.sup.1%2)=view D (M.sup.1%2)):Opens D' (nextS M pages named) pages named:=by
 have hk:=qaV hW hplan
 have hb:=qnH M pages named
 have hnw:newestV (view D' 0) (view D' 1)=(nextS M pages named,0):=qo2 (v:=view D) (v':=view D') h.newest hq h0 (by rw [hp]; exact hs.read) ho
 exact {
  down:=hd
  size:=by rw [hsz]; exact h.size
  newest:=hnw
  blocks:=by rw [hb.1,hsz]; exact h.blocks
  list:=hb.2.1
  free:=by rw [hb.2.2]; exact qrb hk hW.n4
  ok:=by rw [hsz,<- h.blocks]; exact hk
  listed:=hl }
def PgM.Named (M:PgM):Prop:=(M.free++M.fresh.map (·.1)).Perm M.named
theorem qdv (s:Sup) (pages numbers:List Int) (t:Int) (ov:Bool):(begunM s pages numbers t ov numbers).Named:=by
 show (numbers++[]).Perm numbers
 rw [List.append_nil]
theorem qp5 {M:PgM} {kd:Int} {l:List Int} (hW:M.Wf) (h:M.Named):(makeV M kd l).2.Named:=by
 unfold makeV
 split
 ·exact h
 split
 ·exact h
 split
 ·exact h
 ·rename_i n r hf
  have hnk:n∉M.fresh.map (·.1):=fun hm=>by
   have hn:=hW.nodup
   rw [hf,List.cons_append,List.nodup_cons] at hn
   exact hn.1 (List.mem_append_right _ (List.mem_append_right _ (List.mem_append_right _ hm)))
  show (r++(setL n (kd,l) M.fresh).map (·.1)).Perm M.named
  rw [qjF hnk,List.map_append,<- List.append_assoc]
  refine (List.perm_append_singleton n _).trans ?_
  have:=h
  rw [PgM.Named,hf] at this
  exact this
theorem qrg {M:PgM} {n kd:Int} {l:List Int} (h:M.Named):(putV M n kd l).2.Named:=by
 unfold putV
 split
 ·exact h
 split
 ·exact h
 rename_i q hq
 split
 ·exact h
 ·have hm:n∈M.fresh.map (·.1):=List.mem_map.2 ⟨_,(qax hq).2,rfl⟩
  show (M.free++(setL n (kd,l) M.fresh).map (·.1)).Perm M.named
  rw [qia hm]
  exact h
theorem qqR {M:PgM} {n:Int} (hW:M.Wf) (h:M.Named):(dropV M n).2.Named:=by
 unfold dropV
 split
 ·exact h
 split
 ·rename_i q hq
  have hm:n∈M.fresh.map (·.1):=List.mem_map.2 ⟨_,(qax hq).2,rfl⟩
  have hn:=hW.nodup
  have hnf:n∉M.free:=fun h=>by
   rw [List.nodup_append] at hn
   exact hn.2.2 n h n (List.mem_append_right _ (List.mem_append_right _ hm)) rfl
  show (ins n M.free++(delL n M.fresh).map (·.1)).Perm M.named
  refine (((qdo hnf).append_right _).trans ?_).trans h
  exact List.perm_middle.symm.trans ((qme hm).symm.append_left M.free)
 ·split
  ·exact h
  ·exact h
theorem qqj {M:PgM} {t a b c:Int} (h:M.Named):(setRootM M t a b c).2.Named:=by
 unfold setRootM
 split
 ·exact h
 ·split <;> exact h
theorem PgM.Named.mem {M:PgM} (h:M.Named) (x:Int):x∈M.named↔x∈M.free\/x∈M.fresh.map (·.1):=by
 rw [<- h.mem_iff,List.mem_append]
section
structure Grew (P:Int×Blk->Prop) (D D':DiskM):Prop where
 safe:D'.safe=D.safe
 waits:∃ W,D'.waits=D.waits++W/\∀ x∈W,P x
section
variable {P Q:Int×Blk->Prop} {D D1 D2:DiskM}
theorem Grew.refl (P:Int×Blk->Prop) (D:DiskM):Grew P D D:=⟨rfl,[],by simp,fun x hx=>nomatch hx⟩
theorem Grew.trans (h:Grew P D D1) (g:Grew P D1 D2):Grew P D D2:=by
 obtain ⟨h1,W,h2,h3⟩:=h
 obtain ⟨g1,V,g2,g3⟩:=g
 exact ⟨g1.trans h1,W++V,by rw [g2,h2,List.append_assoc],fun x hx=>(List.mem_append.1 hx).elim (h3 x) (g3 x)⟩
theorem Grew.mono (h:Grew P D D1) (hP:∀ x,P x->Q x):Grew Q D D1:=⟨h.safe,h.waits.imp fun W hW=>⟨hW.1,fun x hx=>hP x (hW.2 x hx)⟩⟩
theorem qgM {n:Int} {l:List Int}:Grew (fun x=>x.1=n/\x.2.1=l) D (writeM D n l).1:=by
 unfold writeM
 split
 ·exact .refl _ _
 split
 ·exact .refl _ _
 split
 ·rename_i h
  have hs:=qby (addW D n ⟨l,h⟩)
  refine ⟨hs.1,[(n,⟨l,h⟩)],hs.2,fun x hx=>?_⟩
  rw [List.mem_singleton.1 hx]
  exact ⟨rfl,rfl⟩
 ·exact .refl _ _
theorem qmd (h:(syncM D).2≠0):Grew P D (syncM D).1:=by
 have hs:=qby D
 unfold syncM at h ⊢
 split
 ·exact .refl _ _
 rename_i h1; rw [if_neg h1] at h
 split
 ·exact ⟨hs.1,[],by rw [hs.2]; simp,fun x hx=>nomatch hx⟩
 ·rename_i h2; rw [if_neg h2] at h; exact absurd rfl h
theorem qrU {f:DiskM->DiskM×Int} {r:DiskM×Int} (h1:Grew P D r.1) (h2:r.2=0->Grew P r.1 (f r.1).1):Grew P D (andThen r f).1:=by
 unfold andThen
 by_cases h:r.2=0
 ·rw [if_pos h]; exact h1.trans (h2 h)
 ·rw [if_neg h]; exact h1
theorem qfD:∀ {l:List (Int×List Int)} {D:DiskM},(∀ x∈l,∀ b:Blk,P (x.1,b))->Grew P D (writesM l D).1
 | [],D,_=>.refl _ _
 | y::l,D,h=>qrU (f:=writesM l) (qgM.mono fun x hx=>by obtain ⟨a,b⟩:=x; obtain ⟨rfl,_⟩:=hx; exact h y (by simp) b) fun _=>qfD fun x hx=>h x (List.mem_cons_of_mem _ hx)
theorem qiA {r:DiskM×Int} {f:DiskM->DiskM×Int} (h:(andThen r f).2≠0):r.2≠0/\andThen r f=r\/r.2=0/\(f r.1).2≠0/\andThen r f=f r.1:=by
 unfold andThen at h ⊢
 by_cases h0:r.2=0
 ·rw [if_pos h0] at h ⊢; exact .inr ⟨h0,h,rfl⟩
 ·rw [if_neg h0] at h ⊢; exact .inl ⟨h0,rfl⟩
theorem qoH {numbers pages:List Int} (hP:∀ x∈pages,∀ b:Blk,P (x,b)) (h:(spreadM D numbers pages).2≠0):Grew P D (spreadM D numbers pages).1:=by
 unfold spreadM at h ⊢
 split
 ·exact .refl _ _
 rename_i h1
 rw [if_neg h1] at h
 have hw:Grew P D (writesM ((pages.zip (bodiesV numbers pages).1).map fun x=>(x.1,sealV x.1 2 x.2)) D).1:=qfD fun x hx b=>by
  obtain ⟨y,hy,rfl⟩:=List.mem_map.1 hx
  exact hP y.1 (List.of_mem_zip hy).1 b
 rcases qiA h with ⟨_,e⟩ | ⟨_,h2,e⟩
 ·rw [e]; exact hw
 ·rw [e]; exact hw.trans (qmd h2)
end
theorem qkZ {D:DiskM} {fresh:List (Int×Int×List Int)} {pages named:List Int} {next:Sup} (h:(flushM D fresh pages named next).2≠0) :
  Grew (fun x=>x.1∈fresh.map (·.1)\/x.1∈pages) D (flushM D fresh pages named next).1\/
  ((writesM (freshW fresh) D).2=0/\(spreadM (writesM (freshW fresh) D).1 named pages).2=0/\
   Grew (fun x=>x.1=(superP next).1/\x.2.1=(superP next).2) (spreadM (writesM (freshW fresh) D).1 named pages).1 (flushM D fresh pages named next).1):=by
 have hw:Grew (fun x=>x.1∈fresh.map (·.1)\/x.1∈pages) D (writesM (freshW fresh) D).1:=qfD fun x hx b=>.inl (by
  have:x.1∈(freshW fresh).map (·.1):=List.mem_map_of_mem hx
  rw [qa2] at this
  exact qaN.1 this)
 rcases qiA (show (andThen (writesM (freshW fresh) D) fun D=>andThen (spreadM D named pages) fun D=>sealM D next).2≠0 from h) with ⟨_,e⟩ | ⟨h1,h2,e⟩
 ·left
  rw [show flushM D fresh pages named next=writesM (freshW fresh) D from e]
  exact hw
 rcases qiA h2 with ⟨h3,e2⟩ | ⟨h3,h4,e2⟩
 ·left
  rw [show flushM D fresh pages named next=spreadM (writesM (freshW fresh) D).1 named pages from e.trans e2]
  exact hw.trans (qoH (fun x hx b=>.inr hx) h3)
 ·right
  refine ⟨h1,h3,?_⟩
  rw [show flushM D fresh pages named next=sealM (spreadM (writesM (freshW fresh) D).1 named pages).1 next from e.trans e2]
  rcases qiA (show (andThen (writeM _ (superP next).1 (superP next).2) syncM).2≠0 from h4) with ⟨_,e3⟩ | ⟨_,h5,e3⟩
  ·rw [show sealM (spreadM (writesM (freshW fresh) D).1 named pages).1 next=_ from e3]
   exact qgM
  ·rw [show sealM (spreadM (writesM (freshW fresh) D).1 named pages).1 next=_ from e3]
   exact qgM.trans (qmd h5)
theorem qkS (m:Nat):∀ (l:List ((Int×Blk)×(Int×Int))) (s:List Blk),(∀ x∈l,x.1.1.toNat≠m)->(l.foldl crashStep s).getD m .zero=s.getD m .zero
 | [],s,_=>rfl
 | x::l,s,h=>by
  rw [List.foldl_cons,qkS m l _ fun y hy=>h y (List.mem_cons_of_mem _ hy),crashStep,List.getD_eq_getElem?_getD,List.getElem?_set_ne (h x (by simp)),List.getD_eq_getElem?_getD]
theorem qkW {D:DiskM} {ls:List (Int×Int)} {m:Int} (h:∀ x∈D.waits,x.1.toNat≠m.toNat):view (crashM D ls) m=(D.safe.getD m.toNat .zero).1:=by
 show (((D.waits.zip ls).foldl crashStep D.safe).getD m.toNat .zero).1=_
 rw [qkS m.toNat _ _ fun x hx=>h x.1 (List.of_mem_zip hx).1]
theorem qgw {D:DiskM} {m:Int} (h:D.waits=[]):view D m=(D.safe.getD m.toNat .zero).1:=by rw [view,h]; rfl
theorem qqE {D:DiskM} {ls:List (Int×Int)}:(crashM D ls).safe.length=D.safe.length:=qb3 _ _
structure Fallen (D D':DiskM) (M:PgM) (pages named:List Int):Prop where
 down:D'.down=false
 waits:D'.waits=[]
 size:D'.size=D.size
 rest:∀ m,2<=m->m∉M.fresh.map (·.1)->m∉pages->view D' m=view D m
 stay:view D' (M.sup.1%2)=view D (M.sup.1%2)
 super:(view D' ((M.sup.1+1)%2)=view D ((M.sup.1+1)%2))\/(Listed D' named pages/\∀ e∈M.fresh,view D' e.1=sealV e.1 e.2.1 e.2.2)
theorem qoM {old new:Blk}:overlayB old new 0 512=new:=by
 unfold overlayB
 rw [dif_pos ⟨by omega,by omega⟩]
 apply Subtype.ext
 have h1:=old.2
 have h2:=new.2
 show old.1.take 0++(new.1.drop 0).take (512-0)++old.1.drop 512=new.1
 rw [List.take_zero,List.nil_append,List.drop_zero,List.take_of_length_le (by omega),List.drop_of_length_le (by omega),List.append_nil]
theorem qoU {D:DiskM} {M:PgM} {pages named:List Int} {ls:List (Int×Int)} (hd:D.down=false) (hw0:D.waits=[]) (hW:M.Wf) (hplan:planM M=some (pages,named)) (hs:SupOk (nextS M pages named)) (hq:(nextS M pages named).1=M.sup.1+1) (h0:0<=M.sup.1)
  (h:(flushM D M.fresh pages named (nextS M pages named)).2≠0):Fallen D (crashM (flushM D M.fresh pages named (nextS M pages named)).1 ls) M pages named:=by
 have hlk:=qaV hW hplan
 have hsize:(crashM (flushM D M.fresh pages named (nextS M pages named)).1 ls).size=D.size:=by
  show ((crashM _ ls).safe.length:Int)=D.safe.length
  rw [qqE,qeq]
 have hPl:=hs.superP
 rw [hq] at hPl
 rcases qkZ h with hg | ⟨h1,h2,hg⟩
 ·obtain ⟨gs,W,gw,gW⟩:=hg
  rw [hw0,List.nil_append] at gw
  have hv:∀ m:Int,0<=m->m∉M.fresh.map (·.1)->m∉pages->view (crashM (flushM D M.fresh pages named (nextS M pages named)).1 ls) m=view D m:=fun m hm a b=>by
   rw [qkW fun x hx=>?_,gs,qgw hw0]
   rw [gw] at hx
   have hx2:2<=x.1:=by
    rcases gW x hx with h' | h'
    ·exact (hW.keys _ h').1
    ·exact (hlk.pgs _ h').1
   intro e
   have:x.1=m:=by omega
   rcases gW x hx with h' | h'
   ·exact a (this▸h')
   ·exact b (this▸h')
  have hn2:∀ m:Int,m<2->m∉M.fresh.map (·.1)/\m∉pages:=fun m hm=>⟨fun h'=>by have:=(hW.keys _ h').1; omega,fun h'=>by have:=(hlk.pgs _ h').1; omega⟩
  exact ⟨rfl,rfl,hsize,fun m hm a b=>hv m (by omega) a b,hv _ (by omega) (hn2 _ (by omega)).1 (hn2 _ (by omega)).2,.inl (hv _ (by omega) (hn2 _ (by omega)).1 (hn2 _ (by omega)).2)⟩
 ·have hkn:((freshW M.fresh).map (·.1)).Nodup:=by rw [qa2]; exact qbm (qaZ _)
  obtain ⟨d1,a1,v1,u1⟩:=qbS (qiD hw0) hd h1 hkn
  obtain ⟨d2,w2,l2,v2⟩:=qeI a1 d1 hlk h2
  obtain ⟨gs,W,gw,gW⟩:=hg
  rw [w2,List.nil_append] at gw
  have hv:∀ m:Int,0<=m->m≠(M.sup.1+1)%2->view (crashM (flushM D M.fresh pages named (nextS M pages named)).1 ls) m=view (spreadM (writesM (freshW M.fresh) D).1 named pages).1 m:=fun m hm hne=>by
   rw [qkW fun x hx=>?_,gs,qgw w2]
   rw [gw] at hx
   have:=(gW x hx).1
   rw [hPl] at this
   dsimp only at this
   omega
  refine ⟨rfl,rfl,hsize,fun m hm a b=>?_,?_,.inr ⟨fun i p hp=>?_,fun e he=>?_⟩⟩
  ·rw [hv m (by omega) (by omega),v2 m (by omega) b]
   refine u1 m fun hm2=>a ?_
   rw [qa2] at hm2
   exact qaN.1 hm2
  ·rw [hv _ (by omega) (by omega),v2 _ (by omega) fun h'=>by have:=(hlk.pgs _ h').1; omega]
   refine u1 _ fun hm2=>?_
   rw [qa2] at hm2
   have:=(hW.keys _ (qaN.1 hm2)).1
   omega
  ·have:=hlk.pgs p (List.mem_of_getElem? hp)
   rw [hv p (by omega) (by omega)]
   exact l2 i p hp
  ·have hk:=hW.keys e.1 (List.mem_map_of_mem he)
   have hf:=qgN hW hplan e.1 (List.mem_map_of_mem he)
   rw [hv _ (by omega) (by omega),v2 _ (by omega) hf.1]
   exact v1 _ (qkY hW.keysNodup he)
theorem qkw (m:Nat):∀ (l:List (Int×Blk)) (s:List Blk) (k:Nat),l.length<=k->m<s.length->((l.zip (List.replicate k ((0:Int),(512:Int)))).foldl crashStep s).getD m .zero=(l.foldl laySafe s).getD m .zero
 | [],s,k,_,_=>rfl
 | x::l,s,0,h,_=>by simp at h
 | x::l,s,k+1,h,hm=>by
  rw [List.replicate_succ,List.zip_cons_cons,List.foldl_cons,List.foldl_cons]
  have e:crashStep s (x,((0:Int),(512:Int)))=laySafe s x:=by
   show s.set x.1.toNat (overlayB (s.getD x.1.toNat .zero) x.2 0 512)=s.set x.1.toNat x.2
   rw [qoM]
  rw [e]
  exact qkw m l _ k (by simpa using h) (by rw [laySafe,List.length_set]; exact hm)
theorem qkQ {D:DiskM} (ha:Ats D) {k:Nat} (hk:D.waits.length<=k) {m:Int} (hm:0<=m/\m<D.size):view (crashM D (List.replicate k (0,512))) m=view D m:=by
 obtain ⟨i,rfl⟩:∃ i:Nat,m=i:=⟨m.toNat,by omega⟩
 have h2:(i:Int)<D.safe.length:=hm.2
 show (((D.waits.zip (List.replicate k ((0:Int),(512:Int)))).foldl crashStep D.safe).getD (i:Int).toNat .zero).1=_
 rw [Int.toNat_natCast,qkw i _ _ k hk (by omega),qgu i _ _ ha,view,Int.toNat_natCast]
 cases lastW (i:Int) D.waits <;> rfl
theorem qoL {D:DiskM} {M:PgM} {pages named:List Int} (hd:D.down=false) (hw0:D.waits=[]) (hW:M.Wf) (hplan:planM M=some (pages,named)) (hs:SupOk (nextS M pages named)) (h0:0<=M.sup.1) (hsz:8<=D.size)
  (h:(flushM D M.fresh pages named (nextS M pages named)).2≠0) {p:Int} (hp:p=0\/p=1):view (flushM D M.fresh pages named (nextS M pages named)).1 p=view D p\/view (flushM D M.fresh pages named (nextS M pages named)).1 p=(superP (nextS M pages named)).2:=by
 have hlk:=qaV hW hplan
 have lw_none:∀ {l:List (Int×Blk)},(∀ x∈l,x.1≠p)->lastW p l=none:=fun {l}=>by
  induction l with
  | nil=>intro _; rfl
  | cons x l ih=>
   intro hx
   rw [lastW,ih fun y hy=>hx y (List.mem_cons_of_mem _ hy)]
   exact if_neg (hx x (by simp))
 have lw_all:∀ {l:List (Int×Blk)} {q:List Int},(∀ x∈l,x.2.1=q)->∀ b,lastW p l=some b->b.1=q:=fun {l q}=>by
  induction l with
  | nil=>intro _ b hb; cases hb
  | cons x l ih=>
   intro hx b hb
   rw [lastW] at hb
   split at hb
   ·rename_i c hc
    cases hb
    exact ih (fun y hy=>hx y (List.mem_cons_of_mem _ hy)) _ hc
   ·split at hb
    ·cases hb
     exact hx x (by simp)
    ·cases hb
 rcases qkZ h with hg | ⟨h1,h2,hg⟩
 ·obtain ⟨gs,W,gw,gW⟩:=hg
  rw [hw0,List.nil_append] at gw
  left
  rw [view,gw,gs,lw_none fun x hx e=>?_,qgw hw0]
  rcases gW x hx with h' | h'
  ·have:=(hW.keys _ h').1; omega
  ·have:=(hlk.pgs _ h').1; omega
 ·have hkn:((freshW M.fresh).map (·.1)).Nodup:=by rw [qa2]; exact qbm (qaZ _)
  obtain ⟨d1,a1,v1,u1⟩:=qbS (qiD hw0) hd h1 hkn
  obtain ⟨d2,w2,l2,v2⟩:=qeI a1 d1 hlk h2
  obtain ⟨gs,W,gw,gW⟩:=hg
  rw [w2,List.nil_append] at gw
  cases hl:lastW p W with
  | some b=>
   right
   rw [view,gw,hl]
   exact lw_all (fun x hx=>(gW x hx).2) b hl
  | none=>
   left
   have e:view (flushM D M.fresh pages named (nextS M pages named)).1 p=view (spreadM (writesM (freshW M.fresh) D).1 named pages).1 p:=by rw [view,gw,hl,gs,qgw w2]
   rw [e,v2 _ (by omega) fun h'=>by have:=(hlk.pgs _ h').1; omega]
   refine u1 _ fun hm2=>?_
   rw [qa2] at hm2
   have:=(hW.keys _ (qaN.1 hm2)).1
   omega
theorem qnn {D D':DiskM} {M:PgM} {pages named:List Int} (hf:Fallen D D' M pages named) (hO:Opens D M.sup M.lists M.named) (hW:M.Wf) (hplan:planM M=some (pages,named)) (hs:SupOk (nextS M pages named)) (hq:(nextS M pages named).1=M.sup.1+1) (h0:0<=M.sup.1)
  (hk:(readSV ((M.sup.1+1)%2) (view D' ((M.sup.1+1)%2))).2=0->(readSV ((M.sup.1+1)%2) (view D' ((M.sup.1+1)%2))).1.1<M.sup.1\/view D' ((M.sup.1+1)%2)=(superP (nextS M pages named)).2) :
  Opens D' M.sup M.lists M.named\/(Opens D' (nextS M pages named) pages named/\∀ e∈M.fresh,view D' e.1=sealV e.1 e.2.1 e.2.2):=by
 have old:newestV (view D' 0) (view D' 1)=(M.sup,0)->Opens D' M.sup M.lists M.named:=fun hn=>hO.same hW hplan hf.down hf.size hn hf.rest
 have hpl:=hs.superP
 rw [hq] at hpl
 by_cases hr:(readSV ((M.sup.1+1)%2) (view D' ((M.sup.1+1)%2))).2=0
 ·rcases hk hr with h' | h'
  ·exact .inl (old (qgt (v:=view D) (v':=view D') hO.newest h0 hf.stay fun _=>h'))
  ·rcases hf.super with hsp | ⟨hl,hfr⟩
   ·-- the place is as it was
    rw [hsp] at h'
    left
    have hn:=hO.newest
    refine old (qgt (v:=view D) (v':=view D') hn h0 hf.stay fun _=>?_)
    rw [hsp]
    rcases qbW hn with ⟨h1,hp,h3⟩ | ⟨h1,hp,h3⟩
    ·have hp:M.sup.1%2=0:=by rw [<- Int.tmod_eq_emod_of_nonneg h0]; exact hp
     have e:(M.sup.1+1)%2=1:=by omega
     rw [e] at hr hsp ⊢
     rw [hsp] at hr
     have h5:=h3 hr
     have h4:=qh9 hr
     have:(readSV 1 (view D 1)).1.1≠M.sup.1:=fun e'=>by rw [e',Int.tmod_eq_emod_of_nonneg h0] at h4; omega
     omega
    ·have hp:M.sup.1%2=1:=by rw [<- Int.tmod_eq_emod_of_nonneg h0]; exact hp
     have e:(M.sup.1+1)%2=0:=by omega
     rw [e] at hr hsp ⊢
     rw [hsp] at hr
     exact h3 hr
   ·right
    rw [hpl] at h'
    exact ⟨hO.next hW hplan hs hq h0 hf.down hf.size hl (by rw [hq]; exact h') hf.stay,hfr⟩
 ·exact .inl (old (qgt (v:=view D) (v':=view D') hO.newest h0 hf.stay fun h'=>absurd h' hr))
end
section
theorem qti {M:PgM} (hN:M.Named) (x:Int):x∈M.all↔x∈M.named\/x∈M.deferred\/x∈M.lists:=by
 rw [hN.mem x]
 simp only [PgM.all,List.mem_append]
 constructor
 ·rintro (h | h | h | h)
  ·exact .inl (.inl h)
  ·exact .inr (.inl h)
  ·exact .inr (.inr h)
  ·exact .inl (.inr h)
 ·rintro ((h | h) | h | h)
  ·exact .inl h
  ·exact .inr (.inr (.inr h))
  ·exact .inr (.inl h)
  ·exact .inr (.inr (.inl h))
theorem qrZ {M:PgM} {pages named:List Int} (hplan:planM M=some (pages,named)) (x:Int):x∈pages\/x∈named↔x∈M.free\/x∈M.deferred\/x∈M.lists:=by
 obtain ⟨k,hk,hkl,rfl,rfl⟩:=qcL hplan
 rw [qaN]
 have e:x∈M.free↔x∈M.free.take k\/x∈M.free.drop k:=by
  conv=>lhs; rw [<- List.take_append_drop k M.free]
  exact List.mem_append
 simp only [List.mem_append,e]
 constructor
 ·rintro (h | (h | h) | h)
  ·exact .inl (.inl h)
  ·exact .inr (.inl h)
  ·exact .inr (.inr h)
  ·exact .inl (.inr h)
 ·rintro ((h | h) | h | h)
  ·exact .inl h
  ·exact .inr (.inr h)
  ·exact .inr (.inl (.inl h))
  ·exact .inr (.inl (.inr h))
section
variable {D D':DiskM} {M:PgM} {pages named:List Int} {t:Int} {ov:Bool}
theorem qpg (hW:M.Wf) (hf:∀ e∈M.fresh,view D' e.1=sealV e.1 e.2.1 e.2.2) {e:Int×Int×List Int} (he:e∈M.fresh):openV e.1 (view D' e.1)=(e.2.1,e.2.2,0):=by
 have hk:=hW.keys e.1 (List.mem_map_of_mem he)
 have h4:=hW.n4
 rw [hf e he]
 exact qfE ⟨by omega,by omega⟩ (hW.body e he).2.1
def toldX (D:DiskM) (M:PgM) (x:Int):List Int:=if (pagerReadM D M x).2.2=0 then [1,(pagerReadM D M x).1]++(pagerReadM D M x).2.1 else []
theorem qbZ {x:Int} (ho:M.over=false) (hd:D.down=false) (hx:2<=x/\x<D.size) (hb:M.sup.2.getD 0 0=D.size) (h:x∉M.all):pagerReadM D M x=openV x (view D x):=by
 have hl:look x M.fresh=none:=qbd.2 fun hm=>h (List.mem_append_right _ (List.mem_append_right _ (List.mem_append_right _ hm)))
 have hu:usedV M x=true:=qjG.2 ⟨⟨hx.1,by rw [hb]; exact hx.2⟩,h⟩
 have hr:=qbB hd (n:=x) ⟨by omega,hx.2⟩
 unfold pagerReadM
 rw [if_neg (by rw [ho]; decide),hl]
 dsimp only
 rw [if_neg (by rw [hu]; decide),hr,if_neg (by simp)]
theorem qdb {x:Int} (ho:M.over=false) (h:x∈M.all) (hf:x∉M.fresh.map (·.1)):pagerReadM D M x=(0,[],10):=by
 have hu:usedV M x=false:=by
  cases hu:usedV M x with
  | false=>rfl
  | true=>exact absurd h (qjG.1 hu).2
 unfold pagerReadM
 rw [if_neg (by rw [ho]; decide),qbd.2 hf]
 dsimp only
 rw [if_pos hu]
theorem qqU {e:Int×Int×List Int} (ho:M.over=false) (hW:M.Wf) (he:e∈M.fresh):pagerReadM D M e.1=(e.2.1,e.2.2,0):=by
 obtain ⟨i,hi⟩:=qbI hW.keysNodup he
 unfold pagerReadM
 rw [if_neg (by rw [ho]; decide),hi]
theorem qma {x:Int} (hW:M.Wf) (hN:M.Named) (ho:M.over=false) (hd:D.down=false) (hd':D'.down=false) (hsz:D'.size=D.size) (hb:M.sup.2.getD 0 0=D.size) (hplan:planM M=some (pages,named)) (hx:2<=x/\x<D.size)
  (hr:∀ m,2<=m->m∉M.fresh.map (·.1)->m∉pages->view D' m=view D m) (hf:∀ e∈M.fresh,view D' e.1=sealV e.1 e.2.1 e.2.2):toldX D' (begunM (nextS M pages named) pages named t false named) x=toldX D M x:=by
 have hall:∀ y,y∈(begunM (nextS M pages named) pages named t false named).all↔y∈pages\/y∈named:=fun y=>by
  show y∈named++([]++(pages++[]))↔_
  simp only [List.nil_append,List.append_nil,List.mem_append]
  exact Or.comm
 have hb':(begunM (nextS M pages named) pages named t false named).sup.2.getD 0 0=D'.size:=by rw [hsz,<- hb]; rfl
 have hx':2<=x/\x<D'.size:=by rw [hsz]; exact hx
 have hpm:=qrZ hplan x
 unfold toldX
 by_cases hxf:x∈M.fresh.map (·.1)
 ·obtain ⟨e,he,rfl⟩:=List.mem_map.1 hxf
  have hpf:=qgN hW hplan e.1 hxf
  rw [qqU ho hW he,qbZ rfl hd' hx' hb' (fun h=>((hall _).1 h).elim hpf.1 hpf.2),qpg hW hf he]
 by_cases hxa:x∈M.all
 ·have h1:x∈(begunM (nextS M pages named) pages named t false named).all:=(hall x).2 (hpm.2 (by
   simp only [PgM.all,List.mem_append] at hxa
   rcases hxa with h | h | h | h
   ·exact .inl h
   ·exact .inr (.inl h)
   ·exact .inr (.inr h)
   ·exact absurd h hxf))
  rw [qdb ho hxa hxf,qdb (M:=begunM (nextS M pages named) pages named t false named) rfl h1 (fun h=>nomatch h)]
 ·have h1:x∉(begunM (nextS M pages named) pages named t false named).all:=fun h=>hxa (by
   have:=hpm.1 ((hall x).1 h)
   simp only [PgM.all,List.mem_append]
   rcases this with h | h | h
   ·exact .inl h
   ·exact .inr (.inl h)
   ·exact .inr (.inr (.inl h)))
  have h2:x∉pages:=fun h=>h1 ((hall x).2 (.inl h))
  rw [qbZ ho hd hx hb hxa,qbZ rfl hd' hx' hb' h1,hr x hx.1 hxf h2]
theorem qrO {x t':Int} (hO:Opens D M.sup M.lists M.named) (hO':Opens D' M.sup M.lists M.named) (hN:M.Named) (hplan:planM M=some (pages,named)) (hx:2<=x/\x<D.size) (hr:∀ m,2<=m->m∉M.fresh.map (·.1)->m∉pages->view D' m=view D m) :
  toldX D' (begunM M.sup M.lists M.named t false M.named) x=toldX D (begunM M.sup M.lists M.named t' false M.named) x:=by
 have hsz:D'.size=D.size:=by rw [<- hO.blocks,<- hO'.blocks]
 have hall:∀ s y,y∈(begunM M.sup M.lists M.named s false M.named).all↔y∈M.named\/y∈M.lists:=fun s y=>by
  show y∈M.named++([]++(M.lists++[]))↔_
  simp only [List.nil_append,List.append_nil,List.mem_append]
 unfold toldX
 by_cases hxa:x∈M.named\/x∈M.lists
 ·rw [qdb (M:=begunM M.sup M.lists M.named t false M.named) rfl ((hall t x).2 hxa) (fun h=>nomatch h),qdb (M:=begunM M.sup M.lists M.named t' false M.named) rfl ((hall t' x).2 hxa) (fun h=>nomatch h)]
 ·have hx':2<=x/\x<D'.size:=by rw [hsz]; exact hx
  rw [qbZ (M:=begunM M.sup M.lists M.named t false M.named) rfl hO'.down hx' hO'.blocks (fun h=>hxa ((hall t x).1 h)),qbZ (M:=begunM M.sup M.lists M.named t' false M.named) rfl hO.down hx hO.blocks (fun h=>hxa ((hall t' x).1 h))]
  rw [hr x hx.1 (fun hm=>hxa (.inl ((hN.mem x).2 (.inr hm)))) fun hm=>?_]
  obtain ⟨k,hk,hkl,rfl,rfl⟩:=qcL hplan
  exact hxa (.inl ((hN.mem x).2 (.inl (List.mem_of_mem_take hm))))
theorem ql1 {x t':Int} (hW:M.Wf) (hN:M.Named) (ho:M.over=false) (hO:Opens D M.sup M.lists M.named) (hf:M.fresh=[]) (hdf:M.deferred=[]) (hx:2<=x/\x<D.size):toldX D M x=toldX D (begunM M.sup M.lists M.named t' false M.named) x:=by
 have hall:∀ y,y∈(begunM M.sup M.lists M.named t' false M.named).all↔y∈M.named\/y∈M.lists:=fun y=>by
  show y∈M.named++([]++(M.lists++[]))↔_
  simp only [List.nil_append,List.append_nil,List.mem_append]
 have hall2:∀ y,y∈M.all↔y∈M.named\/y∈M.lists:=fun y=>by
  rw [qti hN,hdf]
  simp
 unfold toldX
 by_cases hxa:x∈M.named\/x∈M.lists
 ·rw [qdb ho ((hall2 x).2 hxa) (by rw [hf]; exact fun h=>nomatch h),qdb (M:=begunM M.sup M.lists M.named t' false M.named) rfl ((hall x).2 hxa) (fun h=>nomatch h)]
 ·rw [qbZ ho hO.down hx hO.blocks (fun h=>hxa ((hall2 x).1 h)),qbZ (M:=begunM M.sup M.lists M.named t' false M.named) rfl hO.down hx hO.blocks (fun h=>hxa ((hall x).1 h))]
end
end
structure Disks (w:World) (bb dbk pb:Nat) (FD:List Nat) (x:RV) (D:DiskM) (k:Nat):Prop where
 cell:w.heap[bb]?=some (.cells (bothV (some ⟨dbk,0,none⟩) (some ⟨pb,0,none⟩) x none wvZ 0).toArray BTT (0,0))
 disk:DiskAt w dbk FD D
 lim:Lim D k
 ref:RD (bb::FD) w x.d D
 ok:x.Ok
 nd:bb∉FD
theorem qn3 {D:DiskM} {bl:Int}:∀ {f:Nat} {a:Int} {l n:List Int} {x:List Int×List Int},walkM D bl f a l n=some x->l.Nodup->(∀ y∈l,2<=y/\y<bl)->(∀ y∈n,2<=y)->x.1.Nodup/\(∀ y∈x.1,2<=y/\y<bl)/\∀ y∈x.2,2<=y
 | 0,a,l,n,x,h,_,_,_=>by cases h
 | f+1,a,l,n,x,h,h1,h2,h3=>by
  rw [walkM] at h
  split at h
  ·cases h; exact ⟨h1,h2,h3⟩
  split at h
  ·cases h
  rename_i ha
  split at h
  ·cases h
  split at h
  ·cases h
  split at h
  ·cases h
  rename_i hp
  refine qn3 h ?_ (fun y hy=>?_) fun y hy=>?_
  ·rw [List.nodup_append]
   exact ⟨h1,by simp,fun y hy z hz e=>ha (.inr (.inr (by rw [List.mem_singleton.1 hz] at e; exact e▸hy)))⟩
  ·rcases List.mem_append.1 hy with hy | hy
   ·exact h2 y hy
   ·rw [List.mem_singleton.1 hy]; constructor <;> omega
  ·rcases List.mem_append.1 hy with hy | hy
   ·exact h3 y hy
   ·exact qqc (Classical.not_not.1 hp) y hy
theorem qsn {D:DiskM} {s:Sup} {x:List Int×List Int} (h:loadM D s=some x):x.1.Nodup/\(∀ y∈x.1,2<=y/\y<s.2.getD 0 0)/\(∀ y∈x.2,2<=y/\y<s.2.getD 0 0/\y∉x.1)/\x.2.Pairwise (· < ·):=by
 unfold loadM at h
 split at h
 ·cases h
 ·rename_i y hy
  split at h
  ·rename_i hc
   cases h
   have h1:=qn3 hy .nil (fun y hy=>nomatch hy) (fun y hy=>nomatch hy)
   have h2:=(qej _ _ _ _).1 hc.1
   exact ⟨h1.1,h1.2.1,fun z hz=>⟨h1.2.2 z hz,(h2.1 z hz).2⟩,h2.2⟩
  ·cases h
theorem qjg {D:DiskM} {M:PgM} {e:Int} (h:openM D=(some M,e)):e=0/\∃ s x,loadM D s=some x/\M=begunM s x.1 x.2 1 false x.2/\s.2.getD 0 0=D.safe.length/\(∀ y∈s.2,U32 y)/\s.2.length=27:=by
 unfold openM at h
 split at h
 ·cases congrArg Prod.fst h
 split at h
 ·cases congrArg Prod.fst h
 split at h
 ·cases congrArg Prod.fst h
 split at h
 ·cases congrArg Prod.fst h
 rename_i hb
 split at h
 ·cases congrArg Prod.fst h
 ·rename_i x hx
  have e1:=Option.some.inj (congrArg Prod.fst h)
  refine ⟨(congrArg Prod.snd h).symm,_,x,hx,e1.symm,Classical.not_not.1 hb,fun y hy=>?_,qfI _ _⟩
  unfold newestV at hy
  split at hy
  ·have:=List.eq_of_mem_replicate (show y∈List.replicate 27 (0:Int) from hy)
   subst this
   exact ⟨by decide,by decide⟩
  split at hy
  ·exact qen _ _ y hy
  ·exact qen _ _ y hy
theorem qsE {D:DiskM} {M:PgM} {e:Int} (hD:D.Ok) (h:openM D=(some M,e)):M.Wf/\M.over=false/\M.turn=1/\M.Named:=by
 obtain ⟨_,s,x,hx,rfl,hb,hu,_⟩:=qjg h
 have hl:=qsn hx
 have hs:=hD.safe
 refine ⟨?_,rfl,rfl,qdv _ _ _ _ _⟩
 exact {
  n4:=by show s.2.getD 0 0<=4096; rw [hb]; omega
  u32:=hu
  roots:=fun y hy=>hu y (List.mem_of_mem_drop hy)
  namedS:=hl.2.2.2
  named:=fun y hy=>⟨(hl.2.2.1 y hy).1,(hl.2.2.1 y hy).2.1⟩
  freeS:=hl.2.2.2
  defS:=.nil
  nodup:=by
   show (x.2++([]++(x.1++[]))).Nodup
   rw [List.nil_append,List.append_nil,List.nodup_append]
   exact ⟨qbm hl.2.2.2,hl.1,fun y hy z hz e=>(hl.2.2.1 y hy).2.2 (e▸hz)⟩
  range:=fun y hy=>by
   have hy:y∈x.2++([]++(x.1++[])):=hy
   rw [List.nil_append,List.append_nil,List.mem_append] at hy
   rcases hy with hy | hy
   ·exact ⟨(hl.2.2.1 y hy).1,(hl.2.2.1 y hy).2.1⟩
   ·exact hl.2.1 y hy
  body:=fun e he=>nomatch he }
theorem qo1 {D:DiskM} {M:PgM} {e:Int} (h:openM D=(some M,e)):M.roots.length=24:=by
 obtain ⟨_,s,x,hx,rfl,hb,hu,h27⟩:=qjg h
 show (s.2.drop 3).length=24
 rw [List.length_drop,h27]
structure StM where
 D:DiskM
 M:PgM
 k:Option PgM
def pageA (D:DiskM) (M:PgM) (a:OpM):PgM:=(pageM D D M M a).2.1
theorem qmm (D D':DiskM) (M M':PgM) (a:OpM):(pageM D D' M M' a).2.1=pageA D M a:=by
 unfold pageA pageM
 split
 ·rfl
 split
 ·rfl
 split
 ·rfl
 split <;> rfl
theorem qqh {D:DiskM} {M:PgM} {a:OpM} (hW:M.Wf) (h:M.Named):(pageA D M a).Named:=by
 unfold pageA pageM
 split
 ·exact qp5 hW h
 split
 ·exact qrg h
 split
 ·exact qqR hW h
 split
 ·exact h
 ·exact qqj h
theorem qs7 {D:DiskM} {M:PgM} {a:OpM} (hW:M.Wf) (hn:U32 a.n) (hk:0<=a.kind/\a.kind<256) (hlg:0<=a.long/\a.long<65536) (hB:IsB a.body):(pageA D M a).Wf:=by
 have h:Sim M { M with fresh:=M.fresh.mergeSort (fun x y=>decide (x.1<=y.1)) }:=by
  refine ⟨rfl,rfl,rfl,rfl,rfl,rfl,rfl,List.mergeSort_perm _ _,?_⟩
  have h1:=List.pairwise_mergeSort (le:=fun (x y:Int×Int×List Int)=>decide (x.1<=y.1)) (fun x y z=>by simpa using fun h1 h2=>Int.le_trans h1 h2) (fun x y=>by simpa using Int.le_total x.1 y.1) M.fresh
  have h2:((M.fresh.mergeSort (fun x y=>decide (x.1<=y.1))).map (·.1)).Nodup:=((List.mergeSort_perm M.fresh (fun x y=>decide (x.1<=y.1))).map (fun x=>x.1)).nodup_iff.2 hW.keysNodup
  have h1':((M.fresh.mergeSort (fun x y=>decide (x.1<=y.1))).map (·.1)).Pairwise (·<=·):=List.pairwise_map.2 (h1.imp fun h=>by simpa using h)
  exact (h1'.and h2).imp fun ⟨h3,h4⟩=>by omega
 have:=(h.page hW D a hn hk hlg hB).2.2
 rw [qmm] at this
 exact this
theorem qmi (D:DiskM) (M:PgM) (a:OpM):(pageA D M a).sup=M.sup/\(pageA D M a).lists=M.lists/\(pageA D M a).named=M.named/\(pageA D M a).over=M.over/\(pageA D M a).turn=M.turn:=by
 unfold pageA pageM
 split
 ·unfold makeV; split; exact ⟨rfl,rfl,rfl,rfl,rfl⟩; split; exact ⟨rfl,rfl,rfl,rfl,rfl⟩; split <;> exact ⟨rfl,rfl,rfl,rfl,rfl⟩
 split
 ·unfold putV
  split
  ·exact ⟨rfl,rfl,rfl,rfl,rfl⟩
  ·split
   ·exact ⟨rfl,rfl,rfl,rfl,rfl⟩
   ·split <;> exact ⟨rfl,rfl,rfl,rfl,rfl⟩
 split
 ·unfold dropV
  split
  ·exact ⟨rfl,rfl,rfl,rfl,rfl⟩
  ·split
   ·exact ⟨rfl,rfl,rfl,rfl,rfl⟩
   ·split <;> exact ⟨rfl,rfl,rfl,rfl,rfl⟩
 split
 ·exact ⟨rfl,rfl,rfl,rfl,rfl⟩
 ·unfold setRootM
  split
  ·exact ⟨rfl,rfl,rfl,rfl,rfl⟩
  ·split <;> exact ⟨rfl,rfl,rfl,rfl,rfl⟩
section
def Ok7 (e:Int):Prop:=e=0\/e=7
theorem qmt {D:DiskM} {n:Int} {l:List Int} (hn:0<=n/\n<D.safe.length) (hl:l.length=512):Ok7 (writeM D n l).2:=by
 unfold writeM
 split
 ·exact .inr rfl
 split
 ·omega
 split
 ·exact .inr rfl
 ·exact .inl rfl
theorem qn4 {D:DiskM}:Ok7 (syncM D).2:=by
 unfold syncM
 split
 ·exact .inr rfl
 split
 ·exact .inr rfl
 ·exact .inl rfl
theorem qeS {r:DiskM×Int} {f:DiskM->DiskM×Int} (h1:Ok7 r.2) (h2:Ok7 (f r.1).2):Ok7 (andThen r f).2:=by
 unfold andThen
 split
 ·exact h2
 ·exact h1
theorem qgx:∀ {l:List (Int×List Int)} {D:DiskM},(∀ x∈l,(0<=x.1/\x.1<D.safe.length)/\x.2.length=512)->Ok7 (writesM l D).2
 | [],D,_=>.inl rfl
 | y::l,D,h=>qeS (f:=writesM l) (qmt (h y (by simp)).1 (h y (by simp)).2) (qgx fun x hx=>by rw [qcT]; exact h x (List.mem_cons_of_mem _ hx))
theorem qsz {D:DiskM} {s:Sup} (hs:SupOk s) (h2:2<=D.safe.length):Ok7 (sealM D s).2:=by
 refine qeS (f:=syncM) ?_ qn4
 rw [hs.superP]
 exact qmt (by dsimp only; omega) (hs.sealLen _)
theorem qqA {D:DiskM} {numbers pages:List Int} (h:ListOk D.safe.length numbers pages):Ok7 (spreadM D numbers pages).2:=by
 unfold spreadM
 rw [h.bodies,if_neg (by simp)]
 refine qeS (f:=syncM) (qgx fun x hx=>?_) qn4
 obtain ⟨y,hy,rfl⟩:=List.mem_map.1 hx
 have hm:=List.of_mem_zip hy
 have hp:=h.pgs _ hm.1
 refine ⟨by dsimp only; omega,qbh ?_⟩
 obtain ⟨i,hi⟩:=List.mem_iff_getElem?.1 hm.2
 rw [qep] at hi
 split at hi
 ·rw [<- Option.some.inj hi]
  have:=qfl numbers i
  rw [qdx]
  omega
 ·cases hi
theorem qrk {D:DiskM} {M:PgM} {pages named:List Int} (hW:M.Wf) (hb:M.sup.2.getD 0 0=D.size) (h8:8<=D.size) (hplan:planM M=some (pages,named)) (hs:SupOk (nextS M pages named)):Ok7 (flushM D M.fresh pages named (nextS M pages named)).2:=by
 have hsz:D.size=D.safe.length:=rfl
 have hlk:=qaV hW hplan
 rw [hb,hsz] at hlk
 have hw:(writesM (freshW M.fresh) D).1.safe.length=D.safe.length:=qdt
 refine qeS (f:=fun D=>andThen (spreadM D named pages) fun D=>sealM D (nextS M pages named)) (qgx fun x hx=>?_) (qeS (f:=fun D=>sealM D (nextS M pages named)) (qqA (by rw [hw]; exact hlk)) (qsz hs ?_))
 ·obtain ⟨n,hn,rfl⟩:=List.mem_map.1 hx
  have hn:=qaN.1 hn
  have hk:=hW.keys n hn
  refine ⟨by dsimp only; omega,qbh ?_⟩
  obtain ⟨e,he,rfl⟩:=List.mem_map.1 hn
  obtain ⟨i,hi⟩:=qbI hW.keysNodup he
  rw [leafOf,hi]
  exact (hW.body e he).2.1
 ·rw [qfx,hw]; omega
def toldS (D:DiskM) (M:PgM):List Int×List (List Int):=(M.roots,(List.range 48).map fun (x:Nat)=>if 2<=x/\x<30 then toldX D M x else [])
theorem qeH {D D':DiskM} {M M':PgM} (hr:M.roots=M'.roots) (h:∀ x:Int,2<=x/\x<30->toldX D M x=toldX D' M' x):toldS D M=toldS D' M':=by
 refine Prod.ext hr ?_
 unfold toldS
 dsimp only
 refine List.map_congr_left fun x _=>?_
 by_cases hx:2<=x/\x<30
 ·rw [if_pos hx,if_pos hx]; exact h x ⟨by omega,by omega⟩
 ·rw [if_neg hx,if_neg hx]
def Seen (q:Int) (b:List Int):Prop:=∀ p:Int,p=0\/p=1->(readSV p b).2=0->(readSV p b).1.1<=q
theorem qo4 {v0 v1:List Int} {s:Sup} (h:newestV v0 v1=(s,0)):(∀ (p:Int) (_:p=0),(readSV p v0).2=0->(readSV p v0).1.1<=s.1)/\∀ (p:Int) (_:p=1),(readSV p v1).2=0->(readSV p v1).1.1<=s.1:=by
 rcases qbW h with ⟨h1,hp,h3⟩ | ⟨h1,hp,h3⟩
 ·exact ⟨fun p e _=>by rw [e,h1]; exact Int.le_refl _,fun p e hr=>by rw [e] at hr ⊢; exact h3 hr⟩
 ·exact ⟨fun p e hr=>by rw [e] at hr ⊢; exact Int.le_of_lt (h3 hr),fun p e _=>by rw [e,h1]; exact Int.le_refl _⟩
structure CInv (D:DiskM) (M:PgM) (last:List Int×List (List Int)) (S:List (List Int)) (i:Nat):Prop where
 over:M.over=false
 waits:D.waits=[]
 size:D.size=30
 opens:Opens D M.sup M.lists M.named
 wf:M.Wf
 named:M.Named
 roots:M.roots.length=24
 seq:1<=M.sup.1/\M.sup.1<=1+i
 last:last=toldS D (begunM M.sup M.lists M.named 0 false M.named)
 seen:∀ b∈S,Seen M.sup.1 b
 apart:∀ p p':Int,(p=0\/p=1)->(p'=0\/p'=1)->p'≠p->(readSV p' (view D p)).2≠0
theorem CInv.page {D:DiskM} {M:PgM} {last:List Int×List (List Int)} {S:List (List Int)} {i:Nat} {a:OpM} (h:CInv D M last S i) (hn:U32 a.n) (hk:0<=a.kind/\a.kind<256) (hlg:0<=a.long/\a.long<65536) (hB:IsB a.body) (hr:(pageA D M a).roots.length=24):CInv D (pageA D M a) last S (i+1):=by
 obtain ⟨h1,h2,h3,h4,h5⟩:=qmi D M a
 have hsq:=h.seq
 exact ⟨by rw [h4]; exact h.over,h.waits,h.size,by rw [h1,h2,h3]; exact h.opens,qs7 h.wf hn hk hlg hB,qqh h.wf h.named,hr,by rw [h1]; omega,by rw [h1,h2,h3]; exact h.last,by rw [h1]; exact h.seen,h.apart⟩
theorem CInv.skip {D:DiskM} {M:PgM} {last:List Int×List (List Int)} {S:List (List Int)} {i:Nat} (h:CInv D M last S i):CInv D M last S (i+1):=
 ⟨h.over,h.waits,h.size,h.opens,h.wf,h.named,h.roots,by have:=h.seq; omega,h.last,h.seen,h.apart⟩
theorem qg0 {p p':Int} {b:List Int} (hp:p=0\/p=1) (hp':p'=0\/p'=1) (h:(readSV p b).2=0) (h':(readSV p' b).2=0):p=p':=by
 have key:∀ q,(readSV q b).2=0->(openV q b).2.2=0:=fun q hq=>by
  unfold readSV at hq
  split at hq
  ·rename_i hc; exact absurd hq hc
  ·rename_i hc; exact Classical.not_not.1 hc
 have num:∀ q,(openV q b).2.2=0->getV ((b.take 8).drop 4)=q:=fun q hq=>by
  unfold openV at hq
  split at hq
  ·exact absurd hq (by decide)
  split at hq
  ·exact absurd hq (by decide)
  split at hq
  ·exact absurd hq (by decide)
  ·rename_i hc; exact Classical.not_not.1 hc
 rw [<- num p (key p h),<- num p' (key p' h')]
theorem qqZ {D:DiskM} {s:Sup} {pages numbers:List Int} (h:Opens D s pages numbers) {p:Int} (hp:p=0\/p=1) (hr:(readSV p (view D p)).2=0):Seen s.1 (view D p):=fun p' hp' hr'=>by
 have e:=qg0 hp hp' hr hr'
 subst e
 have:=qo4 h.newest
 rcases hp with rfl | rfl
 ·exact this.1 0 rfl hr
 ·exact this.2 1 rfl hr
theorem qr6 {D:DiskM} {s:Sup} {pages numbers:List Int} (h:Opens D s pages numbers) {p:Int} (hp:p=0\/p=1) (hs:∀ p',(p'=0\/p'=1)->p'≠p->(readSV p' (view D p)).2≠0):Seen s.1 (view D p):=fun p' hp' hr'=>by
 by_cases e:p'=p
 ·subst e; exact qqZ h hp' hr' p' hp' hr'
 ·exact absurd hr' (hs p' hp' e)
section
variable {D:DiskM} {M:PgM} {last:List Int×List (List Int)} {S:List (List Int)} {i:Nat}
theorem CInv.seenD (h:CInv D M last S i) {p:Int} (hp:p=0\/p=1):Seen M.sup.1 (view D p):=qr6 h.opens hp fun p' hp' e=>h.apart p p' hp hp' e
theorem Seen.mono {q q':Int} {b:List Int} (h:Seen q b) (hq:q<=q'):Seen q' b:=fun p hp hr=>Int.le_trans (h p hp hr) hq
theorem qoZ {s:Sup} (hs:SupOk s) {p':Int} (hp':p'=0\/p'=1) (h:p'≠s.1%2):(readSV p' (sealV (s.1%2) 1 (superB s.1 s.2))).2≠0:=fun hr=>by
 have h1:(readSV (s.1%2) (sealV (s.1%2) 1 (superB s.1 s.2))).2=0:=by rw [hs.read]
 exact h (qg0 hp' (by omega) hr h1)
theorem CInv.next (h:CInv D M last S i) (hi:i<=1000) {pages named:List Int} (hp:planM M=some (pages,named)):SupOk (nextS M pages named)/\(nextS M pages named).1=M.sup.1+1:=
 qns h.wf hp h.roots (by have:=h.seq; omega)
theorem CInv.cases (h:CInv D M last S i) (hi:i<=1000) :
  (commitM D M=((D,M),0)/\M.fresh=[]/\M.deferred=[]/\M.roots=M.sup.2.drop 3)\/commitM D M=((D,M),6)\/
  ∃ pages named,planM M=some (pages,named)/\
   (((flushM D M.fresh pages named (nextS M pages named)).2=0/\commitM D M=(((flushM D M.fresh pages named (nextS M pages named)).1,begunM (nextS M pages named) pages named (M.turn+1) false named),0))\/
   ((flushM D M.fresh pages named (nextS M pages named)).2≠0/\commitM D M=(((flushM D M.fresh pages named (nextS M pages named)).1,overM),7))):=by
 have hov:=h.over
 by_cases hn:M.fresh=[]/\M.deferred=[]/\M.roots=M.sup.2.drop 3
 ·left
  refine ⟨?_,hn⟩
  unfold commitM
  rw [if_neg (by rw [hov]; decide),if_pos hn]
 right
 cases hp:planM M with
 | none=>
  left
  unfold commitM
  rw [if_neg (by rw [hov]; decide),if_neg hn,hp]
 | some y=>
  obtain ⟨pages,named⟩:=y
  right
  refine ⟨pages,named,rfl,?_⟩
  have h7:=qrk h.wf h.opens.blocks (by rw [h.size]; decide) hp (h.next hi hp).1
  have e:commitM D M=if (flushM D M.fresh pages named (nextS M pages named)).2≠0 then (((flushM D M.fresh pages named (nextS M pages named)).1,overM),(flushM D M.fresh pages named (nextS M pages named)).2)
    else (((flushM D M.fresh pages named (nextS M pages named)).1,begunM (nextS M pages named) pages named (M.turn+1) false named),0):=by
   unfold commitM
   rw [if_neg (by rw [hov]; decide),if_neg hn,hp]
  rcases h7 with h0 | h7
  ·exact .inl ⟨h0,by rw [e,if_neg (by rw [h0]; simp)]⟩
  ·exact .inr ⟨by rw [h7]; decide,by rw [e,if_pos (by rw [h7]; decide),h7]⟩
theorem CInv.more (h:CInv D M last S i):CInv D M last (S++[view D 0,view D 1]) (i+1):=
 ⟨h.over,h.waits,h.size,h.opens,h.wf,h.named,h.roots,by have:=h.seq; omega,h.last,fun b hb=>by
  rcases List.mem_append.1 hb with hb | hb
  ·exact h.seen b hb
  ·simp only [List.mem_cons,List.not_mem_nil,or_false] at hb
   rcases hb with rfl | rfl
   ·exact h.seenD (.inl rfl)
   ·exact h.seenD (.inr rfl),h.apart⟩
theorem CInv.done (h:CInv D M last S i) (hi:i<=1000) (hc:(commitM D M).2=0) (hr:(commitM D M).1.2.roots.length=24):CInv (commitM D M).1.1 (commitM D M).1.2 (toldS D M) (S++[view D 0,view D 1]) (i+1):=by
 have hsz:=h.size
 have hsq:=h.seq
 rcases h.cases hi with ⟨e,e1,e2,e3⟩ | e | ⟨pages,named,hp,⟨h0,e⟩ | ⟨h0,e⟩⟩
 ·rw [e]
  have hm:=h.more
  exact ⟨hm.over,hm.waits,hm.size,hm.opens,hm.wf,hm.named,hm.roots,hm.seq,qeH (by rw [e3]; rfl) fun x hx=>ql1 h.wf h.named h.over h.opens e1 e2 (by omega),hm.seen,hm.apart⟩
 ·rw [e] at hc; cases hc
 ·rw [e] at hr ⊢
  dsimp only at hr ⊢
  have hns:=h.next hi hp
  have hv:=qpk (qiD h.waits) h.opens.down h.wf hp hns.1 h0
  have hsz2:(flushM D M.fresh pages named (nextS M pages named)).1.size=D.size:=by show ((flushM D M.fresh pages named (nextS M pages named)).1.safe.length:Int)=D.safe.length; rw [qeq]
  have hlk:=qaV h.wf hp
  have vo:∀ p:Int,(p=0\/p=1)->p≠(nextS M pages named).1%2->view (flushM D M.fresh pages named (nextS M pages named)).1 p=view D p:=fun p hp' hne=>
   hv.rest p (by omega) (fun hm=>by have:=(h.wf.keys _ hm).1; omega) (fun hm=>by have:=(hlk.pgs _ hm).1; omega) hne
  have hO:=h.opens.next h.wf hp hns.1 hns.2 (by omega) hv.down hsz2 hv.listed hv.super (vo _ (by omega) (by rw [hns.2]; omega))
  refine ⟨rfl,hv.waits,by rw [hsz2,hsz],hO,qtc h.wf hp rfl (qmh h.wf hp),qdv _ _ _ _ _,hr,by show 1<=(nextS M pages named).1/\(nextS M pages named).1<=_; rw [hns.2]; omega,?_,fun b hb=>?_,fun p p' hp1 hp2 hne=>?_⟩
  ·have e2:toldS (flushM D M.fresh pages named (nextS M pages named)).1 (begunM (nextS M pages named) pages named 0 false named)=toldS D M:=
    qeH (qjr M pages named) fun x hx=>qma h.wf h.named h.over h.opens.down hv.down hsz2 h.opens.blocks hp (by omega) (fun m hm h1 h2=>hv.rest m (by omega) h1 h2 (by omega)) hv.fresh
   exact e2.symm
  ·exact (h.more.seen b hb).mono (by show M.sup.1<=(nextS M pages named).1; rw [hns.2]; omega)
  ·by_cases e':p=(nextS M pages named).1%2
   ·rw [e',hv.super]
    exact qoZ hns.1 hp2 (by rw [<- e']; exact hne)
   ·rw [vo p hp1 e']
    exact h.apart p p' hp1 hp2 hne
 ·rw [e] at hc; cases hc
theorem CInv.fall (h:CInv D M last S i) (hi:i<=1000) (hc:(commitM D M).2=7) {ls:List (Int×Int)} {S2:List (List Int)}
  (hS2:∀ b∈S2,b∈S++[view D 0,view D 1]\/∃ p:Int,(p=0\/p=1)/\b=view (commitM D M).1.1 p)
  (ht:∀ p:Int,p=0\/p=1->(readSV p (view (crashM (commitM D M).1.1 ls) p)).2=0->view (crashM (commitM D M).1.1 ls) p∈S2) :
  ∃ M2,openM (crashM (commitM D M).1.1 ls)=(some M2,0)/\1<=M2.sup.1/\(toldS (crashM (commitM D M).1.1 ls) M2=last\/toldS (crashM (commitM D M).1.1 ls) M2=toldS D M):=by
 have hsz:=h.size
 have hsq:=h.seq
 rcases h.cases hi with ⟨e,_⟩ | e | ⟨pages,named,hp,⟨h0,e⟩ | ⟨h0,e⟩⟩
 ·rw [e] at hc; cases hc
 ·rw [e] at hc; cases hc
 ·rw [e] at hc; cases hc
 rw [e] at hS2 ht ⊢
 dsimp only at hS2 ht ⊢
 have hns:=h.next hi hp
 have hf:=qoU (ls:=ls) h.opens.down h.waits h.wf hp hns.1 hns.2 (by omega) h0
 have hwh:=fun p (hp':p=0\/p=1)=>qoL h.opens.down h.waits h.wf hp hns.1 (by omega) (by rw [hsz]; decide) h0 hp'
 have hpl:(M.sup.1+1)%2=0\/(M.sup.1+1)%2=1:=by omega
 have hsup:=hns.1.superP
 have hk:(readSV ((M.sup.1+1)%2) (view (crashM (flushM D M.fresh pages named (nextS M pages named)).1 ls) ((M.sup.1+1)%2))).2=0->(readSV ((M.sup.1+1)%2) (view (crashM (flushM D M.fresh pages named (nextS M pages named)).1 ls) ((M.sup.1+1)%2))).1.1<M.sup.1\/view (crashM (flushM D M.fresh pages named (nextS M pages named)).1 ls) ((M.sup.1+1)%2)=(superP (nextS M pages named)).2:=fun hr=>by
  have hm:=ht _ hpl hr
  generalize view (crashM (flushM D M.fresh pages named (nextS M pages named)).1 ls) ((M.sup.1+1)%2)=b at hr hm
  have old:Seen M.sup.1 b->(readSV ((M.sup.1+1)%2) b).1.1<M.sup.1:=fun hs=>by
   have h1:=hs _ hpl hr
   have h2:=qh9 hr
   have:(readSV ((M.sup.1+1)%2) b).1.1≠M.sup.1:=fun e'=>by rw [e',Int.tmod_eq_emod_of_nonneg (by omega)] at h2; omega
   omega
  rcases hS2 b hm with h1 | ⟨p,hp',h1⟩
  ·exact .inl (old (h.more.seen b h1))
  ·rcases hwh p hp' with h2 | h2
   ·exact .inl (old (by rw [h1,h2]; exact h.seenD hp'))
   ·exact .inr (by rw [h1,h2])
 rcases qnn hf h.opens h.wf hp hns.1 hns.2 (by omega) hk with hO | ⟨hO,hfr⟩
 ·refine ⟨_,hO.open,hsq.1,.inl ?_⟩
  rw [h.last]
  exact qeH rfl fun x hx=>qrO h.opens hO h.named hp (by omega) hf.rest
 ·refine ⟨_,hO.open,by show 1<=(nextS M pages named).1; rw [hns.2]; omega,.inr ?_⟩
  exact qeH (qjr M pages named) fun x hx=>qma h.wf h.named h.over h.opens.down hf.down hf.size h.opens.blocks hp (by omega) hf.rest hfr
end
end
abbrev STT:TypeId:=46
abbrev S48:TypeId:=44
def stS (l:List Int):Value:=.string (strOf l)
def stA (R:List Int) (P:List (List Int)):List Value:=R.map (Value.int .u32)++P.map stS
theorem stZ:((Tryz.prog.info? STT).bind (·.zero)).map (fun z=>z.cells.toList)=some (stA (zs 24) (List.replicate 48 [])):=by kernel_rfl
theorem qbF {R:List Int} {P:List (List Int)} (hR:R.length=24) (hP:P.length=48):(stA R P).length=72:=by rw [stA,List.length_append,List.length_map,List.length_map,hR,hP]
theorem qlL {R:List Int} {P:List (List Int)}:(stA R P).all Value.oneCell'=true:=by
 rw [stA,List.all_append,qlD,List.all_eq_true.2]
 ·rfl
 ·intro v hv
  obtain ⟨x,_,rfl⟩:=List.mem_map.1 hv
  rfl
theorem qtp {R:List Int} {P:List (List Int)} {t:Nat} {a b c:Int} (hR:R.length=24) (ht:t<8):splice (stA R P).toArray (3*t) [.int .u32 a,.int .u32 b,.int .u32 c]=(stA (R.take (3*t)++[a,b,c]++R.drop (3*t+3)) P).toArray:=by
 have hsp:R=R.take (3*t)++(R.drop (3*t)).take 3++R.drop (3*t+3):=by
  rw [List.append_assoc,<- List.drop_drop,List.take_append_drop,List.take_append_drop]
 have:=qaz (A:=(R.take (3*t)).map (Value.int .u32)) (X:=((R.drop (3*t)).take 3).map (Value.int .u32)) (Y:=[.int .u32 a,.int .u32 b,.int .u32 c]) (Z:=(R.drop (3*t+3)).map (Value.int .u32)++P.map stS) (by rw [List.length_map,List.length_take,List.length_drop]; show min 3 _=3; omega)
 have hA:((R.take (3*t)).map (Value.int .u32)).length=3*t:=by rw [List.length_map,List.length_take]; omega
 rw [hA] at this
 have hm:R.map (Value.int .u32)=(R.take (3*t)).map (Value.int .u32)++((R.drop (3*t)).take 3).map (Value.int .u32)++(R.drop (3*t+3)).map (Value.int .u32):=by
  rw [<- List.map_append,<- List.map_append,<- hsp]
 unfold stA
 rw [hm]
 simp only [List.map_append,List.map_cons,List.map_nil]
 simp only [List.append_assoc] at this ⊢
 exact this
theorem qsW {R:List Int} {P:List (List Int)} {x:Nat} {l:List Int} (hR:R.length=24) (hx:x<P.length):splice (stA R P).toArray (24+x) [stS l]=(stA R (P.set x l)).toArray:=by
 have hsp:P.map stS=(P.take x).map stS++[stS P[x]]++(P.drop (x+1)).map stS:=by
  rw [show P.map stS=(P.take x++P.drop x).map stS by rw [List.take_append_drop],List.drop_eq_getElem_cons hx,List.map_append,List.map_cons,List.append_assoc]
  rfl
 have hset:(P.set x l).map stS=(P.take x).map stS++[stS l]++(P.drop (x+1)).map stS:=by
  rw [List.set_eq_take_append_cons_drop,if_pos hx,List.map_append,List.map_cons,List.append_assoc]
  rfl
 have:=qaz (A:=R.map (Value.int .u32)++(P.take x).map stS) (X:=[stS P[x]]) (Y:=[stS l]) (Z:=(P.drop (x+1)).map stS) rfl
 have hA:(R.map (Value.int .u32)++(P.take x).map stS).length=24+x:=by rw [List.length_append,List.length_map,List.length_map,List.length_take,hR]; omega
 rw [hA] at this
 unfold stA
 rw [hsp,hset]
 simp only [List.append_assoc] at this ⊢
 exact this
theorem quf (a b:ByteArray):eqV Tryz.prog 2 9 (.string a) (.string b)=some (a.toList==b.toList):=by kernel_rfl
theorem qq2 (cs:Array Value) (i:Nat):prt Tryz.prog 9 cs (i*1)=cs[i*1]?:=by kernel_rfl
theorem qoC {xs ys:Array Value} {f g:Nat->ByteArray}:∀ {is:List Nat},(∀ i∈is,xs[i]?=some (.string (f i))/\ys[i]?=some (.string (g i)))->eqIs Tryz.prog (eqV Tryz.prog 2) 9 1 xs ys is=some (is.all fun i=>(f i).toList==(g i).toList)
 | [],_=>rfl
 | i::is,h=>by
  have h1:=h i (by simp)
  have h2:=qoC (xs:=xs) (ys:=ys) (f:=f) (g:=g) (is:=is) fun j hj=>h j (List.mem_cons_of_mem _ hj)
  rw [eqIs,qq2,qq2,Nat.mul_one,h1.1,h1.2]
  dsimp only
  rw [quf,h2]
  dsimp only
  rw [List.all_cons]
  cases ((f i).toList==(g i).toList) <;> rfl
theorem quc (us vs:Array Value):eqV Tryz.prog 3 S48 (.agg us) (.agg vs)=eqIs Tryz.prog (eqV Tryz.prog 2) 9 1 us vs (List.range 48):=by kernel_rfl
theorem qq8:((Tryz.prog.fieldsOf STT).toList.map fun f=>(f.name,f.type,f.offset))=[("roots",RAT,0),("pages",S48,24)]:=by kernel_rfl
theorem qsU:Tryz.prog.stoodInHeld STT=false:=by kernel_rfl
theorem qtG (cs:Array Value):prt Tryz.prog RAT cs 0=some (.agg (cs.extract 0 24)):=by kernel_rfl
theorem qtW (cs:Array Value):prt Tryz.prog S48 cs 24=some (.agg (cs.extract 24 72)):=by kernel_rfl
theorem quu {us vs:Array Value} {r q:Bool} (h1:eqV Tryz.prog 3 RAT (.agg (us.extract 0 24)) (.agg (vs.extract 0 24))=some r) (h2:eqV Tryz.prog 3 S48 (.agg (us.extract 24 72)) (.agg (vs.extract 24 72))=some q) :
  eqV Tryz.prog 4 STT (.agg us) (.agg vs)=some (bif r then (bif q then true else false) else false):=by
 have hf:=qq8
 rw [eqV,qsU,Bool.cond_false]
 rotate_left
 ·exact fieldsOf Tryz.prog STT
 ·kernel_rfl
 generalize (Tryz.prog.fieldsOf STT).toList=L at hf ⊢
 match L,hf with
 | [f1,f2],hf=>
  simp only [List.map_cons,List.map_nil,List.cons.injEq,Prod.mk.injEq,and_true] at hf
  obtain ⟨⟨n1,t1,o1⟩,n2,t2,o2⟩:=hf
  have e2:eqFs Tryz.prog (eqV Tryz.prog 3) us vs [f2]=some (bif q then true else false):=by
   rw [eqFs,if_pos (by rw [n2]; decide),t2,o2,qtW,qtW]
   dsimp only
   rw [h2]
   rfl
  rw [eqFs,if_pos (by rw [n1]; decide),t1,o1,qtG,qtG]
  dsimp only
  rw [h1,e2]
 | [],hf=>cases hf
 | [_],hf=>simp at hf
 | _::_::_::_,hf=>simp at hf
theorem qro {l l':List Int} (hl:l.length=24) (hl':l'.length=24):eqV Tryz.prog 3 RAT (.agg (l.map (Value.int .u32)).toArray) (.agg (l'.map (Value.int .u32)).toArray)=some (eq3 l l'):=by
 obtain ⟨a0,a1,a2,a3,a4,a5,a6,a7,a8,a9,a10,a11,a12,a13,a14,a15,a16,a17,a18,a19,a20,a21,a22,a23,rfl⟩:=qkd hl
 obtain ⟨b0,b1,b2,b3,b4,b5,b6,b7,b8,b9,b10,b11,b12,b13,b14,b15,b16,b17,b18,b19,b20,b21,b22,b23,rfl⟩:=qkd hl'
 exact qsQ ..
theorem qnA {A B:List Value} {n:Nat} (h:A.length=n):(A++B).toArray.extract 0 n=A.toArray:=by
 subst h
 apply Array.ext'
 simp
theorem qlY {A B:List Value} {n m:Nat} (h:A.length=n) (hm:(A++B).length=m):(A++B).toArray.extract n m=B.toArray:=by
 subst h hm
 apply Array.ext'
 simp
theorem qmn {R R':List Int} {P P':List (List Int)} (hR:R.length=24) (hR':R'.length=24) (hP:P.length=48) (hP':P'.length=48) :
  ∃ r,eqV Tryz.prog 4 STT (.agg (stA R P).toArray) (.agg (stA R' P').toArray)=some r/\(R=R'->P=P'->r=true):=by
 have hm:(R.map (Value.int .u32)).length=24:=by rw [List.length_map,hR]
 have hm':(R'.map (Value.int .u32)).length=24:=by rw [List.length_map,hR']
 have at48:∀ {Q:List (List Int)},Q.length=48->∀ i∈List.range 48,((Q.map stS).toArray)[i]?=some (.string (strOf (Q.getD i []))):=fun {Q} hQ i hi=>by
  have hi':i<Q.length:=by rw [hQ]; exact List.mem_range.1 hi
  rw [List.getElem?_toArray,List.getElem?_map,List.getElem?_eq_getElem hi',List.getD_eq_getElem?_getD,List.getElem?_eq_getElem hi']
  rfl
 have e:eqV Tryz.prog 4 STT (.agg (stA R P).toArray) (.agg (stA R' P').toArray)=some (bif eq3 R R' then (bif (List.range 48).all fun i=>(strOf (P.getD i [])).toList==(strOf (P'.getD i [])).toList then true else false) else false):=by
  refine quu ?_ ?_
  ·rw [stA,stA,qnA hm,qnA hm',qro hR hR']
  ·rw [stA,stA,qlY hm (qbF hR hP),qlY hm' (qbF hR' hP'),quc,qoC (f:=fun i=>strOf (P.getD i [])) (g:=fun i=>strOf (P'.getD i [])) fun i hi=>⟨at48 hP i hi,at48 hP' i hi⟩]
 refine ⟨_,e,fun h1 h2=>?_⟩
 subst h1 h2
 have h3:eq3 R R=true:=by rw [qlB 8 R R hR hR]; simp
 have h4:((List.range 48).all fun i=>(strOf (P.getD i [])).toList==(strOf (P.getD i [])).toList)=true:=List.all_eq_true.2 fun i _=>by simp
 rw [h3,h4]
 rfl
def toldP (D:DiskM) (M:PgM) (n:Nat):List (List Int):=(List.range 48).map fun (y:Nat)=>if 2<=y/\y<n then toldX D M y else []
theorem qfj (D:DiskM) (M:PgM) (n:Nat):(toldP D M n).length=48:=by simp [toldP]
theorem qrE (D:DiskM) (M:PgM):toldP D M 2=List.replicate 48 []:=by
 apply List.ext_getElem?
 intro i
 unfold toldP
 rw [List.getElem?_map]
 by_cases h:i<48
 ·rw [List.getElem?_eq_getElem (by simpa using h),List.getElem_range,Option.map_some,if_neg (by omega),List.getElem?_replicate,if_pos h]
 ·rw [List.getElem?_eq_none (by simp; omega),List.getElem?_replicate,if_neg h]; rfl
theorem qkm {D:DiskM} {M:PgM} {n:Nat} (h2:2<=n) (hn:n<48):(toldP D M n).set n (toldX D M n)=toldP D M (n+1):=by
 apply List.ext_getElem?
 intro i
 rw [List.getElem?_set,qfj]
 unfold toldP
 rw [List.getElem?_map,List.getElem?_map]
 by_cases h:i<48
 ·rw [List.getElem?_eq_getElem (by simpa using h),List.getElem_range,Option.map_some,Option.map_some]
  by_cases e:n=i
  ·subst e
   rw [if_pos rfl,if_pos h,if_pos ⟨h2,by omega⟩]
  ·rw [if_neg e]
   by_cases h3:2<=i/\i<n
   ·rw [if_pos h3,if_pos ⟨h3.1,by omega⟩]
   ·rw [if_neg h3,if_neg (by omega)]
 ·rw [if_neg (by omega),List.getElem?_eq_none (by simp; omega)]; rfl
theorem qq7 (D:DiskM) (M:PgM):toldP D M 30=(toldS D M).2:=rfl
theorem qqO {D:DiskM} {M:PgM} {n:Nat} (h2:2<=n) (hn:n<48) (he:(pagerReadM D M n).2.2≠0):toldP D M (n+1)=toldP D M n:=by
 rw [<- qkm h2 hn,toldX,if_neg he]
 apply List.ext_getElem?
 intro i
 rw [List.getElem?_set,qfj]
 by_cases e:n=i
 ·subst e
  rw [if_pos rfl,if_pos hn]
  unfold toldP
  rw [List.getElem?_map,List.getElem?_eq_getElem (by simpa using hn),List.getElem_range,Option.map_some,if_neg (by omega)]
 ·rw [if_neg e]
def toldR (M:PgM) (t:Nat):List Int:=M.roots.take (3*t)++zs (24-3*t)
theorem qmu {M:PgM} {t:Nat} (hr:M.roots.length=24) (ht:t<=8):(toldR M t).length=24:=by rw [toldR,List.length_append,List.length_take,qay]; omega
theorem qrn {M:PgM} (hr:M.roots.length=24):toldR M 8=M.roots:=by
 rw [toldR,List.take_of_length_le (by omega)]
 exact List.append_nil _
theorem qqB {M:PgM} {t:Nat} (hr:M.roots.length=24) (ht:t<8):(toldR M t).take (3*t)++[(rootM M t).1,(rootM M t).2.1,(rootM M t).2.2]++(toldR M t).drop (3*t+3)=toldR M (t+1):=by
 have hl:(M.roots.take (3*t)).length=3*t:=by rw [List.length_take]; omega
 have e1:(toldR M t).take (3*t)=M.roots.take (3*t):=by rw [toldR,List.take_append_of_le_length (by omega),List.take_of_length_le (by omega)]
 have e2:(toldR M t).drop (3*t+3)=zs (24-3*(t+1)):=by
  rw [toldR,show 3*t+3=(M.roots.take (3*t)).length+3 by omega,List.drop_length_add_append]
  unfold zs
  rw [List.drop_replicate]
  congr 1
 have e3:M.roots.take (3*(t+1))=M.roots.take (3*t)++[M.roots.getD (3*t) 0,M.roots.getD (3*t+1) 0,M.roots.getD (3*t+2) 0]:=by
  rw [show 3*(t+1)=3*t+1+1+1 by omega,List.take_succ_eq_append_getElem (by omega),List.take_succ_eq_append_getElem (by omega),List.take_succ_eq_append_getElem (by omega),List.getElem_eq_getD 0,List.getElem_eq_getD 0,List.getElem_eq_getD 0]
  simp
 rw [e1,e2,toldR,e3,rootM,if_neg (by omega),Int.toNat_natCast]
theorem qkq {α:Type} {enc:α->List Value} {k:Nat} {S:List Nat} {w:World} {s:Sl} {l:List α} {t e T:TypeId} {i:TypeInfo} {z:Value} {K:Sl->World->Prop} (h:Rds enc k S w s l) (henc:∀ x,(enc x).length=k) (hone:∀ x,∀ u∈enc x,u.oneCell'=true)
  (ht:Tryz.prog.underlying t=some (.slice e)) (hi:Tryz.prog.info? e=some i) (hz:i.zero=some z) (hsz:i.size=k) (hzs:z.cells.size=k) (hb:i.bytes<=600) (hl:l.length<=1000000)
  (hk:∀ s' B w',Buf enc k w' s' l B->Fr [] w w'->(∀ b∈B,w.heap.size<=b)->K s' w') :
  cond (Option.isNone s.a) (K ⟨none,0,0⟩ w) (new (.cells #[] T) w fun r w2=>run [Ty1.one Cell.slice] ((Builtin.append_ #[t,t] t #[.slice (some ⟨r,0,none⟩) 0 0,.slice s.a s.len s.cap]).run Tryz.prog w2) fun s3 w4=>K s3 w4):=by
 have hlen:=h.1
 refine qaa (fun hc=>?_) (fun hc=>?_)
 ·have hn:s.a=none:=by simpa using hc
  have:l=[]:=by
   rcases h.2.2 with h | ⟨b,o,cs,T,fr,ha,_⟩
   ·exact h
   ·rw [hn] at ha; cases ha
  subst this
  exact hk ⟨none,0,0⟩ [] w (.nil _ _ _) (.refl _ _) (by simp)
 ·refine Own.new' (Own.start [] w) fun tb w1 et f1 ho=>?_
  have hb0:Buf enc k w1 ⟨some ⟨tb,0,none⟩,0,0⟩ [] [tb]:=.inr ⟨tb,0,_,_,rfl,rfl,rfl,ho.at (i:=0) rfl,rfl,Nat.le_refl _,by simp,by simp⟩
  refine Buf.appSrc (s:=⟨some ⟨tb,0,none⟩,0,0⟩) hb0 henc ht hi hz hsz hzs (qge (h.frame0 f1) henc hone ht) hlen ?_ (by rw [hlen]; show 0+_<=_; omega) fun s' B' w' b' f' n' _=>?_
  ·rw [hlen]
   show (0+l.length)*i.bytes<=_
   have:=Nat.mul_le_mul hl hb
   rw [Nat.zero_add]
   omega
  rw [List.nil_append] at b'
  refine hk s' B' w' b' (f1.trans' f' fun b hb=>by simp at hb; subst hb; exact .inr (by omega)) fun b hb=>?_
  rcases n' b hb with h | h
  ·simp at h; subst h; omega
  ·exact Nat.le_trans f1.size h
theorem qt8:∃ i,Tryz.prog.info? 128=some i/\(∃ z,i.zero=some z/\z.cells.size=512)/\i.size=512/\i.bytes=512:=by
 have h:(Tryz.prog.info? 128).map (fun i=>(i.zero.map (fun z=>z.cells.size),i.size,i.bytes))=some (some 512,512,512):=by kernel_rfl
 obtain ⟨i,hi,he⟩:=Option.map_eq_some_iff.1 h
 simp only [Prod.mk.injEq] at he
 obtain ⟨z,hz,hzs⟩:=Option.map_eq_some_iff.1 he.1
 exact ⟨i,hi,⟨z,hz,hzs⟩,he.2.1,he.2.2⟩
theorem qjE {S:List Nat} {w:World} {s:Sl} {l:List Blk} {K:Sl->World->Prop} (h:Rds encK 512 S w s l) (hl:l.length<=1000000)
  (hk:∀ s' B w',Buf encK 512 w' s' l B->Fr [] w w'->(∀ b∈B,w.heap.size<=b)->K s' w') :
  call Tryz.prog 101 [.slice s.a s.len s.cap] [.one .slice] w K:=by
 obtain ⟨i,hi,⟨z,hz,hzs⟩,hsz,hby⟩:=qt8
 refine qj0 (s:=s) ?_
 unfold qfS
 exact qkq h qaD (fun x u hu=>List.all_eq_true.1 (qjN x) u hu) (by kernel_rfl) hi hz hsz hzs (by omega) hl hk
theorem qjK {S:List Nat} {w:World} {s:Sl} {l:List (Int×Blk)} {K:Sl->World->Prop} (h:Rds encW 513 S w s l) (hl:l.length<=1000000)
  (hk:∀ s' B w',Buf encW 513 w' s' l B->Fr [] w w'->(∀ b∈B,w.heap.size<=b)->K s' w') :
  call Tryz.prog 102 [.slice s.a s.len s.cap] [.one .slice] w K:=by
 obtain ⟨i,hi,⟨z,hz,hzs⟩,hsz,hby⟩:=qqs
 refine qjL (s:=s) ?_
 unfold qgl
 exact qkq h qaT (fun x u hu=>List.all_eq_true.1 (qeO x) u hu) (by kernel_rfl) hi hz hsz hzs (by omega) hl hk
theorem qsG {w:World} {db:Nat} {F:List Nat} {D:DiskM} {K:Option Addr->World->Prop} (h:DiskAt w db F D) (hD:D.Ok) (h0:0<D.safe.length)
  (hk:∀ d2 F2 c Z w',DiskZ w' d2 F2 D c Z->Fr [] w w'->(∀ b∈F2,w.heap.size<=b)->K (some ⟨d2,0,none⟩) w') :
  call Tryz.prog 59 [.pointer (some ⟨db,0,none⟩)] [.one .ptr] w K:=by
 refine qiW (d:=some ⟨db,0,none⟩) ?_
 unfold qfo
 obtain ⟨sb,T,wsl,B,hF,hn,hc,hsb,hbuf⟩:=h
 have hwmax:=hD.waits
 have hsmax:=hD.safe
 refine qac (qlx hc (⟨some ⟨sb,0,none⟩,D.safe.length,D.safe.length⟩,wsl,D.fuse,D.down,D.writes) rfl ?_)
 refine Own.newSt (Own.start [] w) (cs':=dCells D sb wsl) rfl rfl (Nat.le_of_ble_eq_true rfl) fun r w1 e1 ho f1=>?_
 have ho:=ho.drew
 have fd:Fr [] w w1.drew:=ho.fr
 have hcd:w1.drew.heap[db]?=some (.cells (dCells D sb wsl) DT (0,0)):=by rw [fd.block db (qab hc) (by simp)]; exact hc
 have hsd:w1.drew.heap[sb]?=some (.cells (D.safe.flatMap encK).toArray T (0,0)):=by rw [fd.block sb (qab hsb) (by simp)]; exact hsb
 refine qac (qaf (c:=.slice) hcd ⟨some ⟨sb,0,none⟩,D.safe.length,D.safe.length⟩ rfl ?_)
 refine qac (qaf (c:=.slice) (off:=0+1) hcd wsl rfl ?_)
 have hrs:Rds encK 512 [] w1.drew ⟨some ⟨sb,0,none⟩,D.safe.length,D.safe.length⟩ D.safe:=
  ⟨rfl,Nat.le_refl _,.inr ⟨sb,0,_,T,_,rfl,hsd,by simp,fun i x hx=>by rw [Nat.zero_add]; exact qeh qaD D.safe i x hx⟩⟩
 refine qjE (s:=⟨some ⟨sb,0,none⟩,D.safe.length,D.safe.length⟩) hrs (by omega) fun s2 B2 w2 b2 f2 n2=>?_
 have hc2:w2.heap[db]?=some (.cells (dCells D sb wsl) DT (0,0)):=by rw [f2.block db (qab hcd) (by simp)]; exact hcd
 refine qao (by rw [qah hc2]; rfl) ?_
 refine qjK (((hbuf.frame0 fd).frame0 f2).rds qaT (S:=[]) (by simp)) hwmax fun s3 B3 w3 b3 f3 n3=>?_
 have ho3:=(ho.frame0 f2).frame0 f3
 have hb3:=b2.frame0 f3
 rcases hb3 with ⟨_,e0,_⟩ | ⟨s2b,o,cs,T2,hB2,rfl,ha,hblk,hl1,hl2,hl3,hl4⟩
 ·rw [e0] at h0; exact absurd h0 (by simp)
 have hs2:=n2 s2b (by rw [hB2]; simp)
 have hrlt:r<w1.drew.heap.size:=qab (ho.at (i:=0) rfl)
 have hfl:=qaL qaD D.safe
 rw [List.drop_zero] at hl4
 have hcs:cs=(D.safe.flatMap encK++cs.toList.drop (D.safe.length*512)).toArray:=by
  apply Array.ext'
  show cs.toList=D.safe.flatMap encK++cs.toList.drop (D.safe.length*512)
  rw [<- hl4,List.take_append_drop]
 obtain ⟨a2,len2,c2⟩:=s2
 simp only at ha hl1 hl2
 subst ha hl1
 refine Own.st' ho3 0 rfl (dCellsC D s2b c2 wsl) rfl rfl (Nat.le_of_ble_eq_true rfl) fun w4 ho4 f4=>?_
 refine Own.st' ho4 0 rfl (dCellsC D s2b c2 s3) rfl rfl (Nat.le_of_ble_eq_true rfl) fun w5 ho5 f5=>?_
 have hlt2:=qab hblk
 have f35:=f4.trans f5
 have hne:s2b≠r:=by omega
 have hn3:∀ b∈B3,r<b/\s2b<b:=fun b hb=>by
  have h1:=n3 b hb
  have h2:s2b<w2.heap.size:=b2.lt s2b (by rw [hB2]; simp)
  have:=f2.size
  omega
 refine hk r (r::s2b::B3) c2 _ w5 ⟨s2b,T2,s3,B3,rfl,?_,ho5.at (i:=0) rfl,by rw [f35.block s2b hlt2 (by simpa using hne),<- hcs]; exact hblk,b3.frame f35 fun b hb hm=>by have:=(hn3 b hb).1; rw [List.mem_singleton.1 hm] at this; omega⟩ ho5.fr fun b hb=>?_
 ·have hnd:B3.Nodup:=by
   rcases b3 with ⟨_,_,rfl⟩ | ⟨b,_,_,_,rfl,_⟩
   ·simp
   ·simp
  simp only [List.nodup_cons,List.mem_cons,not_or]
  exact ⟨⟨fun e=>hne e.symm,fun hm=>by have:=(hn3 r hm).1; omega⟩,fun hm=>by have:=(hn3 s2b hm).2; omega,hnd⟩
 ·have:=fd.size
  simp only [List.mem_cons] at hb
  rcases hb with rfl | rfl | hb
  ·omega
  ·omega
  ·have:=(hn3 b hb).2; omega
def encT (l:List Int):List Value:=[stS l]
theorem qeU (l:List Int):(encT l).length=1:=rfl
theorem qsT:∃ i,Tryz.prog.info? 9=some i/\(∃ z,i.zero=some z/\z.cells.size=1)/\i.size=1/\i.bytes=16:=by
 have h:(Tryz.prog.info? 9).map (fun i=>(i.zero.map (fun z=>z.cells.size),i.size,i.bytes))=some (some 1,1,16):=by kernel_rfl
 obtain ⟨i,hi,he⟩:=Option.map_eq_some_iff.1 h
 simp only [Prod.mk.injEq] at he
 obtain ⟨z,hz,hzs⟩:=Option.map_eq_some_iff.1 he.1
 exact ⟨i,hi,⟨z,hz,hzs⟩,he.2.1,he.2.2⟩
theorem qtY:∃ i,Tryz.prog.info? 136=some i/\(∃ z,i.zero=some z/\z.cells.size=2)/\i.size=2/\i.bytes=16:=by
 have h:(Tryz.prog.info? 136).map (fun i=>(i.zero.map (fun z=>z.cells.size),i.size,i.bytes))=some (some 2,2,16):=by kernel_rfl
 obtain ⟨i,hi,he⟩:=Option.map_eq_some_iff.1 h
 simp only [Prod.mk.injEq] at he
 obtain ⟨z,hz,hzs⟩:=Option.map_eq_some_iff.1 he.1
 exact ⟨i,hi,⟨z,hz,hzs⟩,he.2.1,he.2.2⟩
theorem qsR {w:World} {s:Sl} {L:List (List Int)} {B:List Nat} {l:List Int} {K:Sl->World->Prop} (h:Buf encT 1 w s L B) (hl:L.length<=1000000) (hk:∀ s' B' w',Buf encT 1 w' s' (L++[l]) B'->Fr B w w'->(∀ b∈B',b∈B\/w.heap.size<=b)->K s' w') :
  new (.cells #[.string (strOf l)] 9) w fun r w1=>run [Ty1.one Cell.slice] ((Builtin.append_ #[48,48] 48 #[.slice s.a s.len s.cap,.slice (some ⟨r,0,none⟩) 1 1]).run Tryz.prog w1) K:=by
 obtain ⟨i,hi,⟨z,hz,hzs⟩,hsz,hby⟩:=qsT
 exact Buf.push (x:=l) h qeU (fun u hu=>by rw [List.mem_singleton.1 hu]; rfl) (by kernel_rfl) hi hz hsz hzs rfl (by rw [hby]; omega) (by omega) hk
theorem qub {w:World} {s:Sl} {L:List (Int×Int)} {B:List Nat} {x:Int×Int} {K:Sl->World->Prop} (h:Buf encLoss 2 w s L B) (hl:L.length<=1000000) (hk:∀ s' B' w',Buf encLoss 2 w' s' (L++[x]) B'->Fr B w w'->(∀ b∈B',b∈B\/w.heap.size<=b)->K s' w') :
  new (.cells #[.int .i64 x.1,.int .i64 x.2] 136) w fun r w1=>run [Ty1.one Cell.slice] ((Builtin.append_ #[40,40] 40 #[.slice s.a s.len s.cap,.slice (some ⟨r,0,none⟩) 1 1]).run Tryz.prog w1) K:=by
 obtain ⟨i,hi,⟨z,hz,hzs⟩,hsz,hby⟩:=qtY
 refine Buf.push (x:=x) h (fun _=>rfl) (fun u hu=>?_) (by kernel_rfl) hi hz hsz hzs rfl (by rw [hby]; omega) (by omega) hk
 simp only [encLoss,List.mem_cons,List.not_mem_nil,or_false] at hu
 rcases hu with rfl | rfl <;> rfl
def sups (D:DiskM):Nat->List (List Int)
 | 0=>[]
 | p+1=>sups D p++[(readV D p).1]
theorem qrt {w:World} {db:Nat} {F:List Nat} {D:DiskM} {k:Nat} {K:Sl->World->Prop} (h:DiskAt w db F D) (hlim:Lim D k) (h0:0<D.safe.length)
  (hk:∀ s B w',Buf encT 1 w' s (sups (crashM D (List.replicate D.waits.length (0,512))) 2) B->Fr [] w w'->(∀ b∈B,w.heap.size<=b)->K s w') :
  call Tryz.prog 21 [.pointer (some ⟨db,0,none⟩)] [.one .slice] w K:=by
 refine qe4 ?_
 unfold qcA
 have hD:=hlim.ok
 have hwm:=hD.waits
 refine qsG h hD h0 fun d2 F2 c Z w1 hz1 f1 n1=>?_
 refine cond_false rfl ?_
 refine qqw hz1 ?_
 have hlt:∀ b∈F2,b<w1.heap.size:=fun b hb=>by
  obtain ⟨sb,T,wsl,B,rfl,_,h1,h2,h3⟩:=hz1
  simp only [List.mem_cons] at hb
  rcases hb with rfl | rfl | hb
  ·exact qab h1
  ·exact qab h2
  ·exact h3.lt b hb
 refine qag (fun t w'=>∃ (i:Nat) (B:List Nat),t.2=i/\i<=D.waits.length/\Buf encLoss 2 w' t.1 (List.replicate i (0,512)) B/\Fr [] w1 w'/\∀ b∈B,w1.heap.size<=b) (fun t _=>((D.waits.length:Int)-t.2).toNat)
  ⟨0,[],rfl,by omega,.nil _ _ _,.refl _ _,by simp⟩ ?_
 rintro ⟨s,y⟩ w2 ⟨i,B,e,hi,hb,f2,n2⟩ X hX
 obtain rfl:y=i:=e
 refine qaa (fun hc=>?_) (fun hc=>?_)
 ·have hil:i<D.waits.length:=by have:=of_decide_eq_true hc; omega
  refine qub (x:=(0,512)) hb (by rw [List.length_replicate]; omega) fun s3 B3 w3 b3 f3 n3=>?_
  rw [wi' _ (by dsimp only; omega)]
  refine hX _ _ ⟨i+1,B3,by simp,by omega,by rw [List.replicate_succ']; exact b3,f2.trans' f3 fun b hb=>.inr (n2 b hb),fun b hb=>?_⟩ (by dsimp only; omega)
  exact (n3 b hb).elim (n2 b) fun h'=>by have:=f2.size; omega
 ·have hie:i=D.waits.length:=by have:=of_decide_eq_false hc; dsimp only at this; omega
  subst hie
  refine qk1 (hz1.frame0 f2) hD (Buf.rds (fun _=>rfl) hb fun b hb hm=>by have:=n2 b hb; have:=hlt b hm; omega) fun F3 w3 hz3 f3 hs3=>?_
  have hD3:=(hlim.crash (ls:=List.replicate D.waits.length (0,512))).ok
  have f13:Fr F2 w1 w3:=(f2.mono fun b hb=>nomatch hb).trans f3
  refine qag (fun t w'=>∃ (p:Nat) (B:List Nat),t.2=p/\p<=2/\Buf encT 1 w' t.1 (sups (crashM D (List.replicate D.waits.length (0,512))) p) B/\Fr [] w3 w'/\∀ b∈B,w3.heap.size<=b) (fun t _=>((2:Int)-t.2).toNat)
   ⟨0,[],rfl,by omega,.nil _ _ _,.refl _ _,by simp⟩ ?_
  rintro ⟨s4,y⟩ w4 ⟨p,B4,e,hp,hb4,f4,n4⟩ Y hY
  obtain rfl:y=p:=e
  refine qaa (fun hc=>?_) (fun hc=>?_)
  ·have hp2:p<2:=by have:=of_decide_eq_true hc; dsimp only at this; omega
   refine qmA (hz3.frame0 f4) hD3 fun s5 B5 w5 b5 f5 n5=>?_
   refine qaI (b5.rds qak (S:=[]) (by simp)) (qaG hD3 p).1 ?_
   refine qsR (hb4.frame0 f5) (by have:(sups (crashM D (List.replicate D.waits.length (0,512))) p).length=p:=by { clear hb4 b5; revert p; intro p _ _ _ _; match p with | 0=>rfl | 1=>rfl | p+2=>omega }; omega) fun s6 B6 w6 b6 f6 n6=>?_
   rw [wi' _ (by dsimp only; omega)]
   have f36:=f4.trans f5
   refine hY _ _ ⟨p+1,B6,by simp,by omega,b6,f36.trans' f6 fun b hb=>.inr (n4 b hb),fun b hb=>?_⟩ (by dsimp only; omega)
   exact (n6 b hb).elim (n4 b) fun h'=>by have:=f36.size; omega
  ·have hpe:p=2:=by have:=of_decide_eq_false hc; dsimp only at this; omega
   subst hpe
   have f03:Fr [] w w3:=f1.trans' f13 fun b hb=>.inr (n1 b hb)
   exact hk s4 B4 w4 hb4 (f03.trans f4) fun b hb=>by have:=n4 b hb; have:=f03.size; omega
theorem qsZ {S:List Nat} {w:World} {db:Nat} {F:List Nat} {D:DiskM} {k:Nat} {sl:Sl} {L:List (List Int)} {K:Bool->World->Prop} (h:DiskAt w db F D) (hlim:Lim D k) (hr:Rds encT 1 S w sl L) (hL:∀ l∈L,IsB l) (hll:L.length<=1000000)
  (hk:∀ b w',(b=false->∀ p:Int,p=0\/p=1->(readSV p (readV D p).1).2=0->(readV D p).1∈L)->Fr [] w w'->K b w') :
  call Tryz.prog 23 [.pointer (some ⟨db,0,none⟩),.slice sl.a sl.len sl.cap] [.one .bool] w K:=by
 refine qgb ?_
 unfold qda
 have hD:=hlim.ok
 have hlen:=hr.1
 refine qag (fun y w'=>∃ p:Nat,y=p/\p<=2/\(∀ j:Nat,j<p->(readSV j (readV D j).1).2=0->(readV D j).1∈L)/\Fr [] w w') (fun y _=>((2:Int)-y).toNat) ⟨0,rfl,by omega,fun j hj=>by omega,.refl _ _⟩ ?_
 rintro y w1 ⟨p,rfl,hp,hall,f1⟩ X hX
 refine qaa (fun hc=>?_) (fun hc=>?_)
 ·have hp2:p<2:=by have:=of_decide_eq_true hc; omega
  have hB:=(qaG hD p).1
  have hBl:=(qaG hD p).2
  refine qdi (h.frame0 f1) hD fun s2 B2 w2 b2 f2 n2=>?_
  have hrd2:=b2.rds qak (S:=[]) (by simp)
  refine qaI hrd2 hB ?_
  refine qsh (by omega) hB (by omega) fun w3 f3=>?_
  refine Own.newZ (Own.start [] w3) qbq fun r w4 e4 ho4=>?_
  refine qam (qar (qa3 _ _)) ?_
  refine Own.st' ho4 0 rfl _ rfl (qcq _ _) (by rw [qar (qa3 _ _)]; exact Nat.le_of_ble_eq_true rfl) fun w5 ho5 f5=>?_
  have f25:Fr [] w2 w5:=f3.trans ho5.fr
  have f05:Fr [] w w5:=(f1.trans f2).trans f25
  refine qag (fun t w'=>∃ j:Nat,t.2=j/\j<=L.length/\t.1=decide ((readV D p).1∈L.take j)/\w'=w5) (fun t _=>((L.length:Int)-t.2).toNat) ⟨0,rfl,by omega,by simp,rfl⟩ ?_
  rintro ⟨b,y⟩ w6 ⟨j,e,hj,rfl,rfl⟩ Y hY
  obtain rfl:y=j:=e
  rw [hlen]
  refine qaa (fun hc=>?_) (fun hc=>?_)
  ·have hjl:j<L.length:=by have:=of_decide_eq_true hc; dsimp only at this; omega
   have hget:=List.getElem?_eq_getElem hjl
   refine qae (fun b w'=>b=decide ((readV D p).1∈L.take (j+1))/\w'=w6) ?_ ?_
   ·refine Rds.get (c:=.str) (hr.frame0 f05) j rfl hget (y:=strOf L[j]) rfl ?_
    rw [List.take_succ_eq_append_getElem hjl]
    refine qaa (fun hc=>⟨?_,rfl⟩) (fun hc=>?_)
    ·have:=of_decide_eq_true hc
     exact (decide_eq_true (List.mem_append_left _ this)).symm
    ·have hno:=of_decide_eq_false hc
     refine qaI (hrd2.frame0 f25) hB ⟨?_,rfl⟩
     rw [qhX (hL _ (List.getElem_mem hjl)) hB]
     refine decide_eq_decide.2 ⟨fun e=>List.mem_append_right _ (by rw [e]; simp),fun hm=>?_⟩
     rcases List.mem_append.1 hm with hm | hm
     ·exact absurd hm hno
     ·exact (List.mem_singleton.1 hm).symm
   rintro b w7 ⟨rfl,rfl⟩
   rw [wi' _ (by dsimp only; omega)]
   exact hY _ _ ⟨j+1,by simp,by omega,rfl,rfl⟩ (by dsimp only; omega)
  ·have hje:j=L.length:=by have:=of_decide_eq_false hc; dsimp only at this; omega
   subst hje
   rw [List.take_length]
   refine qae (fun b w'=>b=decide ((readSV p (readV D p).1).2=0/\(readV D p).1∉L)/\w'=w6) ?_ ?_
   ·refine qaa (fun hc=>⟨?_,rfl⟩) (fun hc=>⟨?_,rfl⟩)
    ·have he:(readSV p (readV D p).1).2=0:=by simpa using hc
     dsimp only
     by_cases hm:(readV D p).1∈L <;> simp [he,hm]
    ·have he:¬ (readSV p (readV D p).1).2=0:=by simpa using hc
     exact (decide_eq_false fun h=>he h.1).symm
   rintro b w7 ⟨rfl,rfl⟩
   refine qaa (fun hc=>hk true w7 (fun e=>by cases e) f05) (fun hc=>?_)
   have hno:=of_decide_eq_false hc
   rw [wi' _ (by omega)]
   refine hX _ _ ⟨p+1,by simp,by omega,fun i hi h=>?_,f05⟩ (by omega)
   by_cases e:i=p
   ·subst e
    exact Classical.byContradiction fun hm=>hno ⟨h,hm⟩
   ·exact hall i (by omega) h
 ·have hpe:p=2:=by have:=of_decide_eq_false hc; omega
  subst hpe
  refine hk false w1 (fun _ p hp h=>?_) f1
  rcases hp with rfl | rfl
  ·exact hall 0 (by omega) h
  ·exact hall 1 (by omega) h
theorem qpR {l:List Int} (h:IsB l) (n:Int):0<=(openV n l).1/\(openV n l).1<256:=by
 unfold openV
 split
 ·exact ⟨by decide,by decide⟩
 split
 ·exact ⟨by decide,by decide⟩
 split
 ·exact ⟨by decide,by decide⟩
 split
 ·exact ⟨by decide,by decide⟩
 split
 ·exact ⟨by decide,by decide⟩
 ·show 0<=l.getD 8 0/\l.getD 8 0<256
  rw [List.getD_eq_getElem?_getD]
  cases he:l[8]? with
  | none=>exact ⟨by decide,by decide⟩
  | some b=>exact h b (List.mem_of_getElem? he)
theorem qla {D:DiskM} {M:PgM} (hD:D.Ok) (hW:M.Wf) (n:Int):(0<=(pagerReadM D M n).1/\(pagerReadM D M n).1<256)/\(pagerReadM D M n).2.1.length<=512:=by
 have z:(0<=(0:Int)/\(0:Int)<256)/\([]:List Int).length<=512:=by decide
 unfold pagerReadM
 split
 ·exact z
 split
 ·rename_i q hq
  have:=hW.body _ (qax hq).2
  exact ⟨this.1,by have:=this.2.1; dsimp only at this ⊢; omega⟩
 split
 ·exact z
 split
 ·exact z
 ·have h1:=qaG hD n
  exact ⟨qpR h1.1 n,Nat.le_trans (qfp h1.1 n).2 h1.2⟩
theorem qsv {w:World} {b:Nat} {T:TypeId} {fr:Nat×Nat} {x:Int} {K:ByteArray->Prop} (hb:w.heap[b]?=some (.cells #[.int .u8 1,.int .u8 x] T fr)) (hx:0<=x/\x<256) (k:K (strOf [1,x])) :
  runQ [Ty1.one Cell.str] (fun w'=>(convert 22 9 (.slice (some ⟨b,0,none⟩) 2 2)).run Tryz.prog w') w K:=by
 have hB2:IsB [1,x]:=fun y hy=>by
  simp only [List.mem_cons,List.not_mem_nil,or_false] at hy
  rcases hy with rfl | rfl
  ·exact ⟨by decide,by decide⟩
  ·exact hx
 exact qaI (S:=[]) (s:=⟨some ⟨b,0,none⟩,2,2⟩) (l:=[1,x]) (qcr (l:=[1,x]) hb (by simp)) hB2 k
theorem qlT {w:World} {dbk pb:Nat} {X FD F:List Nat} {D:DiskM} {M:PgM} {k:Nat} {K:List Value->World->Prop} (hdisk:DiskAt w dbk FD D) (hlim:Lim D k) (hpag:PagerAt w X pb (dbOf dbk M) F M) (hv:Hv w) (hW:M.Wf)
  (hk:∀ w',Fr [] w w'->K (stA (toldS D M).1 (toldS D M).2) w') :
  call Tryz.prog 16 [.pointer (some ⟨pb,0,none⟩),.int .i64 30] [.raw] w K:=by
 refine qfM ?_
 unfold qc5
 have hr:M.roots.length=24:=hpag.lens.2
 have hsm:=hW.small
 have hBy:=hsm.bytes
 refine Own.newZ (Own.start [] w) stZ fun r1 w1 e1 ho1=>?_
 refine Own.newZ ho1 stZ fun r3 w2 e2 ho2=>?_
 have l72:∀ {t:Nat} {P:List (List Int)},t<=8->P.length=48->(stA (toldR M t) P).length=72:=fun ht hP=>qbF (qmu hr ht) hP
 refine qag (fun y w'=>∃ t:Nat,y=t/\t<=8/\Own [] w w' [(r3,.cells (stA (toldR M t) (List.replicate 48 [])).toArray STT (0,0)),(r1,.cells (stA (zs 24) (List.replicate 48 [])).toArray STT (0,0))]) (fun y _=>((8:Int)-y).toNat) ⟨0,rfl,by omega,ho2⟩ ?_
 rintro y w3 ⟨t,rfl,ht,ho3⟩ X1 hX1
 refine qaa (fun hc=>?_) (fun hc=>?_)
 ·have ht8:t<8:=by have:=of_decide_eq_true hc; omega
  refine qsr (hpag.frame0 ho3.fr) fun w4 f4=>?_
  have ho4:=ho3.frame0 f4
  refine qam (by omega) ?_
  rw [Int.toNat_natCast,Addr.add_mk]
  refine Own.st' ho4 0 rfl (stA (toldR M (t+1)) (List.replicate 48 [])).toArray ?_ rfl ?_ fun w5 ho5 f5=>?_
  ·rw [show 0+t*3=3*t by omega,<- qqB hr ht8]
   exact qtp (qmu hr ht) ht8
  ·rw [List.size_toArray,l72 ht (by simp)]
   show 0+t*3+3<=72
   omega
  rw [wi' _ (by omega)]
  exact hX1 _ _ ⟨t+1,by simp,by omega,ho5⟩ (by omega)
 have hte:t=8:=by have:=of_decide_eq_false hc; omega
 subst hte
 clear hX1 X1
 rw [qrn hr,<- qrE D M] at ho3
 have lP:∀ n,(stA M.roots (toldP D M n)).length=72:=fun n=>qbF hr (qfj D M n)
 refine qag (fun y w'=>∃ x:Nat,y=x/\2<=x/\x<=30/\Own [] w w' [(r3,.cells (stA M.roots (toldP D M x)).toArray STT (0,0)),(r1,.cells (stA (zs 24) (List.replicate 48 [])).toArray STT (0,0))]) (fun y _=>((30:Int)-y).toNat) ⟨2,rfl,by omega,by omega,ho3⟩ ?_
 rintro y w4 ⟨x,rfl,hx2,hx,ho4⟩ X2 hX2
 refine qae (fun b w'=>b=decide (x<30)/\w'=w4) ?_ ?_
 ·refine qaa (fun hc=>⟨?_,rfl⟩) (fun hc=>⟨?_,rfl⟩)
  ·have:=of_decide_eq_true hc
   exact decide_eq_decide.2 ⟨fun _=>by omega,fun _=>by omega⟩
  ·have:=of_decide_eq_false hc
   exact (decide_eq_false (by omega)).symm
 rintro b w5 ⟨rfl,rfl⟩
 refine qaa (fun hc=>?_) (fun hc=>?_)
 ·have hx30:x<30:=of_decide_eq_true hc
  refine qae (fun _ w'=>Own [] w w' [(r3,.cells (stA M.roots (toldP D M (x+1))).toArray STT (0,0)),(r1,.cells (stA (zs 24) (List.replicate 48 [])).toArray STT (0,0))]) ?_ ?_
  ·have hxu:U32 (x:Int):=⟨by omega,by omega⟩
   rw [qaE (x:Int) ⟨by omega,by omega⟩]
   refine ql2 (hdisk.frame0 ho4.fr) hlim (hpag.frame0 ho4.fr) (hv.frame0 ho4.fr) hxu (Nat.le_trans hsm.lists (by decide)) hsm.body fun s6 w6 rd6 f6=>?_
   have ho6:=ho4.frame0 f6
   refine qaa (fun hc=>?_) (fun hc=>?_)
   ·have he:(pagerReadM D M x).2.2=0:=by simpa using hc
    have hkd:=qla hlim.ok hW (x:Int)
    refine Own.new' ho6 fun r7 w7 e7 f7 ho7=>?_
    refine qsv (ho7.at (i:=0) rfl) hkd.1 ?_
    refine qaI ((rd6 [] (fun b hb=>nomatch hb)).frame0 f7) (qdn hlim.ok hBy x) ?_
    refine qam ?_ ?_
    ·rw [qan,qan]
     have h1:=hkd.2
     show ((2+(pagerReadM D M x).2.1.length:Nat):Int)<=9223372036854775807
     omega
    refine qam (by omega) ?_
    rw [Int.toNat_natCast,Addr.add_mk,qaR]
    refine Own.st' ho7 1 rfl (stA M.roots (toldP D M (x+1))).toArray ?_ rfl ?_ fun w8 ho8 f8=>ho8.sub (List.sublist_cons_self _ _)
    ·rw [Nat.mul_one,<- qkm hx2 (by omega),toldX,if_pos he]
     exact qsW hr (by rw [qfj]; omega)
    ·rw [List.size_toArray,lP]
     show 24+x*1+1<=72
     omega
   ·have he:(pagerReadM D M x).2.2≠0:=by simpa using hc
    rw [qqO hx2 (by omega) he]
    exact ho6
  rintro _ w6 ho6
  rw [wi' _ (by omega)]
  exact hX2 _ _ ⟨x+1,by simp,by omega,by omega,ho6⟩ (by omega)
 ·have hxe:x=30:=by have:=of_decide_eq_false hc; omega
  subst hxe
  refine qau (ho4.at (i:=0) rfl) (stA M.roots (toldP D M 30)) (lP 30) (by rw [List.drop_zero]; exact List.take_of_length_le (Nat.le_of_eq (lP 30))) ?_
  refine qam (lP 30) ?_
  refine Own.st' ho4 1 rfl (stA M.roots (toldP D M 30)).toArray (qaP (by rw [List.size_toArray,lP]; rfl)) qlL (by rw [lP]; exact Nat.le_of_ble_eq_true rfl) fun w6 ho6 f6=>?_
  refine qau (ho6.at (i:=1) rfl) (stA M.roots (toldP D M 30)) (lP 30) (by rw [List.drop_zero]; exact List.take_of_length_le (Nat.le_of_eq (lP 30))) ?_
  have:=hk w6 ho6.fr
  rw [<- qq7] at this
  exact this
def opZ:Array Value:=#[.int .u8 0,.int .u32 0,.int .u8 0,.slice none 0 0,.int .u16 0,.slice none 0 0]
theorem qt0 (o:OpC):splice opZ 0 (HL.mk opCs o)=opA o:=rfl
section
theorem qof {D:DiskM} {n:Int}:(fuseM D n).safe.length=D.safe.length:=by unfold fuseM; split <;> rfl
theorem qfv {D:DiskM} {n p:Int}:view (fuseM D n) p=view D p:=by unfold fuseM; split <;> rfl
theorem qqN {D:DiskM} {M:PgM} {n x:Int} (hd:D.down=false):toldX (fuseM D n) M x=toldX D M x:=by
 unfold fuseM
 rw [if_neg (by rw [hd]; decide)]
 rfl
theorem qpS {D:DiskM} {s:Sup} {pages numbers:List Int} {n:Int} (h:Opens D s pages numbers):Opens (fuseM D n) s pages numbers:=by
 have hsz:(fuseM D n).size=D.size:=by show ((fuseM D n).safe.length:Int)=D.safe.length; rw [qof]
 refine ⟨?_,by rw [hsz]; exact h.size,by rw [qfv,qfv]; exact h.newest,by rw [hsz]; exact h.blocks,h.list,h.free,by rw [hsz]; exact h.ok,fun i p hp=>?_⟩
 ·unfold fuseM
  rw [if_neg (by rw [h.down]; decide)]
  exact h.down
 ·rw [qfv]; exact h.listed i p hp
theorem qrD {D:DiskM} {n:Int} (h:Made D 30):CInv (fuseM D n) (madeM 30) (toldS D (madeM 30)) [] 0:=by
 have hW:=qlW (n:=30) (by decide) (by decide)
 have hO:=qpS (n:=n) h.opens
 have hd:=h.opens.down
 refine ⟨rfl,?_,?_,hO,hW,qdv _ _ _ _ _,rfl,⟨by decide,by decide⟩,?_,fun b hb=>(nomatch hb),?_⟩
 ·unfold fuseM; split <;> exact h.waits
 ·show ((fuseM D n).safe.length:Int)=30
  rw [qof]
  exact h.size
 ·refine qeH rfl fun x hx=>?_
  rw [qqN hd]
  have hs:D.size=30:=h.size
  exact ql1 (t':=0) (M:=madeM 30) hW (qdv _ _ _ _ _) rfl h.opens rfl rfl (by omega)
 ·intro p p' hp hp' hne
  rw [qfv]
  rcases hp with rfl | rfl
  ·rw [h.zero]; exact qju
  ·intro hr
   have hm:=qbW h.opens.newest
   have h1:(readSV 1 (view D 1)).2=0:=by
    rcases hm with ⟨_,ht,_⟩ | ⟨h1,_,_⟩
    ·exact absurd ht (by decide)
    ·rw [h1]
   exact hne (qg0 hp' (.inr rfl) hr h1)
theorem qrG {d p:Option Addr} (w:World):(Instr.build BTT #[(0,.pointer d),(1,.pointer p)]).run Tryz.prog w=.ok (.agg (bothV d p rvZ none wvZ 0).toArray) w:=by
 obtain ⟨z,hz,hzs⟩:=Option.map_eq_some_iff.1 qsS
 have hzc:z.cells=(bothV none none rvZ none wvZ 0).toArray:=by rw [<- hzs]
 refine qbR (parts:=[(0,.pointer d),(1,.pointer p)]) hz qrw qtA ?_ w
 rw [hzc,qat (o:=0) (s:=1) rfl rfl (by rw [qfY qaJ qev]; decide)]
 have e1:splice (bothV none none rvZ none wvZ 0).toArray 0 (Value.cells (.pointer d)).toList=(bothV d none rvZ none wvZ 0).toArray:=rfl
 rw [e1,qat (o:=1) (s:=1) rfl rfl (by rw [qfY qaJ qev]; decide)]
 rfl
def zeroD:DiskM:=⟨[],[],0,false,0⟩
def zeroM:PgM:=⟨supZero,[],[],0,false,[],[],[],zs 24⟩
theorem qsm:zeroD.Ok:=⟨fun _ h=>(nomatch h),⟨by decide,by decide⟩,by decide,by decide,⟨by decide,by decide⟩,fun _ h=>(nomatch h),fun _ h=>(nomatch h)⟩
theorem qo9:zeroM.Small:=⟨by decide,by decide,by decide,by decide,.nil,.nil,fun _ h=>(nomatch h),fun _ h=>(nomatch h)⟩
theorem qtm {S:List Nat} {w:World}:RP S w rvZ zeroD zeroM:=
 ⟨⟨.nil _ _ _ _,.nil _ _ _ _,rfl,rfl,rfl⟩,rfl,.nil _ _ _ _,.nil _ _ _ _,rfl,rfl,.nil _ _ _ _,.nil _ _ _ _,.nil _ _ _ _,rfl,qaJ⟩
theorem qih {D:DiskM} (hd:D.down=false) (hs:2<=D.size):sups D 2=[view D 0,view D 1]:=by
 show []++[(readV D ((0:Nat):Int)).1]++[(readV D ((1:Nat):Int)).1]=_
 rw [qbB hd (by omega),qbB hd (by omega)]
 rfl
theorem qjy {D:DiskM} (hD:D.Ok):∀ p,∀ l∈sups D p,IsB l
 | 0,l,h=>nomatch h
 | p+1,l,h=>(List.mem_append.1 h).elim (qjy hD p l) fun h=>by rw [List.mem_singleton.1 h]; exact (qaG hD p).1
theorem qgP (D:DiskM):∀ p,(sups D p).length=p
 | 0=>rfl
 | p+1=>by rw [sups,List.length_append,qgP D p]; rfl
theorem qhP {D:DiskM} {M:PgM} (hr:M.roots.length=24):(toldS D M).1.length=24/\(toldS D M).2.length=48:=⟨hr,by rw [toldS]; simp⟩
theorem qgk {w:World} {b:Nat} {R:List Int} {P:List (List Int)} {K:List Value->Prop} (h:w.heap[b]?=some (.cells (stA R P).toArray STT (0,0))) (hR:R.length=24) (hP:P.length=48) (k:K (stA R P)):ldV 72 ⟨b,0,none⟩ w K:=
 qau h (stA R P) (qbF hR hP) (by rw [List.drop_zero]; exact List.take_of_length_le (Nat.le_of_eq (qbF hR hP))) k
theorem qgK {w:World} {R:List Int} {P:List (List Int)} {K:Nat->World->Prop} (hR:R.length=24) (hP:P.length=48)
  (k:∀ r w',r=w.heap.size->w'.heap[r]?=some (.cells (stA R P).toArray STT (0,0))->Fr [] w w'->K r w') :
  newZ Tryz.prog STT w fun r w1=>chk ((stA R P).length=72)<|st ⟨r,0,none⟩ (stA R P) w1 fun w2=>K r w2:=by
 have l72:=qbF hR hP
 refine Own.newZ (Own.start [] w) stZ fun r w1 e1 ho=>?_
 refine qam l72 ?_
 refine Own.st' ho 0 rfl (stA R P).toArray (qaP (by rw [List.size_toArray,l72]; rfl)) qlL (by rw [l72]; exact Nat.le_of_ble_eq_true rfl) fun w2 ho2 f2=>?_
 exact k r w2 e1 (ho2.at (i:=0) rfl) ho2.fr
structure CrI (w0:World) (dbk pb r13:Nat) (FD B F:List Nat) (D:DiskM) (M:PgM) (last:List Int×List (List Int)) (S:List (List Int)) (i:Nat) (s:Sl) (w:World):Prop where
 disk:DiskAt w dbk FD D
 lim:Lim D (5000+5000*i)
 pager:PagerAt w (r13::(B++FD)) pb (dbOf dbk M) F M
 cell:w.heap[r13]?=some (.cells (stA last.1 last.2).toArray STT (0,0))
 llen:last.1.length=24/\last.2.length=48
 buf:Buf encT 1 w s S B
 bytes:∀ l∈S,IsB l
 slen:S.length<=2*i
 nF:r13∉FD
 nB:r13∉B
 apart:∀ b∈B,b∉FD
 cinv:CInv D M last S i
 turn:0<=M.turn/\M.turn<=1+i
 fr:Fr [] w0 w
 new:∀ b∈(r13::(B++FD))++F,w0.heap.size<=b
section
variable {w0 w w':World} {dbk pb r13:Nat} {FD B F:List Nat} {D:DiskM} {M:PgM} {last:List Int×List (List Int)} {S:List (List Int)} {i:Nat} {s:Sl}
theorem CrI.frame0 (h:CrI w0 dbk pb r13 FD B F D M last S i s w) (f:Fr [] w w'):CrI w0 dbk pb r13 FD B F D M last S i s w':=
 ⟨h.disk.frame0 f,h.lim,h.pager.frame0 f,by rw [f.block r13 (qab h.cell) (by simp)]; exact h.cell,h.llen,h.buf.frame0 f,h.bytes,h.slen,h.nF,h.nB,h.apart,h.cinv,h.turn,h.fr.trans f,h.new⟩
theorem CrI.skip (h:CrI w0 dbk pb r13 FD B F D M last S i s w) (f:Fr [] w w'):CrI w0 dbk pb r13 FD B F D M last S (i+1) s w':=by
 have h':=h.frame0 f
 have:=h.turn
 have:=h.slen
 exact ⟨h'.disk,h'.lim.mono (by omega),h'.pager,h'.cell,h'.llen,h'.buf,h'.bytes,by omega,h'.nF,h'.nB,h'.apart,h'.cinv.skip,by omega,h'.fr,h'.new⟩
end
theorem qmL {w:World} {so sl:Sl} {fuse:Int} {los:List OpC} {ls:List (Int×Int)} {K:Bool->World->Prop} (hv:Hv w) (hfu:0<=fuse/\fuse<256) (hso:Rds (HL.mk opCs) 6 [] w so los) (hoo:∀ o∈los,∃ a,OpOk [] w o a) (hsl:Rds encLoss 2 [] w sl ls) (hk:∀ w',Fr [] w w'->K true w') :
  call Tryz.prog 4 [.slice so.a so.len so.cap,.int .u8 fuse,.slice sl.a sl.len sl.cap] [.one .bool] w K:=by
 refine qdQ (ops:=so) (l:=sl) ?_
 unfold qbO
 have hls:=hso.1
 have hlsl:=hsl.1
 refine qae (fun b w'=>b=decide (los.length>60\/ls.length>200)/\w'=w) ?_ ?_
 ·rw [hls,hlsl]
  refine qaa (fun hc=>⟨by rw [decide_eq_true (Or.inl (by have:=of_decide_eq_true hc; omega))],rfl⟩) (fun hc=>⟨?_,rfl⟩)
  have:=of_decide_eq_false hc
  exact decide_eq_decide.2 ⟨fun h=>.inr (by omega),fun h=>by omega⟩
 rintro b w1 ⟨rfl,rfl⟩
 refine qaa (fun hc=>qef hv fun w2 f2=>hk w2 f2) (fun hc=>?_)
 have hlens:=of_decide_eq_false hc
 refine qnT (n:=30) [] (fun b hb=>nomatch hb) hv (by decide) (by decide) fun dbk pb FD F D w2 hdk hlm hpg hM f2 n2=>?_
 refine qae (fun b w'=>b=false/\w'=w2) (cond_false rfl ⟨rfl,rfl⟩) ?_
 rintro b w3 ⟨rfl,rfl⟩
 refine cond_false rfl ?_
 have hvl:=hv.lt
 refine qlT hdk hlm hpg (hv.frame0 f2) (qlW (by decide) (by decide)) fun w4 f4=>?_
 have hl0:=qhP (D:=D) (M:=madeM 30) rfl
 refine qgK hl0.1 hl0.2 fun r13 w5 e5 hc5 f5=>?_
 have f25:Fr [] w3 w5:=f4.trans f5
 have hnF:∀ b∈FD++F,b<r13:=fun b hb=>by
  have:b<w3.heap.size:=(List.mem_append.1 hb).elim (hdk.lt b) (hpg.lt b)
  have:=f4.size
  omega
 have hg0:HG∉FD:=fun hm=>by have:=n2 HG (List.mem_append_left _ hm); omega
 rw [wi' fuse (by omega)]
 refine qsH (hdk.frame0 f25) fun w6 hdk6 f6=>?_
 have hdm:=hdk.mem
 have hr13:w1.heap.size<=r13:=by have:=f2.size; have:=f4.size; omega
 have hdne:dbk≠r13:=fun e=>by have:=hnF dbk (List.mem_append_left _ hdm); omega
 have h0:CrI w1 dbk pb r13 FD [] F (fuseM D fuse) (madeM 30) (toldS D (madeM 30)) [] 0 ⟨none,0,0⟩ w6:=by
  refine ⟨hdk6,hlm.fuse (by omega),?_,by rw [f6.block r13 (qab hc5) (by simpa using fun e=>hdne e.symm)]; exact hc5,hl0,.nil _ _ _,fun _ h=>(nomatch h),by simp,fun hm=>by have:=hnF r13 (List.mem_append_left _ hm); omega,by simp,by simp,qrD hM,⟨by decide,by decide⟩,(f2.trans f25).trans' f6 fun b hb=>?_,fun b hb=>?_⟩
  ·refine ((hpg.frame0 f4).frameX (X':=r13::([]++FD)) (f5.mono fun b hb=>nomatch hb) (fun b hb=>?_) fun b hb=>?_).frameX (f6.mono fun b hb _=>?_) (fun b hb=>?_) fun b hb=>.inl hb
   ·exact (List.mem_cons.1 hb).elim (fun e=>by rw [e]; exact qab hc5) fun hb=>Nat.lt_of_lt_of_le (hdk.lt b hb) f25.size
   ·exact (List.mem_cons.1 hb).elim (fun e=>.inr (by omega)) fun hb=>.inl (List.mem_append_left _ hb)
   ·rw [List.mem_singleton.1 hb]; exact List.mem_cons_of_mem _ hdm
   ·refine Nat.lt_of_lt_of_le ?_ f6.size
    exact (List.mem_cons.1 hb).elim (fun e=>by rw [e]; exact qab hc5) fun hb=>Nat.lt_of_lt_of_le (hdk.lt b hb) f25.size
  ·rw [List.mem_singleton.1 hb]; exact .inr (n2 dbk (List.mem_append_left _ hdm))
  ·rcases List.mem_append.1 hb with hb | hb
   ·exact (List.mem_cons.1 hb).elim (fun e=>by omega) fun hb=>n2 b (List.mem_append_left _ hb)
   ·exact n2 b (List.mem_append_right _ hb)
 clear hdk hlm hpg hM n2 hl0 hc5 hnF hg0 hdk6 hdm hdne f25 f6 f5 f4 f2 hc e5
 refine qag (fun t w'=>∃ (i:Nat) (FD B F:List Nat) (D:DiskM) (M:PgM) (last:List Int×List (List Int)) (S:List (List Int)),t.2=i/\i<=los.length/\CrI w1 dbk pb r13 FD B F D M last S i t.1 w') (fun t _=>((los.length:Int)-t.2).toNat)
  ⟨0,_,_,_,_,_,_,_,rfl,by omega,h0⟩ ?_
 clear h0
 rintro ⟨s,y⟩ w7 ⟨i,FD,B,F,D,M,last,S,e,hi,h⟩ X hX
 obtain rfl:y=i:=e
 dsimp only at h ⊢
 rw [hls]
 refine qaa (fun hc=>?_) (fun hc=>qef (hv.frame0 h.fr) fun w8 f8=>hk w8 (h.fr.trans f8))
 have hil:i<los.length:=by have:=of_decide_eq_true hc; omega
 obtain ⟨a,ha⟩:=hoo los[i] (List.getElem_mem hil)
 refine qae (fun s' w'=>∃ (FD B F:List Nat) (D:DiskM) (M:PgM) (last:List Int×List (List Int)) (S:List (List Int)),CrI w1 dbk pb r13 FD B F D M last S (i+1) s' w') ?_ ?_
 rotate_left
 ·rintro s' w8 ⟨FD,B,F,D,M,last,S,h8⟩
  rw [wi' _ (by omega)]
  exact hX _ _ ⟨i+1,FD,B,F,D,M,last,S,by simp,by omega,h8⟩ (by dsimp only; omega)
 clear hX X
 refine Rds.getA (hso.frame0 h.fr) i (cl:=opCs) rfl (List.getElem?_eq_getElem hil) rfl (y:=los[i]) rfl ?_
 refine Own.newSt (Own.start [] w7) (cs':=opA los[i]) (qt0 _) rfl (Nat.le_of_ble_eq_true rfl) fun r24 w8 e8 ho8 f8=>?_
 have e1:los[i].2.2.2.1.len=a.body.length:=ha.body.1
 refine Own.ld (c:=.slice) ho8 0 rfl los[i].2.2.2.1 rfl ?_
 rw [e1]
 refine qaa (fun hc=>⟨_,_,_,_,_,_,_,h.skip f8⟩) (fun hc=>?_)
 have hl600:a.body.length<=600:=by have:=of_decide_eq_false hc; omega
 refine qaB (ts:=[Ty1.raw]) (bothV (some ⟨dbk,0,none⟩) (some ⟨pb,0,none⟩) rvZ none wvZ 0) (qrG _) ?_
 have l95:=qri (d:=some ⟨dbk,0,none⟩) (p:=some ⟨pb,0,none⟩) (m:=none) (t:=0) qaJ qev
 refine Own.newZ (Own.start [] w8) qsS fun bb w9 e9 ho9=>?_
 refine qam l95 ?_
 refine Own.st' ho9 0 rfl (bothV (some ⟨dbk,0,none⟩) (some ⟨pb,0,none⟩) rvZ none wvZ 0).toArray (qaP (by rw [qfY qaJ qev,l95])) (qtI qpE) (by rw [qfY qaJ qev,l95]; exact Nat.le_of_ble_eq_true rfl) fun w10 ho10 f10=>?_
 have f810:Fr [] w8 w10:=ho10.fr
 have f710:Fr [] w7 w10:=f8.trans f810
 have hop8:w10.heap[r24]?=some (.cells (opA los[i]) OPT (0,0)):=by rw [f810.block r24 (qab (ho8.at (i:=0) rfl)) (by simp)]; exact ho8.at (i:=0) rfl
 have h10:=h.frame0 f710
 have hcb:=ho10.at (i:=0) rfl
 have hbbl:w8.heap.size<=bb:=by omega
 have hsz8:=f8.size
 have hsz0:=h.fr.size
 have h7lt:∀ b∈(r13::(B++FD))++F,b<w7.heap.size:=fun b hb=>(List.mem_append.1 hb).elim (h.pager.xlt b) (h.pager.lt b)
 have hbn:bb∉(r13::(B++FD))++F:=fun hm=>by have:=h7lt bb hm; omega
 have hvw:Hv w10:=hv.frame0 h10.fr
 have hgn:HG∉FD:=fun hm=>by have:=h.new HG (List.mem_append_left _ (List.mem_cons_of_mem _ (List.mem_append_right _ hm))); omega
 clear ho9 ho10 f10 l95
 refine qaf (c:=.int .u8) hop8 los[i].1 rfl ?_
 rw [ha.act,Int.tmod_eq_emod_of_nonneg ha.ract.1]
 refine qaa (fun hc=>?_) (fun hc=>?_)
 ·-- an operation on pages
  refine qlx (cl:=opCs) hop8 los[i] rfl ?_
  have hX1:∀ b∈bb::(r13::(B++FD)),b<w10.heap.size:=fun b hb=>(List.mem_cons.1 hb).elim (fun e=>by rw [e]; exact qab hcb) (h10.pager.xlt b)
  have hP:Pair w10 bb dbk pb FD (bb::(r13::(B++FD))) F rvZ D M zeroD zeroM (5000+5000*i) none wvZ 0:=
   ⟨hcb,h10.disk,h10.lim,(h.pager.frameX (f710.mono fun b hb=>nomatch hb) hX1 fun b hb=>(List.mem_cons.1 hb).elim (fun e=>.inr (by omega)) .inl),fun b hb=>List.mem_cons_of_mem _ (List.mem_cons_of_mem _ (List.mem_append_right _ hb)),by simp,fun hm=>hbn (List.mem_append_left _ (List.mem_cons_of_mem _ (List.mem_append_right _ hm))),qtm,qev,qpE⟩
  have hop:OpOk ((bb::(r13::(B++FD)))++F) w10 los[i] a:=ha.frame h10.fr fun b hb=>(List.mem_cons.1 hb).elim (fun e=>.inr (by omega)) fun hb=>.inr (h.new b hb)
  refine qsY hP h.cinv.wf.small qo9 qsm hvw hop hl600 fun F2 x2 w11 hP2 f11 n11=>?_
  have eM:(pageM D zeroD M zeroM a).2.1=pageA D M a:=qmm ..
  rw [eM] at hP2
  have hsep:∀ b∈r13::(B++FD),b∉bb::F:=fun b hb hm=>(List.mem_cons.1 hm).elim (fun e=>hbn (by rw [<- e]; exact List.mem_append_left _ hb)) (h.pager.sep b hb)
  have hr2:=hP2.pager.lens.2
  obtain ⟨_,_,_,_,ht5⟩:=qmi D M a
  have htn:=h.turn
  have hsln:=h.slen
  refine ⟨FD,B,F2,D,pageA D M a,last,S,hP2.disk,h.lim.mono (by omega),hP2.pager.weakX fun b hb=>List.mem_cons_of_mem _ hb,by rw [f11.block r13 (qab h10.cell) (hsep r13 (by simp))]; exact h10.cell,h.llen,h10.buf.frame f11 fun b hb=>hsep b (List.mem_cons_of_mem _ (List.mem_append_left _ hb)),h.bytes,by omega,h.nF,h.nB,h.apart,h.cinv.page ha.rn ha.rkind ha.rlong ha.rbody hr2,by rw [ht5]; omega,h10.fr.trans' f11 fun b hb=>?_,fun b hb=>?_⟩
  ·exact (List.mem_cons.1 hb).elim (fun e=>.inr (by omega)) fun hb=>.inr (h.new b (List.mem_append_right _ hb))
  ·rcases List.mem_append.1 hb with hb | hb
   ·exact h.new b (List.mem_append_left _ hb)
   ·have:=h10.fr.size
    exact (n11 b hb).elim (fun hb=>h.new b (List.mem_append_right _ hb)) fun h'=>by omega
 have hD:=h.lim.ok
 have hsz30:=h.cinv.size
 have hdn:=h.cinv.opens.down
 have hsln:=h.slen
 have htn:=h.turn
 refine qag (fun t w'=>∃ (p:Nat) (B2:List Nat),t.2=p/\p<=2/\Buf encT 1 w' t.1 (S++sups D p) B2/\Fr B w10 w'/\∀ b∈B2,b∈B\/w10.heap.size<=b) (fun t _=>((2:Int)-t.2).toNat)
  ⟨0,B,rfl,by omega,by rw [sups,List.append_nil]; exact h10.buf,.refl _ _,fun b hb=>.inl hb⟩ ?_
 rintro ⟨s2,y⟩ w11 ⟨p,B2,e,hp,hb2,f11,n11⟩ Y hY
 obtain rfl:y=p:=e
 dsimp only at hb2 ⊢
 have hd11:DiskAt w11 dbk FD D:=h10.disk.frame f11 fun b hb hm=>h.apart b hm hb
 refine qaa (fun hc=>?_) (fun hc=>?_)
 ·have hp2:p<2:=by have:=of_decide_eq_true hc; omega
  refine qdi hd11 hD fun s3 B3 w12 b3 f12 n12=>?_
  refine qaI (b3.rds qak (S:=[]) (by simp)) (qaG hD p).1 ?_
  have hsl:=qgP D p
  refine qsR (hb2.frame0 f12) (by rw [List.length_append]; omega) fun s4 B4 w13 b4 f13 n13=>?_
  rw [wi' _ (by omega)]
  have f112:Fr B w10 w12:=f11.trans (f12.mono fun b hb=>nomatch hb)
  refine hY _ _ ⟨p+1,B4,by simp,by omega,by rw [sups,<- List.append_assoc]; exact b4,f112.trans' f13 n11,fun b hb=>?_⟩ (by dsimp only; omega)
  exact (n13 b hb).elim (n11 b) fun h'=>.inr (by have:=f112.size; omega)
 have hpe:p=2:=by have:=of_decide_eq_false hc; omega
 subst hpe
 clear hY Y
 have hB2F:∀ b∈B2,b∉FD:=fun b hb hm=>(n11 b hb).elim (fun hb=>h.apart b hb hm) fun h'=>by have:=h10.disk.lt b hm; omega
 have hr13B2:r13∉B2:=fun hm=>(n11 r13 hm).elim h.nB fun h'=>by have:=qab h10.cell; omega
 have hc11:w11.heap[r13]?=some (.cells (stA last.1 last.2).toArray STT (0,0)):=by rw [f11.block r13 (qab h10.cell) h.nB]; exact h10.cell
 have hX2:∀ b∈r13::(B2++FD),b<w11.heap.size:=fun b hb=>(List.mem_cons.1 hb).elim (fun e=>by rw [e]; exact qab hc11) fun hb=>(List.mem_append.1 hb).elim (hb2.lt b) (hd11.lt b)
 have hp11:PagerAt w11 (r13::(B2++FD)) pb (dbOf dbk M) F M:=h10.pager.frameX (f11.mono fun b hb _=>List.mem_cons_of_mem _ (List.mem_append_left _ hb)) hX2 fun b hb=>(List.mem_cons.1 hb).elim (fun e=>.inl (by rw [e]; simp)) fun hb=>(List.mem_append.1 hb).elim (fun hb=>(n11 b hb).imp (fun hb=>List.mem_cons_of_mem _ (List.mem_append_left _ hb)) id) fun hb=>.inl (List.mem_cons_of_mem _ (List.mem_append_right _ hb))
 have hF11:∀ b∈F,b∉r13::(B2++FD):=fun b hb hm=>hp11.sep b hm hb
 have fw11:Fr [] w1 w11:=h10.fr.trans' f11 fun b hb=>.inr (h.new b (List.mem_append_left _ (List.mem_cons_of_mem _ (List.mem_append_left _ hb))))
 have new11:∀ b∈r13::(B2++FD),w1.heap.size<=b:=fun b hb=>(List.mem_cons.1 hb).elim (fun e=>by omega) fun hb=>(List.mem_append.1 hb).elim (fun hb=>(n11 b hb).elim (fun hb=>h.new b (List.mem_append_left _ (List.mem_cons_of_mem _ (List.mem_append_left _ hb)))) fun h'=>by have:=h10.fr.size; omega) fun hb=>h.new b (List.mem_append_left _ (List.mem_cons_of_mem _ (List.mem_append_right _ hb)))
 rw [qih hdn (by omega)] at hb2
 refine qlT hd11 h.lim hp11 (hv.frame0 fw11) h.cinv.wf fun w12 f12=>?_
 have hl1:=qhP (D:=D) h.cinv.roots
 refine qgK hl1.1 hl1.2 fun r50 w13 e13 hc50 f13=>?_
 have f1113:Fr [] w11 w13:=f12.trans f13
 have hr50:w11.heap.size<=r50:=by have:=f12.size; omega
 have hd13:=hd11.frame0 f1113
 have hp13:=hp11.frame0 f1113
 have hv13:Hv w13:=hv.frame0 (fw11.trans f1113)
 refine qjb hd13 h.lim hp13 (fun b hb=>List.mem_cons_of_mem _ (List.mem_append_right _ hb)) h.cinv.wf (by omega) (by omega) hv13 hgn fun FD2 F2 w14 hd14 hlm14 hp14 ht14=>?_
 have f14:Fr (FD++F) w13 w14:=ht14.1
 have n14:=ht14.2
 have hr2:=hp14.lens.2
 have hs1113:=f1113.size
 have hc13:w13.heap[r13]?=some (.cells (stA last.1 last.2).toArray STT (0,0)):=by rw [f1113.block r13 (qab hc11) (by simp)]; exact hc11
 have hr13n:r13∉FD++F:=fun hm=>(List.mem_append.1 hm).elim h.nF (hp11.sep r13 (by simp))
 have hc14:w14.heap[r13]?=some (.cells (stA last.1 last.2).toArray STT (0,0)):=by rw [f14.block r13 (qab hc13) hr13n]; exact hc13
 have hr50n:r50∉FD++F:=fun hm=>by
  have:r50<w11.heap.size:=(List.mem_append.1 hm).elim (hd11.lt r50) (hp11.lt r50)
  omega
 have hc50':w14.heap[r50]?=some (.cells (stA (toldS D M).1 (toldS D M).2).toArray STT (0,0)):=by rw [f14.block r50 (qab hc50) hr50n]; exact hc50
 have hb14:Buf encT 1 w14 s2 (S++[view D 0,view D 1]) B2:=(hb2.frame0 f1113).frame f14 fun b hb hm=>(List.mem_append.1 hm).elim (hB2F b hb) (hp11.sep b (List.mem_cons_of_mem _ (List.mem_append_left _ hb)))
 have fw14:Fr [] w1 w14:=(fw11.trans f1113).trans' f14 fun b hb=>.inr ((List.mem_append.1 hb).elim (fun hb=>new11 b (List.mem_cons_of_mem _ (List.mem_append_right _ hb))) fun hb=>h.new b (List.mem_append_right _ hb))
 have new14:∀ b∈FD2++F2,w1.heap.size<=b:=fun b hb=>(n14 b hb).elim (fun hb=>(List.mem_append.1 hb).elim (fun hb=>new11 b (List.mem_cons_of_mem _ (List.mem_append_right _ hb))) fun hb=>h.new b (List.mem_append_right _ hb)) fun h'=>by have:=(fw11.trans f1113).size; omega
 have hFD2:∀ b,b<w13.heap.size->b∉FD->b∉F->b∉FD2:=fun b hlt h1 h2 hm=>(n14 b (List.mem_append_left _ hm)).elim (fun hm=>(List.mem_append.1 hm).elim h1 h2) fun h'=>by omega
 have hr13F2:r13∉FD2:=hFD2 r13 (qab hc13) h.nF (hp11.sep r13 (by simp))
 have hB2F2:∀ b∈B2,b∉FD2:=fun b hb=>hFD2 b (Nat.lt_of_lt_of_le (hb2.lt b hb) hs1113) (hB2F b hb) (hp11.sep b (List.mem_cons_of_mem _ (List.mem_append_left _ hb)))
 have hS2B:∀ l∈S++[view D 0,view D 1],IsB l:=fun l hl=>by
  rcases List.mem_append.1 hl with hl | hl
  ·exact h.bytes l hl
  ·rw [<- qih hdn (by omega)] at hl
   exact qjy hD 2 l hl
 have hcs:=h.cinv.cases (by omega)
 have htn2:(commitM D M).2≠7->0<=(commitM D M).1.2.turn/\(commitM D M).1.2.turn<=1+((i+1:Nat):Int):=fun h7=>by
  rcases hcs with ⟨e,_⟩ | e | ⟨pages,named,_,⟨_,e⟩ | ⟨_,e⟩⟩
  ·rw [e]; dsimp only; omega
  ·rw [e]; dsimp only; omega
  ·rw [e]; show 0<=M.turn+1/\M.turn+1<=_; omega
  ·rw [e] at h7; exact absurd rfl h7
 refine qae (fun _ w'=>w'.heap[r13]?=some (.cells (stA (if (commitM D M).2=0 then toldS D M else last).1 (if (commitM D M).2=0 then toldS D M else last).2).toArray STT (0,0))/\Fr [r13] w14 w') ?_ ?_
 ·refine qaa (fun hc=>?_) (fun hc=>?_)
  ·have he:(commitM D M).2=0:=by simpa using hc
   refine qgk hc50' hl1.1 hl1.2 ?_
   have l72:=qbF hl1.1 hl1.2
   refine qam l72 ?_
   refine qce hc14 (stA (toldS D M).1 (toldS D M).2).toArray (qaP (by rw [List.size_toArray,l72,qbF h.llen.1 h.llen.2])) qlL (by rw [List.size_toArray,qbF h.llen.1 h.llen.2,l72]; exact Nat.le_of_ble_eq_true rfl) fun w15 hc15 f15=>?_
   exact ⟨by rw [if_pos he]; exact hc15,f15⟩
  ·have he:¬ (commitM D M).2=0:=by simpa using hc
   exact ⟨by rw [if_neg he]; exact hc14,.refl _ _⟩
 rintro _ w15 ⟨hc15,f15⟩
 have hX14:∀ b∈r13::(B2++FD2),b∈FD2++(r13::(B2++FD)):=fun b hb=>(List.mem_cons.1 hb).elim (fun e=>by rw [e]; simp) fun hb=>(List.mem_append.1 hb).elim (fun hb=>List.mem_append_right _ (List.mem_cons_of_mem _ (List.mem_append_left _ hb))) fun hb=>List.mem_append_left _ hb
 have hp15:PagerAt w15 (r13::(B2++FD2)) pb (dbOf dbk (commitM D M).1.2) F2 (commitM D M).1.2:=by
  have:=hp14.weakX hX14
  exact this.frameX (f15.mono fun b hb _=>by rw [List.mem_singleton.1 hb]; simp) (fun b hb=>Nat.lt_of_lt_of_le (this.xlt b hb) f15.size) fun b hb=>.inl hb
 have hd15:DiskAt w15 dbk FD2 (commitM D M).1.1:=hd14.frame f15 fun b hb hm=>hr13F2 (by rw [<- List.mem_singleton.1 hm]; exact hb)
 have hb15:Buf encT 1 w15 s2 (S++[view D 0,view D 1]) B2:=hb14.frame f15 fun b hb hm=>hr13B2 (by rw [<- List.mem_singleton.1 hm]; exact hb)
 have fw15:Fr [] w1 w15:=fw14.trans' f15 fun b hb=>by rw [List.mem_singleton.1 hb]; exact .inr hr13
 have hlen2:(S++[view D 0,view D 1]).length=S.length+2:=by simp
 refine qaa (fun hc=>?_) (fun hc=>?_)
 ·-- on it goes
  have h7:¬ (commitM D M).2=7:=by simpa using hc
  have hci:CInv (commitM D M).1.1 (commitM D M).1.2 (if (commitM D M).2=0 then toldS D M else last) (S++[view D 0,view D 1]) (i+1):=by
   by_cases he:(commitM D M).2=0
   ·rw [if_pos he]
    exact h.cinv.done (by omega) he hr2
   ·rw [if_neg he]
    rcases hcs with ⟨e,_⟩ | e | ⟨pages,named,_,⟨_,e⟩ | ⟨_,e⟩⟩
    ·rw [e] at he; exact absurd rfl he
    ·rw [e]; exact h.cinv.more
    ·rw [e] at he; exact absurd rfl he
    ·rw [e] at h7; exact absurd rfl h7
  refine ⟨FD2,B2,F2,_,_,_,_,hd15,hlm14.mono (by omega),hp15,hc15,?_,hb15,hS2B,by omega,hr13F2,hr13B2,hB2F2,hci,htn2 h7,fw15,fun b hb=>?_⟩
  ·split
   ·exact hl1
   ·exact h.llen
  ·rcases List.mem_append.1 hb with hb | hb
   ·exact (List.mem_cons.1 hb).elim (fun e=>by omega) fun hb=>(List.mem_append.1 hb).elim (fun hb=>new11 b (List.mem_cons_of_mem _ (List.mem_append_left _ hb))) fun hb=>new14 b (List.mem_append_left _ hb)
   ·exact new14 b (List.mem_append_right _ hb)
 have h7:(commitM D M).2=7:=by simpa using hc
 rw [if_neg (by rw [h7]; decide)] at hc15
 have hr50ne:r50≠r13:=fun e=>by have:=qab hc11; omega
 have hc50'':w15.heap[r50]?=some (.cells (stA (toldS D M).1 (toldS D M).2).toArray STT (0,0)):=by rw [f15.block r50 (qab hc50') (by simpa using hr50ne)]; exact hc50'
 refine qgk hc50'' hl1.1 hl1.2 ?_
 refine qgK hl1.1 hl1.2 fun r61 w16 e16 hc61 f16=>?_
 have hd16:=hd15.frame0 f16
 have hb16:=hb15.frame0 f16
 have hc16:w16.heap[r13]?=some (.cells (stA last.1 last.2).toArray STT (0,0)):=by rw [f16.block r13 (qab hc15) (by simp)]; exact hc15
 have hsf:(commitM D M).1.1.safe.length=30:=by
  have:(commitM D M).1.1.size=D.size:=by
   rcases hcs with ⟨e,_⟩ | e | ⟨pages,named,_,⟨_,e⟩ | ⟨_,e⟩⟩
   ·rw [e]
   ·rw [e]
   ·rw [e]; show ((flushM D M.fresh pages named (nextS M pages named)).1.safe.length:Int)=D.safe.length; rw [qeq]
   ·rw [e]; show ((flushM D M.fresh pages named (nextS M pages named)).1.safe.length:Int)=D.safe.length; rw [qeq]
  have h2:(commitM D M).1.1.size=((commitM D M).1.1.safe.length:Int):=rfl
  omega
 refine qrt hd16 hlm14 (by omega) fun s17 B17 w17 b17 f17 n17=>?_
 have hDc:=hlm14.ok
 generalize hDw:crashM (commitM D M).1.1 (List.replicate (commitM D M).1.1.waits.length (0,512))=Dw at b17
 have hDwk:Dw.Ok:=by rw [<- hDw]; exact hlm14.crash.ok
 have hsw:sups Dw 2=[view (commitM D M).1.1 0,view (commitM D M).1.1 1]:=by
  have hszw:Dw.size=30:=by rw [<- hDw]; show (((commitM D M).1.1.waits.zip _).foldl crashStep (commitM D M).1.1.safe).length=(30:Int); rw [qb3,hsf]; rfl
  rw [qih (by rw [<- hDw]; rfl) (by omega),<- hDw]
  have hats:Ats (commitM D M).1.1:=hDc.at_
  have hsz:(commitM D M).1.1.size=30:=by show ((commitM D M).1.1.safe.length:Int)=30; omega
  rw [qkQ hats (Nat.le_refl _) (by omega),qkQ hats (Nat.le_refl _) (by omega)]
 obtain ⟨iS,hiS,⟨zS,hzS,hzzS⟩,hsS,hbS⟩:=qsT
 have hs1617:w16.heap.size<=w17.heap.size:=f17.size
 refine Buf.appSrc (ys:=sups Dw 2) (hb16.frame0 f17) qeU (by kernel_rfl) hiS hzS hsS hzzS (qge (e':=9) (b17.rds qeU (S:=[]) (by simp)) qeU (fun x u hu=>by rw [List.mem_singleton.1 hu]; rfl) (by kernel_rfl)) b17.len (by rw [hbS,b17.len,qgP]; omega) (by rw [b17.len,qgP]; omega) fun s18 B18 w18 b18 f18 n18 _=>?_
 have hB218:∀ b∈B18,b∉FD2:=fun b hb hm=>(n18 b hb).elim (fun hb=>hB2F2 b hb hm) fun h'=>by have:=hd16.lt b hm; omega
 have hd17:=hd16.frame0 f17
 have hd18:DiskAt w18 dbk FD2 (commitM D M).1.1:=hd17.frame f18 fun b hb hm=>hB2F2 b hm hb
 have fw17:Fr [] w1 w17:=(fw15.trans f16).trans f17
 have fw18:Fr [] w1 w18:=fw17.trans' f18 fun b hb=>.inr (new11 b (List.mem_cons_of_mem _ (List.mem_append_left _ hb)))
 have f1618:Fr B2 w16 w18:=(f17.mono fun b hb=>nomatch hb).trans f18
 have hn2:∀ b∈FD2,w1.heap.size<=b:=fun b hb=>new14 b (List.mem_append_left _ hb)
 have hrl:Rds encLoss 2 FD2 w18 sl ls:=hsl.frame fw18 fun b hb=>.inr (hn2 b hb)
 refine qrM hd18 hDc hrl fun FD3 w19 hd19 f19 n19=>?_
 have hlm19:=hlm14.crash (ls:=ls)
 have hb19:=b18.frame f19 hB218
 rw [hsw] at hb19
 have fw19:Fr [] w1 w19:=fw18.trans' f19 fun b hb=>.inr (hn2 b hb)
 have hd3:(crashM (commitM D M).1.1 ls).down=false:=rfl
 have hs3:(crashM (commitM D M).1.1 ls).size=30:=by show (((commitM D M).1.1.waits.zip _).foldl crashStep (commitM D M).1.1.safe).length=(30:Int); rw [qb3,hsf]; rfl
 have hS3B:∀ l∈(S++[view D 0,view D 1])++[view (commitM D M).1.1 0,view (commitM D M).1.1 1],IsB l:=fun l hl=>by
  rcases List.mem_append.1 hl with hl | hl
  ·exact hS2B l hl
  ·rw [<- hsw] at hl
   exact qjy hDwk 2 l hl
 refine qsZ (S:=[]) hd19 hlm19 (hb19.rds qeU (by simp)) hS3B (by rw [List.length_append,hlen2]; show _+2<=_; omega) fun bt w20 hbt f20=>?_
 have fw20:=fw19.trans f20
 refine qaa (fun hc=>qef (hv.frame0 fw20) fun w21 f21=>hk w21 (fw20.trans f21)) (fun hc=>?_)
 have ht:=hbt hc
 obtain ⟨M3,hO3,hq3,ht3⟩:=h.cinv.fall (by omega) h7 (ls:=ls) (S2:=(S++[view D 0,view D 1])++[view (commitM D M).1.1 0,view (commitM D M).1.1 1]) (fun b hb=>by
  rcases List.mem_append.1 hb with hb | hb
  ·exact .inl hb
  ·simp only [List.mem_cons,List.not_mem_nil,or_false] at hb
   rcases hb with rfl | rfl
   ·exact .inr ⟨0,.inl rfl,rfl⟩
   ·exact .inr ⟨1,.inr rfl,rfl⟩) (fun p hp hr=>by
  have e:(readV (crashM (commitM D M).1.1 ls) p).1=view (crashM (commitM D M).1.1 ls) p:=by rw [qbB hd3 (by omega)]
  have:=ht p hp
  rw [e] at this
  exact this hr)
 have hd20:=hd19.frame0 f20
 have hv20:Hv w20:=hv.frame0 fw20
 refine qmE [] (fun b hb=>nomatch hb) hd20 hlm19.ok hv20 (fun h'=>by rw [hO3] at h'; cases h') fun pb3 F3 M3' w21 hO3' hp21 f21 n21=>?_
 rw [hO3] at hO3'
 obtain rfl:M3'=M3:=(Option.some.inj (congrArg Prod.fst hO3')).symm
 refine qae (fun b w'=>b=false/\w'=w21) (cond_false rfl ⟨rfl,rfl⟩) ?_
 rintro b w22 ⟨rfl,rfl⟩
 refine cond_false rfl ?_
 obtain ⟨hW3,hov3,_,_⟩:=qsE hlm19.ok hO3
 have hr3:=qo1 hO3
 have hdb3:dbOf dbk M3'=some ⟨dbk,0,none⟩:=if_neg (by rw [hov3]; decide)
 have fw21:=fw20.trans f21
 refine qlT (hd20.frame0 f21) hlm19 (by rw [hdb3]; exact hp21) (hv.frame0 fw21) hW3 fun w23 f23=>?_
 have hl3:=qhP (D:=crashM (commitM D M).1.1 ls) hr3
 refine qgK hl3.1 hl3.2 fun r81 w24 e24 hc81 f24=>?_
 have fw24:=(fw21.trans f23).trans f24
 refine qef (hv.frame0 fw24) fun w25 f25=>?_
 refine cond_true rfl ?_
 have hc81':w25.heap[r81]?=some (.cells (stA (toldS (crashM (commitM D M).1.1 ls) M3').1 (toldS (crashM (commitM D M).1.1 ls) M3').2).toArray STT (0,0)):=by rw [f25.block r81 (qab hc81) (by simp)]; exact hc81
 have f1925:Fr [] w19 w25:=(((f20.trans f21).trans f23).trans f24).trans f25
 have keep:∀ {r:Nat} {o:Obj},w16.heap[r]?=some o->r∉B2->r∉FD2->w25.heap[r]?=some o:=fun hr h1 h2=>by
  have g18:w18.heap[_]?=_:=(f1618.block _ (qab hr) h1).trans hr
  have g19:w19.heap[_]?=_:=(f19.block _ (qab g18) h2).trans g18
  exact (f1925.block _ (qab g19) (by simp)).trans g19
 have hc13':w25.heap[r13]?=some (.cells (stA last.1 last.2).toArray STT (0,0)):=keep hc16 hr13B2 hr13F2
 have hc61':w25.heap[r61]?=some (.cells (stA (toldS D M).1 (toldS D M).2).toArray STT (0,0)):=keep hc61 (fun hm=>by have:=hb15.lt r61 hm; omega) fun hm=>by have:=hd15.lt r61 hm; omega
 have fin:∀ {x:Int} {w':World},x=M3'.sup.1->Fr [] w25 w'->K (decide (x>=1)) w':=fun hx f=>by
  rw [decide_eq_true (by rw [hx]; exact hq3)]
  exact hk _ ((fw24.trans f25).trans f)
 have hp25:=((hp21.frame0 f23).frame0 f24).frame0 f25
 refine qgk hc81' hl3.1 hl3.2 ?_
 refine qgk hc13' h.llen.1 h.llen.2 ?_
 obtain ⟨q1,hq1,heq1⟩:=qmn hl3.1 h.llen.1 hl3.2 h.llen.2
 refine qnE 4 (by decide) q1 hq1 (by kernel_rfl) ?_
 refine qaa (fun hc=>qlh hp25 (fin rfl (.refl _ _))) (fun hc=>?_)
 refine qgk hc81' hl3.1 hl3.2 ?_
 refine qgk hc61' hl1.1 hl1.2 ?_
 obtain ⟨q2,hq2,heq2⟩:=qmn hl3.1 hl1.1 hl3.2 hl1.2
 refine qnE 4 (by decide) q2 hq2 (by kernel_rfl) ?_
 refine qaa (fun hc=>qlh hp25 (fin rfl (.refl _ _))) (fun hc2=>?_)
 rcases ht3 with e | e
 ·rw [heq1 (by rw [e]) (by rw [e])] at hc; cases hc
 ·rw [heq2 (by rw [e]) (by rw [e])] at hc2; cases hc2
end
end Go.Proofs.YtmbcedengdoamaaGreatDoor
end
