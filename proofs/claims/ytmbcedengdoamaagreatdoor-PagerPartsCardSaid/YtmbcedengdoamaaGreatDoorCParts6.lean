/- Texts LpJ, LpK, LpL, LpM, LpI, LpN, PmK, LpO: contracts of the program's functions, one behind the other. Conditions: those that stand in each line. -/
import Derived.Test.YtmbcedengdoamaaGreatDoorCParts5
section
set_option linter.unusedVariables false
set_option linter.unusedSimpArgs false
namespace Go.Proofs.YtmbcedengdoamaaGreatDoor
open Go Go.Pt
attribute [local irreducible] ld ldA ldV fld fldA newZ st new idx idxS idxA slc slcS slcP mkS chk nn call callV inv run runQ runU join loop held ext rng undefer s2a nxt ent IntKind.wrap
section
variable {d p m m':Option Addr} {x x':RV} {wv wv':List Value} {t t':Int}
theorem qq1 (hx:x.Ok) (j:Nat):(bothV d p x m wv t).toArray[66+j]?=(Value.pointer m::wv++[Value.int .i64 t])[j]?:=by
 rw [List.getElem?_toArray,bothV,List.getElem?_append_right (by rw [qlC hx]; omega),qlC hx,Nat.add_sub_cancel_left]
theorem qse (hx:x.Ok):(bothV d p x m wv t).toArray[66]?=some (.pointer m):=qq1 hx 0
theorem qvC (hx:x.Ok) (hw:wv.length=27):(bothV d p x m wv t).toArray[94]?=some (.int .i64 t):=by
 have:=qq1 (d:=d) (p:=p) (m:=m) (wv:=wv) (t:=t) hx 28
 rw [show 66+28=94 from rfl] at this
 rw [this,List.getElem?_append_right (by rw [List.length_cons,hw]; omega),List.length_cons,hw]
 rfl
theorem qtm (hx:x.Ok) (j:Nat) (hj:j<64):(bothV d p x m wv t).toArray[2+j]?=(refV x).toArray[j]?:=by
 rw [List.getElem?_toArray,List.getElem?_toArray,bothV,List.append_assoc,List.getElem?_append_right (by show 2<=2+j; omega)]
 show (refV x++_)[2+j-2]?=_
 rw [Nat.add_sub_cancel_left,List.getElem?_append_left (by rw [qaw hx]; exact hj)]
theorem qg4 (hx:x.Ok):(bothV d p x m wv t).toArray[38]?=some (.bool x.over):=(qtm hx 36 (by decide)).trans (qda hx)
theorem qgZ (hx:x.Ok):(bothV d p x m wv t).toArray[37]?=some (.int .i64 x.turn):=(qtm hx 35 (by decide)).trans (qm6 hx)
theorem qbk (hx:x.Ok):(rvW x).length=27:=by rw [rvW,List.length_append,List.length_map,hx.roots]; rfl
theorem qq2:(rvW x).all Value.oneCell'=true:=by rw [rvW,List.all_append,qki]; rfl
theorem qpu (hx:x.Ok):bothV d p x m wv t=([Value.pointer d,.pointer p]++(rvA x++supV x.sup.1 x.sup.2++rvB x))++rvW x++(.pointer m::wv++[.int .i64 t]):=by simp only [bothV,refV,List.append_assoc]
theorem qrk (hx:x.Ok):([Value.pointer d,.pointer p]++(rvA x++supV x.sup.1 x.sup.2++rvB x)).length=39:=by rw [List.length_append,qec hx]; rfl
theorem qvM (hx:x.Ok):((bothV d p x m wv t).toArray.toList.drop 39).take 27=rvW x:=by
 show ((bothV d p x m wv t).drop 39).take 27=_
 rw [qpu hx,List.append_assoc,<- qrk (d:=d) (p:=p) hx,List.drop_left,List.take_append_of_le_length (by rw [qbk hx]; exact Nat.le_refl _),List.take_of_length_le (by rw [qbk hx]; exact Nat.le_refl _)]
theorem qv7 (hx:x.Ok) (hw:wv.length=27):((bothV d p x m wv t).toArray.toList.drop 67).take 27=wv:=by
 show ((bothV d p x m wv t).drop 67).take 27=_
 have e:bothV d p x m wv t=(([Value.pointer d,.pointer p]++refV x)++[.pointer m])++(wv++[.int .i64 t]):=by simp only [bothV,List.append_assoc,List.cons_append,List.nil_append]
 have hl:(([Value.pointer d,.pointer p]++refV x)++[Value.pointer m]).length=67:=by rw [List.length_append,qlC hx]; rfl
 rw [e,<- hl,List.drop_left,List.take_append_of_le_length (by rw [hw]; exact Nat.le_refl _),List.take_of_length_le (by rw [hw]; exact Nat.le_refl _)]
theorem quY:splice (bothV d p x m wv t).toArray 1 [.pointer m']=(bothV d m' x m wv t).toArray:=
 qap (A:=[Value.pointer d]) (X:=[.pointer p]) (Y:=[.pointer m']) (Z:=refV x++(.pointer m::wv++[.int .i64 t])) rfl
theorem qqU (hx:x.Ok):splice (bothV d p x m wv t).toArray 66 [.pointer m']=(bothV d p x m' wv t).toArray:=by
 have:=qap (A:=[Value.pointer d,.pointer p]++refV x) (X:=[.pointer m]) (Y:=[.pointer m']) (Z:=wv++[.int .i64 t]) rfl
 rw [qlC hx] at this
 have e:∀ q,bothV d p x q wv t=[Value.pointer d,.pointer p]++refV x++[.pointer q]++(wv++[.int .i64 t]):=fun q=>by simp only [bothV,List.append_assoc,List.cons_append,List.nil_append]
 rw [e m,e m']; exact this
theorem quz (hx:x.Ok) (hw:wv.length=wv'.length):splice (bothV d p x m wv t).toArray 67 wv'=(bothV d p x m wv' t).toArray:=by
 have hl:(([Value.pointer d,.pointer p]++refV x)++[Value.pointer m]).length=67:=by rw [List.length_append,qlC hx]; rfl
 have:=qap (A:=([Value.pointer d,.pointer p]++refV x)++[.pointer m]) (X:=wv) (Y:=wv') (Z:=[.int .i64 t]) hw
 rw [hl] at this
 have e:∀ q,bothV d p x m q t=([Value.pointer d,.pointer p]++refV x)++[.pointer m]++q++[.int .i64 t]:=fun q=>by simp only [bothV,List.append_assoc,List.cons_append,List.nil_append]
 rw [e wv,e wv']; exact this
theorem qni (hx:x.Ok) (hw:wv.length=27):splice (bothV d p x m wv t).toArray 94 [.int .i64 t']=(bothV d p x m wv t').toArray:=by
 have hl:(([Value.pointer d,.pointer p]++refV x)++([Value.pointer m]++wv)).length=94:=by rw [List.length_append,qlC hx,List.length_append,hw]; rfl
 have:=qap (A:=([Value.pointer d,.pointer p]++refV x)++([Value.pointer m]++wv)) (X:=[.int .i64 t]) (Y:=[.int .i64 t']) (Z:=[]) rfl
 rw [hl] at this
 have e:∀ q,bothV d p x m wv q=([Value.pointer d,.pointer p]++refV x)++([.pointer m]++wv)++[.int .i64 q]++[]:=fun q=>by simp only [bothV,List.append_assoc,List.cons_append,List.nil_append]
 rw [e t,e t']; exact this
theorem qvm (hx:x.Ok) {sf sd sfr:Sl} {roots:List Int} (hr:roots.length=24):splice (bothV d p x m wv t).toArray 39 ([slV sf,slV sd,slV sfr]++roots.map (Value.int .u32))=(bothV d p { x with sf:=sf,sd:=sd,sfr:=sfr,roots:=roots } m wv t).toArray:=by
 have:=qap (A:=[Value.pointer d,.pointer p]++(rvA x++supV x.sup.1 x.sup.2++rvB x)) (X:=rvW x) (Y:=[slV sf,slV sd,slV sfr]++roots.map (Value.int .u32)) (Z:=.pointer m::wv++[.int .i64 t]) (by rw [qbk hx,List.length_append,List.length_map,hr]; rfl)
 rw [qrk hx] at this
 rw [qpu hx,qpu (x:={ x with sf:=sf,sd:=sd,sfr:=sfr,roots:=roots }) ⟨hx.sup,hr⟩]
 exact this
end
def RW (S:List Nat) (w:World) (wv:List Value) (q:PgM):Prop:=
 ∃ sf sd sfr,wv=[slV sf,slV sd,slV sfr]++q.roots.map (Value.int .u32)/\Rd S w sf q.free/\Rd S w sd q.deferred/\Rds encPage 3 S w sfr q.fresh/\q.roots.length=24
theorem RW.frame {S S':List Nat} {w w':World} {wv:List Value} {q:PgM} (h:RW S w wv q) (f:Fr S w w') (hS:∀ b∈S',b∈S\/w.heap.size<=b):RW S' w' wv q:=by
 obtain ⟨sf,sd,sfr,h1,h2,h3,h4,h5⟩:=h
 exact ⟨sf,sd,sfr,h1,h2.frame f hS,h3.frame f hS,h4.frame f hS,h5⟩
theorem RP.work {S:List Nat} {w:World} {x:RV} {D:DiskM} {M:PgM} (h:RP S w x D M):RW S w (rvW x) M:=
 ⟨x.sf,x.sd,x.sfr,by rw [rvW,h.roots],h.free,h.deferred,h.fresh,by rw [<- h.roots]; exact h.ok.roots⟩
structure MarkOk (M M' q q':PgM) (t:Int):Prop where
 sim:Sim q q'
 wf:q.Wf
 named:q.Named
 over:q.over=false
 turn:t=q'.turn
 live:M.over=false->q.turn<=M.turn/\M'.turn-q'.turn=M.turn-q.turn/\(q.turn=M.turn->q.sup=M.sup/\q.lists=M.lists/\q.named=M.named)
theorem MarkOk.step {M M' q q' M2 M2':PgM} {t:Int} (h:MarkOk M M' q q' t) (ho:M2.over=false->M.over=false/\M2'.turn-M'.turn=M2.turn-M.turn/\M.turn<=M2.turn/\(M2.turn=M.turn->M2.sup=M.sup/\M2.lists=M.lists/\M2.named=M.named)):MarkOk M2 M2' q q' t:=
 ⟨h.sim,h.wf,h.named,h.over,h.turn,fun hov=>by
  obtain ⟨o1,o2,o3,o4⟩:=ho hov
  obtain ⟨l0,l1,l2⟩:=h.live o1
  refine ⟨by omega,by omega,fun e=>?_⟩
  have e2:M2.turn=M.turn:=by omega
  obtain ⟨a,b,c⟩:=o4 e2
  obtain ⟨a',b',c'⟩:=l2 (by omega)
  exact ⟨by rw [a,a'],by rw [b,b'],by rw [c,c']⟩⟩
def Dead (M:PgM):Prop:=M.over=true->M={ overM with turn:=M.turn }
structure Twin (s:StM) (M' q':PgM) (t:Int) (j:Nat):Prop where
 sim:Sim s.M M'
 wf:s.M.Wf
 named:s.M.Named
 turn:0<=s.M.turn/\s.M.turn<=j
 turn':0<=M'.turn/\M'.turn<=3*j
 mark:∀ q,s.k=some q->MarkOk s.M M' q q' t
 two:2<=s.D.safe.length
 dead:Dead s.M
structure Duo (w:World) (bb dbk pb:Nat) (FD X F:List Nat) (x:RV) (s:StM) (M' q':PgM) (k:Nat) (m:Option Addr) (wv:List Value) (t:Int):Prop where
 pair:Pair w bb dbk pb FD X F x s.D s.M s.D M' k m wv t
 mnone:s.k=none->m=none
 msome:∀ q,s.k=some q->(∃ kb,m=some ⟨kb,0,none⟩/\MarkAt w (X++F) kb pb q)/\RW (X++F) w wv q'
theorem Duo.frame0 {w w':World} {bb dbk pb:Nat} {FD X F:List Nat} {x:RV} {s:StM} {M' q':PgM} {k:Nat} {m:Option Addr} {wv:List Value} {t:Int} (h:Duo w bb dbk pb FD X F x s M' q' k m wv t) (f:Fr [] w w'):Duo w' bb dbk pb FD X F x s M' q' k m wv t:=
 ⟨h.pair.frame0 f,h.mnone,fun q hq=>by
  obtain ⟨⟨kb,e,hm⟩,hr⟩:=h.msome q hq
  exact ⟨⟨kb,e,hm.frame0 f⟩,hr.frame (f.mono fun b hb=>nomatch hb) fun b hb=>.inl hb⟩⟩
theorem Duo.lims {w:World} {bb dbk pb:Nat} {FD X F:List Nat} {x:RV} {s:StM} {M' q':PgM} {k k2:Nat} {m:Option Addr} {wv:List Value} {t:Int} (h:Duo w bb dbk pb FD X F x s M' q' k m wv t) (hk:k<=k2):Duo w bb dbk pb FD X F x s M' q' k2 m wv t:=⟨h.pair.lims hk,h.mnone,h.msome⟩
theorem Duo.turn {w w2:World} {bb dbk pb:Nat} {FD FD2 X X2 F F2:List Nat} {x x2:RV} {s:StM} {D2:DiskM} {M2 M' M2' q':PgM} {k k2:Nat} {m:Option Addr} {wv:List Value} {t:Int} (h:Duo w bb dbk pb FD X F x s M' q' k m wv t)
  (hp:Pair w2 bb dbk pb FD2 X2 F2 x2 D2 M2 D2 M2' k2 m wv t) (f:Fr (X++F) w w2) (n:∀ b∈X2++F2,b∈X++F\/w.heap.size<=b):Duo w2 bb dbk pb FD2 X2 F2 x2 ⟨D2,M2,s.k⟩ M2' q' k2 m wv t:=
 ⟨hp,h.mnone,fun q hq=>by
  obtain ⟨⟨kb,e,hm⟩,hr⟩:=h.msome q hq
  exact ⟨⟨kb,e,hm.frame f n⟩,hr.frame f n⟩⟩
theorem Pair.cellSet {w w':World} {bb dbk pb:Nat} {FD X F:List Nat} {x x2:RV} {D D' D2:DiskM} {M M' M2:PgM} {k:Nat} {m m2:Option Addr} {wv wv2:List Value} {t t2:Int} (h:Pair w bb dbk pb FD X F x D M D' M' k m wv t)
  (c:w'.heap[bb]?=some (.cells (bothV (some ⟨dbk,0,none⟩) (some ⟨pb,0,none⟩) x2 m2 wv2 t2).toArray BTT (0,0))) (f:Fr [bb] w w') (hr:RP (X++F) w' x2 D2 M2) (hl:wv2.length=27) (h1:wv2.all Value.oneCell'=true):Pair w' bb dbk pb FD X F x2 D M D2 M2 k m2 wv2 t2:=
 ⟨c,h.disk.frame f fun b hb hm=>h.nd ((show b=bb from List.mem_singleton.1 hm)▸hb),h.lim,h.pager.frameX (f.mono fun b hb _=>by rw [List.mem_singleton.1 hb]; exact h.bx) (fun b hb=>Nat.lt_of_lt_of_le (h.pager.xlt b hb) f.size) (fun b hb=>.inl hb),h.sub,h.bx,h.nd,hr,hl,h1⟩
theorem qtG {D:DiskM} {n:Int}:(fuseM D n).safe.length=D.safe.length:=by unfold fuseM; split <;> rfl
theorem qrq {w:World} {bb dbk pb:Nat} {FD X F:List Nat} {x:RV} {s:StM} {M' q':PgM} {k j:Nat} {m:Option Addr} {wv:List Value} {t:Int} {K:Bool->World->Prop}
  (h:Duo w bb dbk pb FD X F x s M' q' k m wv t) (hT:Twin s M' q' t j) (hj:j<=100000) (hv:Hv w)
  (kk:∀ pb2 F2 x2 M2' m2 t2 w2,Duo w2 bb dbk pb2 FD X F2 x2 (anewM s) M2' q' k m2 wv t2->Twin (anewM s) M2' q' t2 (j+1)->Fr [bb] w w2->(∀ b∈X++F2,b∈X++F\/w.heap.size<=b)->K true w2) :
  call Tryz.prog 72 [.pointer (some ⟨bb,0,none⟩)] [.one .bool] w K:=by
 refine qeI (b:=some ⟨bb,0,none⟩) ?_
 unfold qcr
 have hp:=h.pair
 have hx:=hp.ref.ok
 have hD:=hp.lim.ok
 refine qac (qae (c:=.ptr) hp.cell (some ⟨dbk,0,none⟩) qtU ?_)
 refine qn8 X hp.pager.xlt hp.disk hD hv (fun hno w1 f1=>?_) (fun pb2 F2 M2 w1 hM hp1 f1 n1=>?_)
 ·-- it can't be opened
  obtain ⟨e,he⟩:∃ e,openM s.D=(none,e):=⟨(openM s.D).2,Prod.ext hno rfl⟩
  have hne:e≠0:=fun h0=>qsp (h0▸he)
  rw [he]
  have h1:=h.frame0 f1
  refine qac (qke (cl:=dC) (off:=0+2) h1.pair.cell x.d (qoA hx) ?_)
  refine qj4 h1.pair.ref.disk hD hT.two h1.pair.lt (fun e' he' w2 f2=>?_) (fun x2 M3 w2 hM3 hp2 f2=>by rw [he] at hM3; cases hM3)
  rw [he] at he'
  have he':e=e':=congrArg Prod.snd he'
  subst he'
  refine Own.newZ (Own.start [] w2) qbh fun r w3 e3 ho=>?_
  refine Own.stP ho 0 rfl qaq qaq fun w4 ho4 f4=>?_
  refine qaf (fun b w'=>b=false/\w'=w4) ?_ ?_
  ·refine cond_false (by simp) ⟨?_,rfl⟩
   have:(e==0)=false:=beq_eq_false_iff_ne.2 hne
   simp [this]
  rintro b w5 ⟨rfl,rfl⟩
  refine cond_false rfl ?_
  refine qaf (fun _ w'=>w'=w5) ?_ ?_
  ·exact cond_false (beq_eq_false_iff_ne.2 hne) rfl
  rintro _ w6 rfl
  have f06:Fr [] w w6:=(f1.trans f2).trans ho4.fr
  have h6:=h.frame0 f06
  have e1:anewM s=s:=by rw [anewM,he]
  refine kk pb F x M' m t w6 ?_ ?_ (f06.mono fun b hb=>nomatch hb) fun b hb=>.inl hb
  ·rw [e1]; exact h6
  ·rw [e1]
   exact ⟨hT.sim,hT.wf,hT.named,by have:=hT.turn; omega,by have:=hT.turn'; omega,hT.mark,hT.two,hT.dead⟩
 ·have h1:=h.frame0 f1
  refine qac (qke (cl:=dC) (off:=0+2) h1.pair.cell x.d (qoA hx) ?_)
  have hnF2:∀ b∈X++F2,b∈X++F\/w.heap.size<=b:=fun b hb=>(List.mem_append.1 hb).elim (fun hb=>.inl (List.mem_append_left _ hb)) fun hb=>.inr (n1 b hb)
  have hd1:RD (X++F2) w1 x.d s.D:=hp.ref.disk.frame (f1.mono fun b hb=>nomatch hb) hnF2
  have hS1:∀ b∈X++F2,b<w1.heap.size:=fun b hb=>(List.mem_append.1 hb).elim (hp1.xlt b) (hp1.lt b)
  refine qj4 hd1 hD hT.two hS1 (fun e he=>by rw [hM] at he; cases he) (fun x2 M3 w2 hM3 hp2 f2=>?_)
  rw [hM] at hM3
  have e3:M2=M3:=Option.some.inj (congrArg Prod.fst hM3)
  subst e3
  have hwf:=qua hD hM
  have hx2:=hp2.ok
  have l64:=qaw hx2
  refine Own.newZ (Own.start [] w2) qbh fun r w3 e3 ho=>?_
  refine Own.stP ho 0 rfl qaq hx2 fun w4 ho4 f4=>?_
  refine qaf (fun b w'=>b=false/\w'=w4) ?_ ?_
  ·exact cond_false (by simp) ⟨rfl,rfl⟩
  rintro b w5 ⟨rfl,rfl⟩
  refine cond_false rfl ?_
  have f15:Fr [] w1 w5:=f2.trans ho4.fr
  have h5:=h1.frame0 f15
  have hp5:=hp1.frame0 f15
  have hr5:=hp2.frame0 ho4.fr
  have hsz:=hT.turn'
  have htn:x.turn=M'.turn:=hp.ref.turn
  refine qaf (fun _ w'=>w'.heap[bb]?=some (.cells (bothV (some ⟨dbk,0,none⟩) (some ⟨pb2,0,none⟩) { x2 with turn:=M'.turn+2 } none wv (-1)).toArray BTT (0,0))/\Fr [r,bb] w5 w') ?_ ?_
  ·refine cond_true rfl ?_
   refine qac ?_
   simp only [Addr.add_mk]
   refine qae (c:=.int .i64) (off:=0+2+35) h5.pair.cell x.turn (qgZ hx) ?_
   rw [wi' _ (by omega),htn]
   refine Own.st' ho4 0 rfl (refV { x2 with turn:=M'.turn+2 }).toArray (qin hx2) rfl (by rw [List.size_toArray,l64]; exact Nat.le_of_ble_eq_true rfl) fun w6 ho6 f6=>?_
   have hx3:({ x2 with turn:=M'.turn+2 }:RV).Ok:=⟨hx2.sup,hx2.roots⟩
   have l643:=qaw hx3
   have ho6d:=ho6.drew
   have hbr:bb≠r:=by have:=qab h1.pair.cell; have:=f2.size; omega
   have c6:w6.drew.heap[bb]?=some (.cells (bothV (some ⟨dbk,0,none⟩) (some ⟨pb,0,none⟩) x m wv t).toArray BTT (0,0)):=by
    show w6.heap[bb]?=_
    rw [f6.block bb (qab h5.pair.cell) (by simpa using hbr)]; exact h5.pair.cell
   have f6d:Fr [r] w5 w6.drew:=f6.drew
   generalize World.drew w6=wd at ho6d c6 f6d
   refine Own.ldP ho6d 0 rfl hx3 ?_
   refine qac ?_
   refine qaQ (off:=0+1) c6 (bothV (some ⟨dbk,0,none⟩) (some ⟨pb2,0,none⟩) x m wv t).toArray quY rfl (by rw [qaN hx hp.wl]; exact Nat.le_of_ble_eq_true rfl) fun w7 c7 f7=>?_
   have hr7:w7.heap[r]?=some (.cells (refV { x2 with turn:=M'.turn+2 }).toArray RPT (0,0)):=by
    rw [f7.block r (qab (ho6d.at (i:=0) rfl)) (by simpa using fun e=>hbr e.symm)]; exact ho6d.at (i:=0) rfl
   refine qar (qaK hr7 _ 0 0 (by show (refV { x2 with turn:=M'.turn+2 }).take _=_; exact List.take_length)) ?_
   refine qac (qak l643 ?_)
   refine qaQ (off:=0+2) c7 (bothV (some ⟨dbk,0,none⟩) (some ⟨pb2,0,none⟩) { x2 with turn:=M'.turn+2 } m wv t).toArray (qkg hx hx3) qhh (by rw [qaN hx hp.wl,l643]; exact Nat.le_of_ble_eq_true rfl) fun w8 c8 f8=>?_
   refine qac ?_
   refine qaQ (off:=0+66) c8 (bothV (some ⟨dbk,0,none⟩) (some ⟨pb2,0,none⟩) { x2 with turn:=M'.turn+2 } none wv t).toArray (qqU hx3) rfl (by rw [qaN hx3 hp.wl]; exact Nat.le_of_ble_eq_true rfl) fun w9 c9 f9=>?_
   refine qac ?_
   refine qaQ (off:=0+94) c9 (bothV (some ⟨dbk,0,none⟩) (some ⟨pb2,0,none⟩) { x2 with turn:=M'.turn+2 } none wv (-1)).toArray (qni hx3 hp.wl) rfl (by rw [qaN hx3 hp.wl]; exact Nat.le_of_ble_eq_true rfl) fun w10 c10 f10=>?_
   have g:∀ {a b:World},Fr [bb] a b->Fr [r,bb] a b:=fun f=>f.mono fun b hb _=>by rw [List.mem_singleton.1 hb]; simp
   exact ⟨c10,((((f6d.mono fun b hb _=>by rw [List.mem_singleton.1 hb]; simp).trans (g f7)).trans (g f8)).trans (g f9)).trans (g f10)⟩
  rintro _ w6 ⟨c6,f6⟩
  have hrn:w2.heap.size<=r:=by omega
  have hrw:w.heap.size<=r:=Nat.le_trans (f1.trans f2).size hrn
  have f26:Fr [bb] w2 w6:=(ho4.fr.mono fun b hb=>nomatch hb).trans' f6 fun b hb=>by
   rcases List.mem_cons.1 hb with rfl | hb
   ·exact .inr hrn
   ·exact .inl hb
  have f16:Fr [bb] w1 w6:=(f2.mono fun b hb=>nomatch hb).trans f26
  have f06:Fr [bb] w w6:=(f1.mono fun b hb=>nomatch hb).trans f16
  have fX:∀ {a b:World},Fr [bb] a b->Fr X a b:=fun f=>f.mono fun b hb _=>by rw [List.mem_singleton.1 hb]; exact hp.bx
  have e1:anewM s=⟨s.D,M2,none⟩:=by rw [anewM,hM]
  have hrp:RP (X++F2) w6 { x2 with turn:=M'.turn+2 } s.D { M2 with turn:=M'.turn+2 }:=by
   have:=hp2.frame (S':=X++F2) (f26.mono fun b hb _=>by rw [List.mem_singleton.1 hb]; exact List.mem_append_left _ hp.bx) fun b hb=>.inl hb
   exact ⟨this.disk,this.sup,this.lists,this.named,rfl,this.over,this.free,this.deferred,this.fresh,this.roots,⟨hx2.sup,hx2.roots⟩⟩
  have hdb:dbOf dbk M2=some ⟨dbk,0,none⟩:=by rw [dbOf,if_neg (by rw [hwf.2.1]; decide)]
  refine kk pb2 F2 { x2 with turn:=M'.turn+2 } { M2 with turn:=M'.turn+2 } none (-1) w6 ?_ ?_ f06 hnF2
  ·rw [e1]
   refine ⟨⟨c6,h.pair.disk.frame f06 fun b hb hm=>hp.nd ((show b=bb from List.mem_singleton.1 hm)▸hb),hp.lim,?_,hp.sub,hp.bx,hp.nd,hrp,hp.wl,hp.w1⟩,fun _=>rfl,fun q hq=>nomatch hq⟩
   rw [hdb]
   exact hp1.frameX (fX f16) (fun b hb=>Nat.lt_of_lt_of_le (hp1.xlt b hb) f16.size) fun b hb=>.inl hb
  ·rw [e1]
   obtain ⟨_,sp,y,hy,hMe,_⟩:=qk7 hM
   refine ⟨?_,hwf.1,hwf.2.2.2,by show 0<=M2.turn/\M2.turn<=_; rw [hwf.2.2.1]; omega,by show 0<=M'.turn+2/\M'.turn+2<=_; omega,fun q hq=>(nomatch hq),hT.two,fun ho=>by rw [hwf.2.1] at ho; cases ho⟩
   rw [hMe]
   exact ⟨rfl,rfl,rfl,rfl,rfl,rfl,rfl,.refl _,.nil⟩
theorem qsI {M M':PgM} (h:Sim M M') (hd:Dead M):Sim (abortM M) (if M'.over then M' else begunM M'.sup M'.lists M'.named (M'.turn+1) M'.over M'.named):=by
 cases ho:M'.over with
 | true=>
  have ho':M.over=true:=h.over▸ho
  have e:=hd ho'
  rw [if_pos rfl]
  have h1:M.sup=overM.sup:=by rw [e]
  have h2:M.lists=overM.lists:=by rw [e]
  have h3:M.named=overM.named:=by rw [e]
  have h4:M.free=overM.free:=by rw [e]
  have h5:M.deferred=overM.deferred:=by rw [e]
  have h6:M.fresh=overM.fresh:=by rw [e]
  have h7:M.roots=overM.roots:=by rw [e]
  refine ⟨h.sup,h.lists,h.named,h.over,?_,?_,?_,?_,h.sorted⟩
  ·rw [h.free,h4]; show _=M.named; rw [h3]; rfl
  ·rw [h.deferred,h5]; rfl
  ·rw [h.roots,h7]; show _=M.sup.2.drop 3; rw [h1]; rfl
  ·have:=h.perm; rw [h6] at this; exact this
 | false=>
  rw [if_neg (by decide)]
  refine ⟨h.sup,h.lists,h.named,?_,h.named,rfl,?_,.refl _,.nil⟩
  ·show false=M.over; rw [<- ho]; exact h.over
  ·show M'.sup.2.drop 3=M.sup.2.drop 3; rw [h.sup]
theorem qsi {M:PgM} (hd:Dead M):Dead (abortM M):=fun ho=>by
 have ho:M.over=true:=ho
 have e:=hd ho
 show begunM M.sup M.lists M.named (M.turn+1) M.over M.named={ overM with turn:=M.turn+1 }
 rw [ho]
 have h1:M.sup=overM.sup:=by rw [e]
 have h2:M.lists=overM.lists:=by rw [e]
 have h3:M.named=overM.named:=by rw [e]
 rw [h1,h2,h3]
 rfl
theorem qqf {D:DiskM} {M:PgM} (hd:Dead M):Dead (commitM D M).1.2:=by
 unfold commitM
 split
 ·exact hd
 split
 ·exact hd
 split
 ·exact hd
 ·split
  ·intro _; rfl
  ·intro h; cases h
theorem qs8 {D:DiskM} {M:PgM} {a:OpM} (hd:Dead M):Dead (pageA D M a):=fun ho=>by
 rw [(qjN D M a).2.2.2.1] at ho
 have e:pageA D M a=M:=by
  unfold pageA pageM makeV putV dropV setRootM
  simp only [ho,if_true]
  split
  ·rfl
  split
  ·rfl
  split
  ·rfl
  split <;> rfl
 rw [e]
 exact hd ho
theorem qus {M M':PgM} (h:Sim M M') (hW:M.Wf) (D:DiskM) (a:OpM) (hn:U32 a.n) (hk:0<=a.kind/\a.kind<256) (hlg:0<=a.long/\a.long<65536) (hB:IsB a.body) :
  (pageM D D M M' a).1=true/\Sim (pageA D M a) (pageM D D M M' a).2.2:=by
 have:=h.page hW D a hn hk hlg hB
 rw [qi9] at this
 exact ⟨this.1,this.2.1⟩
theorem qpf {D:DiskM} {M M':PgM} (h:Sim M M') (hW:M.Wf) (ho:(commitM D M).1.2.over=false):M.over=false/\(commitR D M').1.2.turn-M'.turn=(commitM D M).1.2.turn-M.turn/\M.turn<=(commitM D M).1.2.turn/\
  ((commitM D M).1.2.turn=M.turn->(commitM D M).1.2.sup=M.sup/\(commitM D M).1.2.lists=M.lists/\(commitM D M).1.2.named=M.named):=by
 have hp:planM M'=planM M:=by rw [planM,planM,h.free,h.deferred,h.lists]
 have hn:∀ a b,nextS M' a b=nextS M a b:=fun a b=>by rw [nextS,nextS,h.sup,h.roots]
 have hf:∀ a b s,flushR D M'.fresh a b s=flushM D M.fresh a b s:=fun a b s=>by rw [flushR,flushM,h.freshR hW]
 have he:(M'.fresh=[]↔M.fresh=[]):=⟨fun e=>by have:=h.perm; rw [e] at this; exact this.symm.eq_nil,fun e=>by have:=h.perm; rw [e] at this; exact this.eq_nil⟩
 have keep:∀ {N:PgM},N=M->N.over=false->M.over=false/\M'.turn-M'.turn=N.turn-M.turn/\M.turn<=N.turn/\(N.turn=M.turn->N.sup=M.sup/\N.lists=M.lists/\N.named=M.named):=fun e ho1=>by
  subst e; exact ⟨ho1,by omega,Int.le_refl _,fun _=>⟨rfl,rfl,rfl⟩⟩
 unfold commitR
 unfold commitM at ho ⊢
 rw [h.over,h.deferred,h.roots,h.sup,hp]
 simp only [he,hn,hf]
 split
 ·rename_i h1; rw [if_pos h1] at ho; exact keep rfl ho
 rename_i h1; rw [if_neg h1] at ho
 split
 ·rename_i h2; rw [if_pos h2] at ho; exact keep rfl ho
 rename_i h2; rw [if_neg h2] at ho
 cases hpl:planM M with
 | none=>rw [hpl] at ho; exact keep rfl ho
 | some y=>
  rw [hpl] at ho
  dsimp only at ho ⊢
  split
  ·rename_i h3; rw [if_pos h3] at ho; cases ho
  ·refine ⟨by simpa using h1,?_,?_,fun e=>?_⟩
   ·show M'.turn+1-M'.turn=M.turn+1-M.turn; omega
   ·show M.turn<=M.turn+1; omega
   ·have e:M.turn+1=M.turn:=e; omega
theorem quL {M q:PgM} (h1:q.sup=M.sup) (h2:q.lists=M.lists) (h3:q.named=M.named) (h4:q.turn=M.turn) (h5:q.over=M.over):({ M with free:=q.free,deferred:=q.deferred,fresh:=q.fresh,roots:=q.roots }:PgM)=q:=by
 cases M; cases q
 dsimp only at h1 h2 h3 h4 h5
 subst h1 h2 h3 h4 h5
 rfl
theorem quU {w:World} {bb dbk pb:Nat} {FD X F:List Nat} {x:RV} {s:StM} {M' q':PgM} {k j:Nat} {m:Option Addr} {wv:List Value} {t:Int} {o:OpC} {a:OpM} {K:Bool->World->Prop}
  (h:Duo w bb dbk pb FD X F x s M' q' k m wv t) (hT:Twin s M' q' t j) (hj:j<=100000) (hk6:k+5000<=1000000) (hv:Hv w) (hg:HG∉FD) (hgb:HG≠bb) (hop:OpOk (X++F) w o a) (hl:a.body.length<=600)
  (kk:∀ pb2 FD2 X2 F2 x2 M2' q2' m2 wv2 t2 w2,Duo w2 bb dbk pb2 FD2 X2 F2 x2 (stepM a s) M2' q2' (k+5000) m2 wv2 t2->Twin (stepM a s) M2' q2' t2 (j+1)->Fr (bb::(FD++F)) w w2->(∀ b∈X2++F2,b∈X++F\/w.heap.size<=b)->K true w2) :
  call Tryz.prog 27 [.pointer (some ⟨bb,0,none⟩),.agg (opA o)] [.one .bool] w K:=by
 obtain ⟨o0,o1,o2,o3,o4,o5⟩:=o
 obtain ⟨D,M,mk⟩:=s
 have ea:o0=a.act:=hop.act
 have en:o1=a.n:=hop.n
 have hnu:=hop.rn
 have hact:=hop.ract
 have tw:2<=D.safe.length:=hT.two
 refine qeL (b:=some ⟨bb,0,none⟩) (o0:=o0) (o1:=o1) (o2:=o2) (o3:=o3) (o4:=o4) (o5:=o5) ?_
 unfold qcu
 refine Own.new' (Own.start [] w) fun r1 w2 e2 f2 ho=>?_
 have h2:=h.frame0 f2
 have hp2:Pair w2 bb dbk pb FD X F x D M D M' k m wv t:=h2.pair
 have hx:=hp2.ref.ok
 have l64:=qaw hx
 have hv2:=hv.frame0 f2
 have hsz2:=f2.size
 refine Own.ld (c:=.int .u8) ho 0 rfl o0 rfl ?_
 have htm:Int.tmod o0 12=a.act%12:=by rw [ea,Int.tmod_eq_emod_of_nonneg hact.1]
 rw [htm]
 have ht1:0<=M.turn/\M.turn<=j:=hT.turn
 have ht2:=hT.turn'
 have hmk:∀ q,mk=some q->MarkOk M M' q q' t:=hT.mark
 have hsim:Sim M M':=hT.sim
 have hwf:M.Wf:=hT.wf
 have hnm:M.Named:=hT.named
 have hdead:Dead M:=hT.dead
 have bnF:=hp2.bnF
 have hbl:=qab hp2.cell
 have hxs:∀ b∈FD++F,b∈X++F:=fun b hb=>(List.mem_append.1 hb).elim (fun h'=>List.mem_append_left _ (hp2.sub b h')) (List.mem_append_right _)
 have fS:∀ {w3:World},Fr (bb::(FD++F)) w2 w3->Fr (bb::(FD++F)) w w3:=fun f=>(f2.mono fun b hb=>nomatch hb).trans f
 have nS:∀ {L:List Nat},(∀ b∈L,b∈X++F\/w2.heap.size<=b)->∀ b∈L,b∈X++F\/w.heap.size<=b:=fun hL b hb=>(hL b hb).imp id fun h'=>by omega
 have toX:∀ {w3 w4:World},Fr (bb::(FD++F)) w3 w4->Fr (X++F) w3 w4:=fun f=>f.mono fun b hb _=>(List.mem_cons.1 hb).elim (fun e=>by rw [e]; exact List.mem_append_left _ hp2.bx) (hxs b)
 have fB:∀ {w3 w4:World},Fr [bb] w3 w4->Fr (bb::(FD++F)) w3 w4:=fun f=>f.mono fun b hb _=>by rw [List.mem_singleton.1 hb]; simp
 have f0:∀ {S:List Nat} {w3 w4:World},Fr [] w3 w4->Fr S w3 w4:=fun f=>f.mono fun b hb=>nomatch hb
 refine qaa (fun hc=>?_) (fun hc=>?_)
 ·-- Commit
  have h5:a.act%12=5:=by simpa using hc
  have es:stepM a ⟨D,M,mk⟩=⟨(commitM D M).1.1,(commitM D M).1.2,mk⟩:=if_pos h5
  refine qac ?_
  refine qae (c:=.ptr) (off:=0+1) hp2.cell (some ⟨pb,0,none⟩) qck ?_
  refine qk8 hp2.disk hp2.lim hp2.pager hp2.sub hwf hk6 ⟨ht1.1,by omega⟩ hv2 hg fun FD3 F3 w3 hd3 hl3 hp3 t3=>?_
  have hb3:bb∉FD++F:=fun hm=>(List.mem_append.1 hm).elim hp2.nd bnF
  have hnew:∀ b∈(FD3++X)++F3,b∈X++F\/w2.heap.size<=b:=fun b hb=>by
   rcases List.mem_append.1 hb with hb | hb
   ·rcases List.mem_append.1 hb with hb | hb
    ·exact (t3.2 b (List.mem_append_left _ hb)).imp (hxs b) id
    ·exact .inl (List.mem_append_left _ hb)
   ·exact (t3.2 b (List.mem_append_right _ hb)).imp (hxs b) id
  have h3:Pair w3 bb dbk pb FD3 (FD3++X) F3 x (commitM D M).1.1 (commitM D M).1.2 D M' (k+5000) m wv t:=
   ⟨by rw [t3.1.block bb hbl hb3]; exact hp2.cell,hd3,hl3,hp3,fun b hb=>List.mem_append_left _ hb,List.mem_append_right _ hp2.bx,fun hm=>(t3.2 bb (List.mem_append_left _ hm)).elim hb3 (fun h'=>by omega),
    hp2.ref.frame (t3.1.mono fun b hb _=>hxs b hb) hnew,hp2.wl,hp2.w1⟩
  refine qac ?_
  refine qas (off:=0+2) h3.cell (refV x) l64 (quB hx) ?_
  have hcm:=hsim.commit hwf D
  refine qsz h3.ref (hsim.wf hwf) hp2.lim hk6 ⟨ht2.1,by omega⟩ h3.lt fun x4 w4 hp4 f4=>?_
  rw [hcm.1] at hp4
  refine Own.newZ (Own.start [] w4) qbh fun r w5 e5 hoz=>?_
  refine qbb h3 (f4.trans hoz.fr) (hoz.at (i:=0) rfl) (by rw [e5]; exact f4.size) (hp4.frame (hoz.fr.mono fun b hb=>nomatch hb) fun b hb=>(List.mem_cons.1 hb).elim (fun e=>.inr (by rw [e,e5]; exact Nat.le_refl _)) .inl) fun w6 h6 f6=>?_
  have t1:=qpy (D:=D) ht1.1
  have t2:=qo7 (D:=D) ht2.1
  have f26:Fr (bb::(FD++F)) w2 w6:=(t3.1.mono fun b hb _=>List.mem_cons_of_mem _ hb).trans (fB f6)
  rw [hcm.2.1,show ((commitM D M).2==(commitM D M).2)=true from beq_self_eq_true _]
  refine kk pb FD3 (FD3++X) F3 x4 (commitR D M').1.2 q' m wv t w6 ?_ ?_ (fS f26) (nS hnew)
  ·rw [es]; exact h2.turn h6 (toX f26) hnew
  ·rw [es]
   refine ⟨hcm.2.2,qth hwf,qpJ hnm,⟨t1.1,by dsimp only; omega⟩,⟨t2.1,by omega⟩,fun q hq=>(hmk q hq).step fun ho2=>?_,by show 2<=(commitM D M).1.1.safe.length; rw [qqM]; exact tw,qqf hdead⟩
   exact qpf hsim hwf ho2
 have hc5:¬ a.act%12=5:=by simpa using hc
 refine qaa (fun hc=>?_) (fun hc=>?_)
 ·-- Abort
  have h6:a.act%12=6:=by simpa using hc
  have es:stepM a ⟨D,M,mk⟩=⟨D,abortM M,mk⟩:=by rw [stepM,if_neg hc5,if_pos h6]
  refine qac ?_
  refine qae (c:=.ptr) (off:=0+1) hp2.cell (some ⟨pb,0,none⟩) qck ?_
  have hn4:=hwf.named4
  refine qs7 hp2.pager ⟨ht1.1,by omega⟩ (by omega) fun F3 w3 hp3 f3 n3=>?_
  rw [qgh hwf.namedS] at hp3
  have h3:=hp2.real (M2:=abortM M) hp3 rfl f3 n3
  refine qac ?_
  refine qas (off:=0+2) h3.cell (refV x) l64 (quB hx) ?_
  refine qtF h3.ref ⟨ht2.1,by omega⟩ fun x4 w4 hp4 f4=>?_
  have h4:=h3.frame0 f4
  have hx4:=hp4.ok
  refine qac (qak (qaw hx4) ?_)
  refine qaQ (off:=0+2) h4.cell (bothV (some ⟨dbk,0,none⟩) (some ⟨pb,0,none⟩) x4 m wv t).toArray (qkg hx hx4) qhh (by rw [qaN hx hp2.wl,qaw hx4]; exact Nat.le_of_ble_eq_true rfl) fun w5 c5 f5=>?_
  have hr5:=hp4.frame (S':=X++F3) (f5.mono fun b hb _=>by rw [List.mem_singleton.1 hb]; exact List.mem_append_left _ hp2.bx) fun b hb=>.inl hb
  have h5:=h4.cellSet c5 f5 hr5 hp2.wl hp2.w1
  have f25:Fr (bb::(FD++F)) w2 w5:=((f3.mono fun b hb _=>List.mem_cons_of_mem _ (List.mem_append_right _ hb)).trans (f0 f4)).trans (fB f5)
  have hnew:∀ b∈X++F3,b∈X++F\/w2.heap.size<=b:=qjh n3
  refine kk pb FD X F3 x4 (if M'.over then M' else begunM M'.sup M'.lists M'.named (M'.turn+1) M'.over M'.named) q' m wv t w5 ?_ ?_ (fS f25) (nS hnew)
  ·rw [es]; exact (h2.turn h5 (toX f25) hnew).lims (by omega)
  ·rw [es]
   refine ⟨qsI hsim hdead,quu hwf (hnm.apart hwf),qcQ _ _ _ _ _,⟨by show 0<=M.turn+1; omega,by show M.turn+1<=_; omega⟩,?_,fun q hq=>(hmk q hq).step fun ho2=>?_,tw,qsi hdead⟩
   ·split
    ·omega
    ·show 0<=M'.turn+1/\M'.turn+1<=_; omega
   ·have ho2:M.over=false:=ho2
    have ho':M'.over=false:=by rw [hsim.over]; exact ho2
    rw [if_neg (by rw [ho']; decide)]
    refine ⟨ho2,?_,?_,fun e=>?_⟩
    ·show M'.turn+1-M'.turn=M.turn+1-M.turn; omega
    ·show M.turn<=M.turn+1; omega
    ·exact ⟨rfl,rfl,rfl⟩
 have hc6:¬ a.act%12=6:=by simpa using hc
 refine qaa (fun hc=>?_) (fun hc=>?_)
 ·-- Save
  have h7:a.act%12=7:=by simpa using hc
  have es:stepM a ⟨D,M,mk⟩=⟨D,M,if M.over then none else some M⟩:=by rw [stepM,if_neg hc5,if_neg hc6,if_pos h7]
  have fd:Fr [] w2 w2.drew:=(Fr.refl [] w2).drew
  have h2d:=h2.frame0 fd
  have sd:w2.drew.heap.size=w2.heap.size:=rfl
  generalize World.drew w2=wd at h2d fd sd
  have hpd:Pair wd bb dbk pb FD X F x D M D M' k m wv t:=h2d.pair
  refine qac ?_
  refine qae (c:=.ptr) (off:=0+1) hpd.cell (some ⟨pb,0,none⟩) qck ?_
  refine qac ?_
  refine qas (off:=0+2+37) hpd.cell (rvW x) (qbk hx) (qvM hx) ?_
  refine qac ?_
  refine qae (c:=.int .i64) (off:=0+2+35) hpd.cell x.turn (qgZ hx) ?_
  have hsm:=hwf.small
  have xt:x.turn=M'.turn:=hpd.ref.turn
  have xo:x.over=M.over:=by rw [hpd.ref.over]; exact hsim.over
  have tail:∀ (m2:Option Addr) (w3:World),Fr [] wd w3->(M.over=true->m2=none)->(M.over=false->∃ kb,m2=some ⟨kb,0,none⟩/\MarkAt w3 (X++F) kb pb M)->
    (held [fun w'=>w'.cell? ⟨bb,0+2+35,none⟩=some (.int .i64 x.turn),fun w'=>cellsAt w' ⟨bb,0+2+37,none⟩ 0 (rvW x)] w3<|
    nn (some ⟨bb,0,none⟩) fun a_38=>st ⟨a_38.block,a_38.off+66,none⟩ [.pointer m2] w3 fun w_39=>
    nn (some ⟨bb,0,none⟩) fun a_40=>chk ((rvW x).length=27)<|st ⟨a_40.block,a_40.off+67,none⟩ (rvW x) w_39 fun w_41=>
    nn (some ⟨bb,0,none⟩) fun a_42=>st ⟨a_42.block,a_42.off+94,none⟩ [.int .i64 x.turn] w_41 fun w_43=>
    join PUnit (fun X_44=>nn (some ⟨bb,0,none⟩) fun a_45=>ld .bool ⟨(Addr.add a_45 2).block,(Addr.add a_45 2).off+36,none⟩ w_43 fun b_46=>
     cond b_46 (nn (some ⟨bb,0,none⟩) fun a_47=>st ⟨a_47.block,a_47.off+94,none⟩ [.int .i64 (-1)] w_43 fun w_48=>X_44 () w_48) (X_44 () w_43)) fun x_49 w_50=>
    nn (some ⟨bb,0,none⟩) fun a_51=>ld .ptr ⟨a_51.block,a_51.off+66,none⟩ w_50.drew fun p_52=>
    nn (some ⟨bb,0,none⟩) fun a_53=>ld .bool ⟨(Addr.add a_53 2).block,(Addr.add a_53 2).off+36,none⟩ w_50.drew fun b_54=>
    K (p_52.isNone==b_54) w_50.drew):=by
   intro m2 w3 f3 hov hno
   have h3:=h2d.frame0 f3
   have hp3:Pair w3 bb dbk pb FD X F x D M D M' k m wv t:=h3.pair
   have c3:=hp3.cell
   refine qaO (by rw [qaj c3]; exact qgZ hx) (qaK c3 _ 39 0 (by rw [qbk hx]; exact qvM hx)) ?_
   refine qac ?_
   refine qaQ (off:=0+66) c3 (bothV (some ⟨dbk,0,none⟩) (some ⟨pb,0,none⟩) x m2 wv t).toArray (qqU hx) rfl (by rw [qaN hx hp2.wl]; exact Nat.le_of_ble_eq_true rfl) fun w4 c4 f4=>?_
   refine qac (qak (qbk hx) ?_)
   refine qaQ (off:=0+67) c4 (bothV (some ⟨dbk,0,none⟩) (some ⟨pb,0,none⟩) x m2 (rvW x) t).toArray (quz hx (by rw [hp2.wl,qbk hx])) qq2 (by rw [qaN hx hp2.wl,qbk hx]; exact Nat.le_of_ble_eq_true rfl) fun w5 c5 f5=>?_
   refine qac ?_
   refine qaQ (off:=0+94) c5 (bothV (some ⟨dbk,0,none⟩) (some ⟨pb,0,none⟩) x m2 (rvW x) x.turn).toArray (qni hx (qbk hx)) rfl (by rw [qaN hx (qbk hx)]; exact Nat.le_of_ble_eq_true rfl) fun w6 c6 f6=>?_
   have f36:Fr [bb] w3 w6:=(f4.trans f5).trans f6
   refine qaf (fun _ w'=>w'.heap[bb]?=some (.cells (bothV (some ⟨dbk,0,none⟩) (some ⟨pb,0,none⟩) x m2 (rvW x) (if M.over then -1 else x.turn)).toArray BTT (0,0))/\Fr [bb] w3 w') ?_ ?_
   ·refine qac ?_
    refine qae (c:=.bool) (off:=0+2+36) c6 x.over (qg4 hx) ?_
    rw [xo]
    refine qaa (fun hc=>?_) (fun hc=>?_)
    ·refine qac ?_
     refine qaQ (off:=0+94) c6 (bothV (some ⟨dbk,0,none⟩) (some ⟨pb,0,none⟩) x m2 (rvW x) (-1)).toArray (qni hx (qbk hx)) rfl (by rw [qaN hx (qbk hx)]; exact Nat.le_of_ble_eq_true rfl) fun w7 c7 f7=>?_
     rw [if_pos hc]
     exact ⟨c7,f36.trans f7⟩
    ·rw [if_neg (by rw [hc]; decide)]
     exact ⟨c6,f36⟩
   rintro _ w7 ⟨c7,f7⟩
   have f7d:Fr [bb] w3 w7.drew:=f7.drew
   have c7d:w7.drew.heap[bb]?=some (.cells (bothV (some ⟨dbk,0,none⟩) (some ⟨pb,0,none⟩) x m2 (rvW x) (if M.over then -1 else x.turn)).toArray BTT (0,0)):=c7
   generalize World.drew w7=we at f7d c7d
   refine qac ?_
   refine qae (c:=.ptr) (off:=0+66) c7d m2 (qse hx) ?_
   refine qac ?_
   refine qae (c:=.bool) (off:=0+2+36) c7d x.over (qg4 hx) ?_
   have fbX:Fr (X++F) w3 we:=f7d.mono fun b hb _=>by rw [List.mem_singleton.1 hb]; exact List.mem_append_left _ hp2.bx
   have hr7:RP (X++F) we x D M':=hp3.ref.frame fbX fun b hb=>.inl hb
   have h7:=hp3.cellSet c7d f7d hr7 (qbk hx) qq2
   have f27:Fr (bb::(FD++F)) w2 we:=((f0 fd).trans (f0 f3)).trans (fB f7d)
   have e:(m2.isNone==x.over)=true:=by
    rw [xo]
    cases ho:M.over with
    | true=>rw [hov ho]; rfl
    | false=>obtain ⟨kb,e,_⟩:=hno ho; rw [e]; rfl
   rw [e]
   refine kk pb FD X F x M' M' m2 (rvW x) (if M.over then -1 else x.turn) we ?_ ?_ (fS f27) fun b hb=>.inl hb
   ·rw [es]
    refine ⟨h7.lims (by omega),fun hn=>?_,fun q hq=>?_⟩
    ·cases ho:M.over with
     | true=>exact hov ho
     | false=>dsimp only at hn; rw [ho] at hn; cases hn
    ·cases ho:M.over with
     | true=>dsimp only at hq; rw [ho] at hq; cases hq
     | false=>
      dsimp only at hq
      rw [ho] at hq
      have hq:M=q:=Option.some.inj hq
      subst hq
      obtain ⟨kb,e,hm⟩:=hno ho
      exact ⟨⟨kb,e,hm.frame fbX fun b hb=>.inl hb⟩,hr7.work⟩
   ·rw [es]
    refine ⟨hsim,hwf,hnm,⟨ht1.1,by dsimp only; omega⟩,⟨ht2.1,by omega⟩,fun q hq=>?_,tw,hdead⟩
    cases ho:M.over with
    | true=>dsimp only at hq; rw [ho] at hq; cases hq
    | false=>
     dsimp only at hq
     rw [ho] at hq
     have hq:M=q:=Option.some.inj hq
     subst hq
     rw [if_neg (by decide),xt]
     exact ⟨hsim,hwf,hnm,ho,rfl,fun _=>⟨Int.le_refl _,by show M'.turn-M'.turn=M.turn-M.turn; omega,fun _=>⟨rfl,rfl,rfl⟩⟩⟩
  refine qt3 hpd.pager (by have:=hsm.free; omega) (by have:=hsm.deferred; omega) (fun ho=>?_) (fun ho kb w3 hm f3=>?_)
  ·exact tail none wd (.refl _ _) (fun _=>rfl) fun h'=>by rw [ho] at h'; cases h'
  ·exact tail (some ⟨kb,0,none⟩) w3 f3 (fun h'=>by rw [ho] at h'; cases h') fun _=>⟨kb,rfl,hm⟩
 have hc7:¬ a.act%12=7:=by simpa using hc
 refine qaa (fun hc=>?_) (fun hc=>?_)
 ·-- Back
  have h8:a.act%12=8:=by simpa using hc
  have es:stepM a ⟨D,M,mk⟩=⟨D,backM M mk,mk⟩:=by rw [stepM,if_neg hc5,if_neg hc6,if_neg hc7,if_pos h8]
  have fd:Fr [] w2 w2.drew:=(Fr.refl [] w2).drew
  have h2d:=h2.frame0 fd
  have sd:w2.drew.heap.size=w2.heap.size:=rfl
  generalize World.drew w2=wd at h2d fd sd
  have hpd:Pair wd bb dbk pb FD X F x D M D M' k m wv t:=h2d.pair
  refine qac ?_
  refine qae (c:=.ptr) (off:=0+1) hpd.cell (some ⟨pb,0,none⟩) qck ?_
  refine qac ?_
  refine qae (c:=.ptr) (off:=0+66) hpd.cell m (qse hx) ?_
  have xt:x.turn=M'.turn:=hpd.ref.turn
  have xo:x.over=M.over:=by rw [hpd.ref.over]; exact hsim.over
  have same:∀ {w':World},backM M mk=M->Fr [] w2 w'->K true w':=fun {w'} e f=>by
   refine kk pb FD X F x M' q' m wv t w' ?_ ?_ (fS (f0 f)) fun b hb=>.inl hb
   ·rw [es,e]; exact (h2.frame0 f).lims (by omega)
   ·rw [es,e]; exact ⟨hsim,hwf,hnm,⟨ht1.1,by dsimp only; omega⟩,⟨ht2.1,by omega⟩,hmk,tw,hdead⟩
  refine quw (q:=mk.getD M) hpd.pager (S:=X++F) (fun b hb=>hb) (fun hm=>?_) (fun ho=>?_) (fun ho hno=>?_) (fun ho hm htq F3 w3 hp3 f3 n3=>?_)
  ·cases hk:mk with
   | none=>exact absurd (h2d.mnone hk) hm
   | some q=>
    obtain ⟨⟨kb,e,hmm⟩,_⟩:=h2d.msome q hk
    have hs:=(hmk q hk).wf.small
    exact ⟨kb,e,hmm,Nat.le_trans hs.free (by decide),Nat.le_trans hs.deferred (by decide)⟩
  ·refine qac ?_
   refine qae (c:=.bool) (off:=0+2+36) hpd.cell x.over (qg4 hx) ?_
   rw [xo]
   refine cond_true ho ?_
   exact same (by unfold backM; exact if_pos ho) fd
  ·have fe:Fr [] w2 wd.drew:=fd.drew
   have hpe:=hpd.frame0 (Fr.refl [] wd).drew
   generalize World.drew wd=we at fe hpe
   refine qac ?_
   refine qae (c:=.bool) (off:=0+2+36) hpe.cell x.over (qg4 hx) ?_
   rw [xo]
   refine cond_false ho ?_
   have hpf:=hpe.frame0 (Fr.refl [] we).drew
   have ff:Fr [] w2 we.drew:=fe.drew
   refine qaf (fun b w'=>b=true/\w'=we.drew) ?_ ?_
   ·refine qac ?_
    refine qae (w:=we.drew) (c:=.ptr) (off:=0+66) hpf.cell m (qse hx) ?_
    cases hme:m with
    | none=>exact cond_true rfl ⟨rfl,rfl⟩
    | some ad=>
     refine cond_false rfl ?_
     refine qac ?_
     rw [hme] at hpf hno
     refine qae (w:=we.drew) (c:=.int .i64) (off:=0+94) hpf.cell t (qvC hx hp2.wl) ?_
     refine qac ?_
     refine qae (w:=we.drew) (c:=.int .i64) (off:=0+2+35) hpf.cell x.turn (qgZ hx) ?_
     refine ⟨?_,rfl⟩
     cases hk:mk with
     | none=>have:=h2d.mnone hk; rw [hme] at this; cases this
     | some q=>
      rw [hk] at hno
      have hmq:=hmk q hk
      have hl:=hmq.live ho
      have hne:q.turn≠M.turn:=hno.resolve_left (by simp)
      have:t≠x.turn:=by rw [hmq.turn,xt]; omega
      simp [this]
   rintro b w' ⟨rfl,rfl⟩
   refine cond_true rfl ?_
   refine same ?_ ff
   cases hk:mk with
   | none=>unfold backM; rw [if_neg (by rw [ho]; decide)]
   | some q=>
    rw [hk] at hno
    unfold backM; rw [if_neg (by rw [ho]; decide)]
    refine if_neg fun e=>?_
    rcases hno with hn | hn
    ·obtain ⟨⟨kb,e',_⟩,_⟩:=h2d.msome q hk
     rw [hn] at e'; cases e'
    ·exact hn e
  ·obtain ⟨q,hk⟩:∃ q,mk=some q:=by
    cases hk:mk with
    | none=>exact absurd (h2d.mnone hk) hm
    | some q=>exact ⟨q,rfl⟩
   subst hk
   have htq:q.turn=M.turn:=htq
   have hmq:=hmk q rfl
   obtain ⟨l0,l1,l2⟩:=hmq.live ho
   obtain ⟨s1,s2,s3⟩:=l2 htq
   have eq1:({ M with free:=q.free,deferred:=q.deferred,fresh:=q.fresh,roots:=q.roots }:PgM)=q:=quL s1 s2 s3 htq (by rw [hmq.over]; exact ho.symm)
   have hp3:PagerAt w3 X pb (dbOf dbk M) F3 q:=by rw [<- eq1]; exact hp3
   have h3:=hpd.real (M2:=q) hp3 (by rw [hmq.over]; exact ho.symm) f3 n3
   refine qac ?_
   refine qae (c:=.bool) (off:=0+2+36) h3.cell x.over (qg4 hx) ?_
   rw [xo]
   refine cond_false ho ?_
   have h3e:=h3.frame0 (Fr.refl [] w3).drew
   have hme:=(h2d.msome q rfl).2
   refine qaf (fun b w'=>b=false/\w'=w3.drew) ?_ ?_
   ·refine qac ?_
    refine qae (w:=w3.drew) (c:=.ptr) (off:=0+66) h3e.cell m (qse hx) ?_
    cases hmm:m with
    | none=>exact absurd hmm hm
    | some ad=>
     refine cond_false rfl ?_
     rw [hmm] at h3e
     refine qac ?_
     refine qae (w:=w3.drew) (c:=.int .i64) (off:=0+94) h3e.cell t (qvC hx hp2.wl) ?_
     refine qac ?_
     refine qae (w:=w3.drew) (c:=.int .i64) (off:=0+2+35) h3e.cell x.turn (qgZ hx) ?_
     refine ⟨?_,rfl⟩
     have:t=x.turn:=by rw [hmq.turn,xt]; omega
     simp [this]
   rintro b w' ⟨rfl,rfl⟩
   refine cond_false rfl ?_
   have sz3:w3.drew.heap.size=w3.heap.size:=rfl
   have f3e:Fr F wd w3.drew:=f3.drew
   generalize World.drew w3=we at h3e f3e sz3
   refine qac ?_
   refine qas (off:=0+67) h3e.cell wv hp2.wl (qv7 hx hp2.wl) ?_
   refine qac (qak hp2.wl ?_)
   obtain ⟨sf,sd',sfr,ew,g1,g2,g3,gr⟩:=hme
   subst ew
   have hx5:({ x with sf:=sf,sd:=sd',sfr:=sfr,roots:=q'.roots }:RV).Ok:=⟨hx.sup,gr⟩
   have hwl:([slV sf,slV sd',slV sfr]++q'.roots.map (Value.int .u32)).length=27:=hp2.wl
   have hw1:([slV sf,slV sd',slV sfr]++q'.roots.map (Value.int .u32)).all Value.oneCell'=true:=hp2.w1
   refine qaQ (off:=0+2+37) h3e.cell (bothV (some ⟨dbk,0,none⟩) (some ⟨pb,0,none⟩) { x with sf:=sf,sd:=sd',sfr:=sfr,roots:=q'.roots } m ([slV sf,slV sd',slV sfr]++q'.roots.map (Value.int .u32)) t).toArray (qvm hx gr) hw1 (by rw [qaN hx hwl,hwl]; exact Nat.le_of_ble_eq_true rfl) fun w5 c5 f5=>?_
   have hnew:∀ b∈X++F3,b∈X++F\/wd.heap.size<=b:=qjh n3
   have fX:∀ {a b:World},Fr [bb] a b->Fr (X++F) a b:=fun f=>f.mono fun b hb _=>by rw [List.mem_singleton.1 hb]; exact List.mem_append_left _ hp2.bx
   have fd5:Fr (X++F) wd w5:=(f3e.mono fun b hb _=>List.mem_append_right _ hb).trans (fX f5)
   have sm:=hmq.sim
   have hr5:RP (X++F3) w5 { x with sf:=sf,sd:=sd',sfr:=sfr,roots:=q'.roots } D { M' with free:=q'.free,deferred:=q'.deferred,fresh:=q'.fresh,roots:=q'.roots }:=by
    have hr:=h3e.ref.frame (S':=X++F3) (f5.mono fun b hb _=>by rw [List.mem_singleton.1 hb]; exact List.mem_append_left _ hp2.bx) fun b hb=>.inl hb
    exact ⟨hr.disk,hr.sup,hr.lists,hr.named,hr.turn,hr.over,g1.frame fd5 hnew,g2.frame fd5 hnew,g3.frame fd5 hnew,rfl,hx5⟩
   have h5:=h3e.cellSet c5 f5 hr5 hwl hw1
   have f25:Fr (bb::(FD++F)) w2 w5:=((f0 fd).trans (f3e.mono fun b hb _=>List.mem_cons_of_mem _ (List.mem_append_right _ hb))).trans (fB f5)
   have hnew2:∀ b∈X++F3,b∈X++F\/w2.heap.size<=b:=fun b hb=>(hnew b hb).imp id fun h'=>by omega
   have eb:backM M (some q)=q:=by unfold backM; rw [if_neg (by rw [ho]; decide)]; exact if_pos htq
   have sM:=hsim
   refine kk pb FD X F3 { x with sf:=sf,sd:=sd',sfr:=sfr,roots:=q'.roots } { M' with free:=q'.free,deferred:=q'.deferred,fresh:=q'.fresh,roots:=q'.roots } q' m ([slV sf,slV sd',slV sfr]++q'.roots.map (Value.int .u32)) t w5 ?_ ?_ (fS f25) (nS hnew2)
   ·rw [es,eb]
    exact (h2.turn h5 (toX f25) hnew2).lims (by omega)
   ·rw [es,eb]
    have hover':M'.over=false:=by rw [sM.over]; exact ho
    refine ⟨⟨?_,?_,?_,?_,sm.free,sm.deferred,sm.roots,sm.perm,sm.sorted⟩,hmq.wf,hmq.named,⟨by dsimp only; omega,by dsimp only; omega⟩,⟨ht2.1,by show M'.turn<=_; omega⟩,fun q2 hq2=>?_,tw,fun h'=>by rw [hmq.over] at h'; cases h'⟩
    ·show M'.sup=q.sup; rw [sM.sup,s1]
    ·show M'.lists=q.lists; rw [sM.lists,s2]
    ·show M'.named=q.named; rw [sM.named,s3]
    ·show M'.over=q.over; rw [hover',hmq.over]
    ·have hq2:q=q2:=Option.some.inj hq2
     subst hq2
     exact ⟨sm,hmq.wf,hmq.named,hmq.over,hmq.turn,fun _=>⟨Int.le_refl _,by show M'.turn-q'.turn=q.turn-q.turn; omega,fun _=>⟨rfl,rfl,rfl⟩⟩⟩
 have hc8:¬ a.act%12=8:=by simpa using hc
 refine qaa (fun hc=>?_) (fun hc=>?_)
 ·-- opened anew
  have h9:a.act%12=9:=by simpa using hc
  have es:stepM a ⟨D,M,mk⟩=anewM ⟨D,M,mk⟩:=by rw [stepM,if_neg hc5,if_neg hc6,if_neg hc7,if_neg hc8,if_pos h9]
  refine qrq h2 hT hj hv2 fun pb2 F2 x2 M2' m2 t2 w3 h3 hT3 f3 n3=>?_
  refine kk pb2 FD X F2 x2 M2' q' m2 wv t2 w3 ?_ ?_ (fS (fB f3)) (nS n3)
  ·rw [es]; exact h3.lims (by omega)
  ·rw [es]; exact hT3
 have hc9:¬ a.act%12=9:=by simpa using hc
 refine qaa (fun hc=>?_) (fun hc=>?_)
 ·-- Fuse
  have h10:a.act%12=10:=by simpa using hc
  have es:stepM a ⟨D,M,mk⟩=⟨fuseM D (a.n%20),M,mk⟩:=by rw [stepM,if_neg hc5,if_neg hc6,if_neg hc7,if_neg hc8,if_neg hc9,if_pos h10]
  have hn20:IntKind.wrap .i64 (Int.tmod o1 20)=a.n%20:=by
   rw [en,Int.tmod_eq_emod_of_nonneg hnu.1]
   exact wi' _ (by omega)
  have fd:Fr [] w2 w2.drew:=(Fr.refl [] w2).drew
  have hod:=ho.drew
  have h2d:=h2.frame0 fd
  generalize World.drew w2=wd at h2d fd hod
  have hpd:Pair wd bb dbk pb FD X F x D M D M' k m wv t:=h2d.pair
  refine qac ?_
  refine qae (c:=.ptr) hpd.cell (some ⟨dbk,0,none⟩) qtU ?_
  refine Own.ld (c:=.int .u32) hod 0 rfl o1 rfl ?_
  rw [hn20]
  refine quq hpd.disk fun w3 hd3 f3=>?_
  have hdb:dbk∈FD:=hpd.disk.mem
  have f3d:Fr [dbk] wd w3.drew:=f3.drew
  have hd3d:DiskAt w3.drew dbk FD (fuseM D (a.n%20)):=hd3.frame0 (Fr.refl [] w3).drew
  generalize World.drew w3=we at f3d hd3d
  have hr1:r1∉FD/\r1≠bb:=⟨fun hm=>by have:=h.pair.disk.lt r1 hm; omega,fun e=>by have:=qab h.pair.cell; omega⟩
  have bbne:bb∉[dbk]:=fun hm=>hpd.nd (List.mem_singleton.1 hm▸hdb)
  have c1:wd.heap[r1]?=some (.cells (opA (o0,o1,o2,o3,o4,o5)) OPT (0,0)):=hod.at (i:=0) rfl
  have c1e:we.heap[r1]?=some (.cells (opA (o0,o1,o2,o3,o4,o5)) OPT (0,0)):=by rw [f3d.block r1 (qab c1) (fun hm=>hr1.1 (List.mem_singleton.1 hm▸hdb))]; exact c1
  have ce:=hpd.cell
  rw [<- f3d.block bb (qab ce) bbne] at ce
  refine qac ?_
  refine qke (cl:=dC) (off:=0+2) ce x.d (qoA hx) ?_
  refine qae (c:=.int .u32) c1e o1 rfl ?_
  rw [hn20]
  have f3X:Fr (X++F) wd we:=f3d.mono fun b hb _=>by rw [List.mem_singleton.1 hb]; exact List.mem_append_left _ (hp2.sub _ hdb)
  have hre:=hpd.ref.frame (S':=X++F) f3X fun b hb=>.inl hb
  refine quf hre.disk fun d' w4 hrd4 f4=>?_
  have c4:=ce
  rw [<- f4.block bb (qab ce) (by simp)] at c4
  refine qac ?_
  have hx5:({ x with d:=d' }:RV).Ok:=⟨hx.sup,hx.roots⟩
  refine qaQ (off:=0+2) c4 (bothV (some ⟨dbk,0,none⟩) (some ⟨pb,0,none⟩) { x with d:=d' } m wv t).toArray (qqT hx) rfl (by rw [qaN hx hp2.wl]; exact Nat.le_of_ble_eq_true rfl) fun w5 c5 f5=>?_
  have f5X:Fr (X++F) w4 w5:=f5.mono fun b hb _=>by rw [List.mem_singleton.1 hb]; exact List.mem_append_left _ hp2.bx
  have hr5:=(hre.frame0 f4).frame (S':=X++F) f5X fun b hb=>.inl hb
  have hrd5:=hrd4.frame (S':=X++F) f5X fun b hb=>.inl hb
  have fe5:Fr [dbk,bb] wd w5:=((f3d.mono fun b hb _=>by rw [List.mem_singleton.1 hb]; simp).trans (f0 f4)).trans (f5.mono fun b hb _=>by rw [List.mem_singleton.1 hb]; simp)
  have fe5X:Fr X wd w5:=fe5.mono fun b hb _=>by
   rcases List.mem_cons.1 hb with rfl | hb
   ·exact hp2.sub _ hdb
   ·rw [List.mem_singleton.1 hb]; exact hp2.bx
  have h5:Pair w5 bb dbk pb FD X F { x with d:=d' } (fuseM D (a.n%20)) M (fuseM D (a.n%20)) M' k m wv t:=
   ⟨c5,(hd3d.frame0 f4).frame f5 fun b hb hm=>hp2.nd ((show b=bb from List.mem_singleton.1 hm)▸hb),hp2.lim.fuse (by omega),hpd.pager.frameX fe5X (fun b hb=>Nat.lt_of_lt_of_le (hpd.pager.xlt b hb) fe5X.size) (fun b hb=>.inl hb),hp2.sub,hp2.bx,hp2.nd,
    ⟨hrd5,hr5.sup,hr5.lists,hr5.named,hr5.turn,hr5.over,hr5.free,hr5.deferred,hr5.fresh,hr5.roots,hx5⟩,hp2.wl,hp2.w1⟩
  have f25:Fr (bb::(FD++F)) w2 w5:=(f0 fd).trans (fe5.mono fun b hb _=>by
   rcases List.mem_cons.1 hb with rfl | hb
   ·exact List.mem_cons_of_mem _ (List.mem_append_left _ hdb)
   ·rw [List.mem_singleton.1 hb]; simp)
  refine kk pb FD X F { x with d:=d' } M' q' m wv t w5 ?_ ?_ (fS f25) fun b hb=>.inl hb
  ·rw [es]; exact (h2.turn h5 (toX f25) fun b hb=>.inl hb).lims (by omega)
  ·rw [es]
   exact ⟨hsim,hwf,hnm,⟨ht1.1,by dsimp only; omega⟩,⟨ht2.1,by omega⟩,hmk,by show 2<=(fuseM D (a.n%20)).safe.length; rw [qtG]; exact tw,hdead⟩
 have hc10:¬ a.act%12=10:=by simpa using hc
 refine qaa (fun hc=>?_) (fun hc=>?_)
 ·-- Crash
  have h11:a.act%12=11:=by simpa using hc
  have es:stepM a ⟨D,M,mk⟩=anewM ⟨crashM D a.lost,M,mk⟩:=by rw [stepM,if_neg hc5,if_neg hc6,if_neg hc7,if_neg hc8,if_neg hc9,if_neg hc10,if_pos h11]
  have fd:Fr [] w2 w2.drew:=(Fr.refl [] w2).drew
  have hod:=ho.drew
  have h2d:=h2.frame0 fd
  have hlost:=hop.lost.frame0 (f2.trans fd)
  generalize World.drew w2=wd at h2d fd hod hlost
  have hpd:Pair wd bb dbk pb FD X F x D M D M' k m wv t:=h2d.pair
  refine qac ?_
  refine qae (c:=.ptr) hpd.cell (some ⟨dbk,0,none⟩) qtU ?_
  refine Own.ld (c:=.slice) hod 0 rfl o5 rfl ?_
  refine qtd hpd.disk hpd.lim.ok (hlost.weak fun b hb=>.inl (List.mem_append_left _ (hp2.sub b hb))) fun FD3 w3 hd3 f3 n3=>?_
  have f3d:Fr FD wd w3.drew:=f3.drew
  have hd3d:DiskAt w3.drew dbk FD3 (crashM D a.lost):=hd3.frame0 (Fr.refl [] w3).drew
  generalize World.drew w3=we at f3d hd3d
  have hr1:r1∉FD:=fun hm=>by have:=h.pair.disk.lt r1 hm; omega
  have c1:wd.heap[r1]?=some (.cells (opA (o0,o1,o2,o3,o4,o5)) OPT (0,0)):=hod.at (i:=0) rfl
  have c1e:we.heap[r1]?=some (.cells (opA (o0,o1,o2,o3,o4,o5)) OPT (0,0)):=by rw [f3d.block r1 (qab c1) hr1]; exact c1
  have ce:=hpd.cell
  rw [<- f3d.block bb (qab ce) hp2.nd] at ce
  refine qac ?_
  refine qke (cl:=dC) (off:=0+2) ce x.d (qoA hx) ?_
  refine qae (c:=.slice) c1e o5 rfl ?_
  have f3X:Fr (X++F) wd we:=f3d.mono fun b hb _=>List.mem_append_left _ (hp2.sub _ hb)
  have hre:=hpd.ref.frame (S':=X++F) f3X fun b hb=>.inl hb
  have hle:=hlost.frame (S':=X++F) f3X fun b hb=>.inl hb
  have hS:∀ b∈X++F,b<we.heap.size:=fun b hb=>Nat.lt_of_lt_of_le (hpd.lt b hb) f3X.size
  refine qti hre.disk hp2.lim.ok hS hle fun d' w4 hrd4 f4=>?_
  have c4:=ce
  rw [<- f4.block bb (qab ce) (by simp)] at c4
  refine qac ?_
  have hx5:({ x with d:=d' }:RV).Ok:=⟨hx.sup,hx.roots⟩
  refine qaQ (off:=0+2) c4 (bothV (some ⟨dbk,0,none⟩) (some ⟨pb,0,none⟩) { x with d:=d' } m wv t).toArray (qqT hx) rfl (by rw [qaN hx hp2.wl]; exact Nat.le_of_ble_eq_true rfl) fun w5 c5 f5=>?_
  have f5X:Fr (X++F) w4 w5:=f5.mono fun b hb _=>by rw [List.mem_singleton.1 hb]; exact List.mem_append_left _ hp2.bx
  have hr5:=(hre.frame0 f4).frame (S':=X++F) f5X fun b hb=>.inl hb
  have hrd5:=hrd4.frame (S':=X++F) f5X fun b hb=>.inl hb
  have fe5:Fr (bb::FD) wd w5:=((f3d.mono fun b hb _=>List.mem_cons_of_mem _ hb).trans (f0 f4)).trans (f5.mono fun b hb _=>by rw [List.mem_singleton.1 hb]; simp)
  have fe5X:Fr X wd w5:=fe5.mono fun b hb _=>(List.mem_cons.1 hb).elim (fun e=>by rw [e]; exact hp2.bx) (hp2.sub b)
  have h5:Pair w5 bb dbk pb FD3 X F { x with d:=d' } (crashM D a.lost) M (crashM D a.lost) M' k m wv t:=
   ⟨c5,(hd3d.frame0 f4).frame f5 fun b hb hm=>hp2.nd ((show b=bb from List.mem_singleton.1 hm)▸n3 b hb),hp2.lim.crash,hpd.pager.frameX fe5X (fun b hb=>Nat.lt_of_lt_of_le (hpd.pager.xlt b hb) fe5X.size) (fun b hb=>.inl hb),fun b hb=>hp2.sub b (n3 b hb),hp2.bx,fun hm=>hp2.nd (n3 _ hm),
    ⟨hrd5,hr5.sup,hr5.lists,hr5.named,hr5.turn,hr5.over,hr5.free,hr5.deferred,hr5.fresh,hr5.roots,hx5⟩,hp2.wl,hp2.w1⟩
  have f25:Fr (bb::(FD++F)) w2 w5:=(f0 fd).trans (fe5.mono fun b hb _=>(List.mem_cons.1 hb).elim (fun e=>by rw [e]; simp) fun hb=>List.mem_cons_of_mem _ (List.mem_append_left _ hb))
  have hD5:=h2.turn h5 (toX f25) fun b hb=>.inl hb
  have hv5:Hv w5:=(hv2.frame0 fd).frame fe5 fun hm=>(List.mem_cons.1 hm).elim hgb hg
  have hT5:Twin ⟨crashM D a.lost,M,mk⟩ M' q' t j:=⟨hsim,hwf,hnm,ht1,ht2,hmk,by show 2<=(crashM D a.lost).safe.length; rw [qr7]; exact tw,hdead⟩
  refine qrq hD5 hT5 hj hv5 fun pb2 F2 x2 M2' m2 t2 w6 h6 hT6 f6 n6=>?_
  have hsz5:=f25.size
  refine kk pb2 FD3 X F2 x2 M2' q' m2 wv t2 w6 ?_ ?_ (fS (f25.trans (fB f6))) fun b hb=>(n6 b hb).imp id fun h'=>by omega
  ·rw [es]; exact h6.lims (by omega)
  ·rw [es]; exact hT6
 have hc11:¬ a.act%12=11:=by simpa using hc
 have es:stepM a ⟨D,M,mk⟩=⟨D,pageA D M a,mk⟩:=by rw [stepM,if_neg hc5,if_neg hc6,if_neg hc7,if_neg hc8,if_neg hc9,if_neg hc10,if_neg hc11]
 refine Own.ldA (cl:=opCs) ho 0 rfl (o0,o1,o2,o3,o4,o5) rfl ?_
 refine quW (o:=(o0,o1,o2,o3,o4,o5)) hp2 hwf.small (hsim.wf hwf).small hp2.lim.ok hv2 (hop.frame0 f2) hl fun F2 x2 w3 h3 f3 n3=>?_
 have hp:=qus hsim hwf D a hop.rn hop.rkind hop.rlong hop.rbody
 rw [qi9] at h3
 have hsup:=qjN D M a
 have ht:=(qsd D D M M' a).2
 have f23:Fr (bb::(FD++F)) w2 w3:=f3.mono fun b hb _=>(List.mem_cons.1 hb).elim (fun e=>by rw [e]; simp) fun hb=>List.mem_cons_of_mem _ (List.mem_append_right _ hb)
 have hnew:∀ b∈X++F2,b∈X++F\/w2.heap.size<=b:=qjh n3
 have hp1:(pageM D D M M' a).1=true:=hp.1
 rw [hp1]
 refine kk pb FD X F2 x2 (pageM D D M M' a).2.2 q' m wv t w3 ?_ ?_ (fS f23) (nS hnew)
 ·rw [es]; exact (h2.turn h3 (toX f23) hnew).lims (by omega)
 ·rw [es]
  refine ⟨hp.2,qvi hwf hop.rn hop.rkind hop.rlong hop.rbody,qrZ hwf hnm,?_,?_,fun q hq=>(hmk q hq).step fun ho2=>?_,tw,qs8 hdead⟩
  ·dsimp only; rw [hsup.2.2.2.2]; exact ⟨ht1.1,by omega⟩
  ·rw [ht]; exact ⟨ht2.1,by omega⟩
  ·have ho2:(pageA D M a).over=false:=ho2
   rw [hsup.2.2.2.1] at ho2
   refine ⟨ho2,?_,?_,fun _=>⟨hsup.1,hsup.2.1,hsup.2.2.1⟩⟩
   ·show (pageM D D M M' a).2.2.turn-M'.turn=(pageA D M a).turn-M.turn
    rw [ht,hsup.2.2.2.2]; omega
   ·show M.turn<=(pageA D M a).turn
    rw [hsup.2.2.2.2]; exact Int.le_refl _
section
theorem qvG {w:World} {b off:Nat} {cs:Array Value} {T:TypeId} {fr:Nat×Nat} {v:Value} (hb:w.heap[b]?=some (.cells cs T fr)) (hx:cs[off]?=some v):w.cell? ⟨b,off,none⟩=some v:=by rw [qaj hb]; exact hx
section
variable {d p m:Option Addr} {x:RV} {wv:List Value} {t:Int}
end
end
def opZ:Array Value:=#[.int .u8 0,.int .u32 0,.int .u8 0,.slice none 0 0,.int .u16 0,.slice none 0 0]
theorem qv0 (o:OpC):splice opZ 0 (HL.mk opCs o)=opA o:=rfl
section
theorem qt5 {b:Int} (hb:0<=b/\b<256):IntKind.wrap .i64 (8+IntKind.wrap .i64 (Int.tmod b 33))=((8+(b%33).toNat:Nat):Int):=by
 have e:=Int.tmod_eq_emod_of_nonneg (b:=33) hb.1
 rw [e,wi' (b%33) (by omega),wi' (8+b%33) (by omega)]
 omega
theorem qtb {w:World} {n:Nat} {Kf:World->Prop} {K:Nat->World->Prop} (hv:Hv w) (h8:8<=n) (h4:n<=4096)
  (hk:∀ bb dbk pb FD F x D w',Duo w' bb dbk pb FD (bb::FD) F x ⟨D,madeM n,none⟩ (madeM n) (madeM n) 5000 none wvZ 0->Twin ⟨D,madeM n,none⟩ (madeM n) (madeM n) 0 1->Made D n->Fr [] w w'->(∀ b∈(bb::FD)++F,w.heap.size<=b)->K bb w') :
  call Tryz.prog 26 [.int .i64 n] [.raw,.one .bool] w fun t w1=>newZ Tryz.prog BTT w1 fun r w2=>chk (t.1.length=95)<|st ⟨r,0,none⟩ t.1 w2 fun w3=>cond (!t.2) (Kf w3) (K r w3):=by
 refine qub (n:=n) hv h8 h4 fun dbk pb FD F D x w2 hdk hlm hpg hmade hrp f2 n2=>?_
 have hx:=hrp.ok
 have l95:=qpd (d:=some ⟨dbk,0,none⟩) (p:=some ⟨pb,0,none⟩) (m:=none) (t:=0) hx qb7
 refine Own.newZ (Own.start [] w2) qr5 fun bb w3 e3 ho3=>?_
 refine qak l95 ?_
 refine Own.st' ho3 0 rfl (bothV (some ⟨dbk,0,none⟩) (some ⟨pb,0,none⟩) x none wvZ 0).toArray (qaZ (by rw [qaN qaq qb7,l95])) (qsS qmT) (by rw [qaN qaq qb7,l95]; exact Nat.le_of_ble_eq_true rfl) fun w4 ho4 f4=>?_
 refine cond_false rfl ?_
 have f24:=ho4.fr
 have lbb:w2.heap.size<=bb:=by omega
 have hsz2:=f2.size
 have hD12:D.safe.length=n:=by have:(D.safe.length:Int)=(n:Nat):=hmade.size; omega
 have hP0:Pair w4 bb dbk pb FD (bb::FD) F x D (madeM n) D (madeM n) 5000 none wvZ 0:=by
  refine ⟨ho4.at (i:=0) rfl,hdk.frame0 f24,hlm,hpg.frameX (X':=bb::FD) (f24.mono fun b hb=>nomatch hb) (fun b hb=>?_) (fun b hb=>?_),fun b hb=>List.mem_cons_of_mem _ hb,by simp,fun hm=>by have:=hdk.lt bb hm; omega,hrp.frame (f24.mono fun b hb=>nomatch hb) (fun b hb=>?_),qb7,qmT⟩
  ·exact (List.mem_cons.1 hb).elim (fun e=>by rw [e]; exact qab (ho4.at (i:=0) rfl)) fun hb=>Nat.lt_of_lt_of_le (hdk.lt b hb) f24.size
  ·exact (List.mem_cons.1 hb).elim (fun e=>.inr (by rw [e]; exact lbb)) .inl
  ·rcases List.mem_append.1 hb with hb | hb
   ·exact (List.mem_cons.1 hb).elim (fun e=>.inr (by rw [e]; exact lbb)) fun hb=>.inl (List.mem_append_left _ hb)
   ·exact .inl (List.mem_append_right _ hb)
 refine hk bb dbk pb FD F x D w4 ⟨hP0,fun _=>rfl,fun q hq=>nomatch hq⟩ ⟨⟨rfl,rfl,rfl,rfl,rfl,rfl,rfl,.refl _,.nil⟩,qqZ h8 h4,qcQ _ _ _ _ _,⟨by show (0:Int)<=1; decide,by show (1:Int)<=_; decide⟩,⟨by show (0:Int)<=1; decide,by show (1:Int)<=_; decide⟩,fun q hq=>(nomatch hq),by show 2<=D.safe.length; omega,fun ho=>by cases ho⟩ hmade (f2.trans f24) fun b hb=>?_
 rcases List.mem_append.1 hb with hb | hb
 ·exact (List.mem_cons.1 hb).elim (fun e=>by rw [e]; omega) fun hb=>n2 b (List.mem_append_left _ hb)
 ·exact n2 b (List.mem_append_right _ hb)
def Inv10 (S0:List Nat) (I:StM->Nat->Prop) (w0:World) (bb dbk:Nat) (i:Nat) (w:World):Prop:=
 ∃ (pb:Nat) (FD X F:List Nat) (x:RV) (s:StM) (M' q':PgM) (m:Option Addr) (wv:List Value) (t:Int),
  Duo w bb dbk pb FD X F x s M' q' (5000+5000*i) m wv t/\Twin s M' q' t (1+i)/\Fr S0 w0 w/\(∀ b∈X++F,b∈S0\/w0.heap.size<=b)/\I s i
section
variable {S0:List Nat} {I:StM->Nat->Prop} {w0 w w':World} {bb dbk i:Nat}
theorem Inv10.fr (h:Inv10 S0 I w0 bb dbk i w):Fr S0 w0 w:=by obtain ⟨_,_,_,_,_,_,_,_,_,_,_,_,_,hf,_⟩:=h; exact hf
theorem Inv10.frame0 (h:Inv10 S0 I w0 bb dbk i w) (f:Fr [] w w'):Inv10 S0 I w0 bb dbk i w':=by
 obtain ⟨pb,FD,X,F,x,s,M',q',m,wv,t,hD,hT,hf,hn,hi⟩:=h
 exact ⟨pb,FD,X,F,x,s,M',q',m,wv,t,hD.frame0 f,hT,hf.trans (f.mono fun b hb=>(nomatch hb)),hn,hi⟩
theorem Inv10.skip (h:Inv10 S0 I w0 bb dbk i w) (f:Fr [] w w') (hI:∀ s,I s i->I s (i+1)):Inv10 S0 I w0 bb dbk (i+1) w':=by
 obtain ⟨pb,FD,X,F,x,s,M',q',m,wv,t,hD,hT,hf,hn,hi⟩:=h
 exact ⟨pb,FD,X,F,x,s,M',q',m,wv,t,(hD.frame0 f).lims (by omega),⟨hT.sim,hT.wf,hT.named,by have:=hT.turn; omega,by have:=hT.turn'; omega,hT.mark,hT.two,hT.dead⟩,hf.trans (f.mono fun b hb=>(nomatch hb)),hn,hI s hi⟩
theorem Inv10.step {o:OpC} {a:OpM} {K:Bool->World->Prop} (h:Inv10 S0 I w0 bb dbk i w) (hi:i<=100) (hv:Hv w0) (hgS:HG∉S0) (hop:OpOk S0 w0 o a) (hl:a.body.length<=600)
  (hI:∀ s M' q' t,Twin s M' q' t (1+i)->s.M.roots.length=24->I s i->I (stepM a s) (i+1)) (kk:∀ w',Inv10 S0 I w0 bb dbk (i+1) w'->K true w') :
  call Tryz.prog 27 [.pointer (some ⟨bb,0,none⟩),.agg (opA o)] [.one .bool] w K:=by
 obtain ⟨pb,FD,X,F,x,s,M',q',m,wv,t,hD,hT,hf,hn,hi'⟩:=h
 have hvl:=hv.lt
 have hX:HG∉X:=fun hm=>(hn HG (List.mem_append_left _ hm)).elim hgS fun h'=>by omega
 have hg:HG∉FD:=fun hm=>hX (hD.pair.sub HG hm)
 have hgb:HG≠bb:=fun e=>hX (e▸hD.pair.bx)
 have ha:OpOk (X++F) w o a:=hop.frame hf hn
 have hr:s.M.roots.length=24:=by obtain ⟨_,_,_,_,_,_,_,_,_,hx⟩:=hD.pair.pager; exact hx.rootlen
 have hsz:=hf.size
 refine quU hD hT (by omega) (by omega) (hv.frame hf hgS) hg hgb ha hl fun pb2 FD2 X2 F2 x2 M2' q2' m2 wv2 t2 w2 hD2 hT2 f2 n2=>?_
 refine kk w2 ⟨pb2,FD2,X2,F2,x2,stepM a s,M2',q2',m2,wv2,t2,hD2.lims (by omega),⟨hT2.sim,hT2.wf,hT2.named,by have:=hT2.turn; omega,by have:=hT2.turn'; omega,hT2.mark,hT2.two,hT2.dead⟩,hf.trans' f2 fun b hb=>?_,fun b hb=>?_,hI s M' q' t hT hr hi'⟩
 ·rcases List.mem_cons.1 hb with rfl | hb
  ·exact hn _ (List.mem_append_left _ hD.pair.bx)
  ·exact hn b ((List.mem_append.1 hb).elim (fun h'=>List.mem_append_left _ (hD.pair.sub b h')) (List.mem_append_right _))
 ·exact (n2 b hb).elim (hn b) fun h'=>.inr (by omega)
end
end
structure PInv (n:Nat) (s:StM) (j:Nat):Prop where
 quiet:Quiet s.D
 size:s.D.size=n
 waits:s.D.waits=[]
 opens:Opens s.D s.M.sup s.M.lists s.M.named
 pages:PagesOk s.D s.M
 over:s.M.over=false
 seq:0<=s.M.sup.1/\s.M.sup.1<=1+j
theorem PInv.same {n:Nat} {s:StM} {j:Nat} (h:PInv n s j) {M2:PgM} {k2:Option PgM} (h1:M2.sup=s.M.sup) (h2:M2.lists=s.M.lists) (h3:M2.named=s.M.named) (h4:M2.over=s.M.over):PInv n ⟨s.D,M2,k2⟩ (j+1):=
 ⟨h.quiet,h.size,h.waits,by show Opens s.D M2.sup M2.lists M2.named; rw [h1,h2,h3]; exact h.opens,by
  intro x a b c d
  have b:x<M2.sup.2.getD 0 0:=b
  have c:x∉M2.named:=c
  have d:x∉M2.lists:=d
  rw [h1] at b; rw [h3] at c; rw [h2] at d
  exact h.pages x a b c d,by show M2.over=false; rw [h4]; exact h.over,by show 0<=M2.sup.1/\M2.sup.1<=_; rw [h1]; have:=h.seq; omega⟩
theorem PInv.commit {n:Nat} {s:StM} {j:Nat} (h:PInv n s j) (hj:j<=1000) (hW:s.M.Wf) (hN:s.M.Named) (hr:s.M.roots.length=24):PInv n ⟨(commitM s.D s.M).1.1,(commitM s.D s.M).1.2,s.k⟩ (j+1):=by
 obtain ⟨D,M,k⟩:=s
 replace hW:M.Wf:=hW
 replace hN:M.Named:=hN
 replace hr:M.roots.length=24:=hr
 have hPO:PagesOk D M:=h.pages
 have hQ:Quiet D:=h.quiet
 have hwt:D.waits=[]:=h.waits
 have hov:M.over=false:=h.over
 have same:PInv n ⟨D,M,k⟩ (j+1):=h.same (M2:=M) (k2:=k) rfl rfl rfl rfl
 have hO:Opens D M.sup M.lists M.named:=h.opens
 have hq:0<=M.sup.1/\M.sup.1<=1+j:=h.seq
 show PInv n ⟨(commitM D M).1.1,(commitM D M).1.2,k⟩ (j+1)
 unfold commitM
 rw [if_neg (by rw [hov]; decide)]
 split
 ·exact same
 cases hp:planM M with
 | none=>exact same
 | some y=>
  obtain ⟨pages,named⟩:=y
  dsimp only
  have hns:=qpA (pages:=pages) (named:=named) hW hp hr ⟨hq.1,by omega⟩
  have hfl:=hQ.flushed hW hO.blocks hO.size.1 hp hns.1
  rw [if_neg (by rw [hfl.1]; simp)]
  have hv:=qqp (qrd hwt) hQ.down hW hp hns.1 hfl.1
  refine ⟨hfl.2.1,by show (flushM D M.fresh pages named (nextS M pages named)).1.size=n; rw [hfl.2.2]; exact h.size,hv.waits,?_,?_,rfl,?_⟩
  ·exact hO.next hW hp hns.1 hns.2 hq.1 hv.down hfl.2.2 hv.listed hv.super (hv.rest _ (by omega) (fun hm=>by have:=(hW.keys _ hm).1; omega) (fun hm=>by have:=((qbz hW hp).pgs _ hm).1; omega) (by rw [hns.2]; omega))
  ·refine qr9 hW hN hp hPO (fun m hm h1 h2=>hv.rest m (by omega) h1 h2 (by have:=hns.2; omega)) hv.fresh
  ·show 0<=(nextS M pages named).1/\(nextS M pages named).1<=_
   rw [hns.2]; omega
theorem PInv.step {n:Nat} {s:StM} {j:Nat} {a:OpM} {M' q':PgM} {t:Int} (h:PInv n s j) (hj:j<=1000) (hT:Twin s M' q' t (1+j)) (hr:s.M.roots.length=24) (ha:a.act%12<=8):PInv n (stepM a s) (j+1):=by
 unfold stepM
 split
 ·exact h.commit hj hT.wf hT.named hr
 split
 ·exact h.same rfl rfl rfl rfl
 split
 ·exact h.same rfl rfl rfl rfl
 split
 ·cases hk:s.k with
  | none=>exact h.same (M2:=backM s.M none) (by unfold backM; split <;> rfl) (by unfold backM; split <;> rfl) (by unfold backM; split <;> rfl) (by unfold backM; split <;> rfl)
  | some q=>
   have hm:=hT.mark q hk
   have hl:=hm.live h.over
   by_cases e:q.turn=s.M.turn
   ·have eb:backM s.M (some q)=q:=by unfold backM; rw [if_neg (by rw [h.over]; decide)]; exact if_pos e
    obtain ⟨e1,e2,e3⟩:=hl.2.2 e
    exact h.same (M2:=backM s.M (some q)) (by rw [eb]; exact e1) (by rw [eb]; exact e2) (by rw [eb]; exact e3) (by rw [eb,hm.over,h.over])
   ·have eb:backM s.M (some q)=s.M:=by unfold backM; rw [if_neg (by rw [h.over]; decide)]; exact if_neg e
    exact h.same (M2:=backM s.M (some q)) (by rw [eb]) (by rw [eb]) (by rw [eb]) (by rw [eb])
 split
 ·omega
 split
 ·omega
 split
 ·omega
 ·have hp:=qjN s.D s.M a
  exact h.same hp.1 hp.2.1 hp.2.2.1 hp.2.2.2.1
theorem qsN {D:DiskM} {n:Nat} (h:Made D n):PInv n ⟨D,madeM n,none⟩ 0:=
 ⟨h.quiet,h.size,h.waits,h.opens,fun x h2 hb hn hl=>by
  exfalso
  have hb:x<(fmtSup n).2.getD 0 0:=hb
  rw [h.opens.blocks,h.size] at hb
  have hm:x∈allV n:=qfK.2 ⟨h2,hb⟩
  rw [<- List.take_append_drop (needP (allV n).length) (allV n)] at hm
  rcases List.mem_append.1 hm with hm | hm
  ·exact hl hm
  ·exact hn hm,rfl,⟨by show (0:Int)<=1; decide,by show (1:Int)<=_; decide⟩⟩
theorem PInv.read {n:Nat} {s:StM} {j:Nat} (h:PInv n s j) (hW:s.M.Wf) (hN:s.M.Named) {x:Int} (hx:2<=x/\x<n):(pagerReadM s.D s.M x).2.2=0↔¬ (x∈s.M.all/\x∉s.M.fresh.map (·.1)):=by
 have hsz:=h.size
 by_cases hf:x∈s.M.fresh.map (·.1)
 ·obtain ⟨e,he,rfl⟩:=List.mem_map.1 hf
  rw [qrL h.over hW he]
  exact ⟨fun _ h'=>h'.2 hf,fun _=>rfl⟩
 by_cases ha:x∈s.M.all
 ·rw [quv h.over ha hf]
  exact ⟨fun h'=>absurd h' (by decide),fun h'=>absurd ⟨ha,hf⟩ h'⟩
 ·rw [qs0 h.over h.quiet.down ⟨hx.1,by omega⟩ h.opens.blocks ha]
  refine ⟨fun _ h'=>ha h'.1,fun _=>h.pages x hx.1 (by rw [h.opens.blocks]; omega) (fun hm=>ha ((qqW hN x).2 (.inl hm))) fun hm=>ha ((qqW hN x).2 (.inr (.inr hm)))⟩
abbrev OWT:TypeId:=87
def ownV (P:Int->Bool):List Value:=(List.range 48).map fun (i:Nat)=>.bool (P i)
theorem qic (P:Int->Bool):(ownV P).length=48:=by simp [ownV]
theorem qwl:((Tryz.prog.info? OWT).bind (·.zero)).map (fun z=>z.cells.toList)=some (ownV fun _=>false):=by kernel_rfl
theorem qsO {P:Int->Bool} {n:Nat} (h:n<48):(ownV P).toArray[n]?=some (.bool (P n)):=by simp [ownV,h]
theorem qrb {P Q:Int->Bool} {n:Nat} {b:Bool} (h:n<48) (hQ:∀ i:Nat,i<48->Q i=if i=n then b else P i):splice (ownV P).toArray n [.bool b]=(ownV Q).toArray:=by
 apply Array.ext'
 rw [qav _ _ _ (by rw [List.size_toArray,qic]; simp; omega)]
 apply List.ext_getElem?
 intro i
 show ((ownV P).take n++[Value.bool b]++(ownV P).drop (n+1))[i]?=(ownV Q)[i]?
 have hl:((ownV P).take n).length=n:=by rw [List.length_take,qic]; omega
 rcases Nat.lt_trichotomy i n with h1 | h1 | h1
 ·rw [List.append_assoc,List.getElem?_append_left (by omega),List.getElem?_take,if_pos h1]
  have:=hQ i (by omega)
  rw [if_neg (by omega)] at this
  simp [ownV,show i<48 by omega,this]
 ·subst h1
  rw [List.getElem?_append_left (by simp [hl]),List.getElem?_append_right (by omega),hl]
  have:=hQ i h
  rw [if_pos rfl] at this
  simp [ownV,h,this]
 ·rw [List.getElem?_append_right (by simp [hl]; omega),List.length_append,hl,List.getElem?_drop]
  show (ownV P)[n+1+(i-(n+1))]?=_
  rw [show n+1+(i-(n+1))=i by omega]
  by_cases h48:i<48
  ·have:=hQ i h48
   rw [if_neg (by omega)] at this
   simp [ownV,h48,this]
  ·simp [ownV,h48]
def inL (L:List Int):Int->Bool:=fun i=>decide (i∈L)
def inNot (L R:List Int):Int->Bool:=fun i=>decide (i∈L/\i∉R)
theorem qjB {α:Type} {enc:α->List Value} {k:Nat} {S:List Nat} {w:World} {s:Sl} {l:List α} {r:Nat} {cs0:Array Value} {T0:TypeId} {fr0:Nat×Nat} (h:Rds enc k S w s l) (hr:w.heap[r]?=some (.cells cs0 T0 fr0)) (hne:∀ x o,(cs0.toList.drop o).take k≠enc x):Rds enc k (r::S) w s l:=by
 obtain ⟨h1,h2,h3⟩:=h
 refine ⟨h1,h2,?_⟩
 rcases h3 with h3 | ⟨b,o,cs,T,fr,ha,hb,hn,hc⟩
 ·exact .inl h3
 cases l with
 | nil=>exact .inl rfl
 | cons x l=>
  refine .inr ⟨b,o,cs,T,fr,ha,hb,fun hm=>?_,hc⟩
  rcases List.mem_cons.1 hm with rfl | hm
  ·rw [hr] at hb
   cases hb
   exact hne x (o+0*k) (hc 0 x rfl)
  ·exact hn hm
theorem qpN {P:Int->Bool} {v:Value} (hv:∀ b,v≠.bool b) (o:Nat):((ownV P).toArray.toList.drop o).take 1≠[v]:=fun e=>by
 have hm:v∈((ownV P).toArray.toList.drop o).take 1:=by rw [e]; simp
 have hm2:v∈ownV P:=List.mem_of_mem_drop (List.mem_of_mem_take hm)
 obtain ⟨i,_,h⟩:=List.mem_map.1 hm2
 exact hv _ h.symm
theorem PagerAt.apart {w:World} {X:List Nat} {pb r:Nat} {db:Option Addr} {F:List Nat} {M:PgM} {P:Int->Bool} (h:PagerAt w X pb db F M) (hr:w.heap[r]?=some (.cells (ownV P).toArray OWT (0,0))) (hn:r∉X++F):PagerAt w (r::X) pb db F M:=by
 obtain ⟨fb,defb,mb,sl,sn,F1,F2,fs,rfl,hx⟩:=h
 refine ⟨fb,defb,mb,sl,sn,F1,F2,fs,rfl,{ hx with rows:=⟨?_,?_,fun e he=>?_⟩,xlt:=fun b hb=>?_,xsep:=fun b hb=>?_ }⟩
 ·exact qjB hx.rows.lists hr fun x o=>qpN (fun b=>by simp) o
 ·exact qjB hx.rows.named hr fun x o=>qpN (fun b=>by simp) o
 ·exact qjB (hx.rows.bodies e he) hr fun x o=>qpN (fun b=>by simp) o
 ·exact (List.mem_cons.1 hb).elim (fun e=>by rw [e]; exact qab hr) (hx.xlt b)
 ·exact (List.mem_cons.1 hb).elim (fun e=>by rw [e]; exact fun hm=>hn (List.mem_append_right _ hm)) (hx.xsep b)
theorem qvz {l:List Int} (hn:l.Nodup) {i j:Nat} {a b:Int} (h1:l[i]?=some a) (h2:l[j]?=some b) (hij:i≠j):a≠b:=fun e=>by
 subst e
 obtain ⟨l1,e1⟩:=List.getElem?_eq_some_iff.1 h1
 obtain ⟨l2,e2⟩:=List.getElem?_eq_some_iff.1 h2
 exact hij ((List.getElem_inj hn).1 (e1.trans e2.symm))
theorem qoh {w:World} {blocks:Int} {so:Sl} {los:List OpC} {K:Bool->World->Prop} (hv:Hv w) (hb:0<=blocks/\blocks<256) (hso:Rds (HL.mk opCs) 6 [] w so los) (hoo:∀ o∈los,∃ a,OpOk [] w o a) (hk:∀ w',Fr [] w w'->K true w') :
  call Tryz.prog 6 [.int .u8 blocks,.slice so.a so.len so.cap] [.one .bool] w K:=by
 refine qet (blocks:=blocks) (ops:=so) ?_
 unfold qcf
 have hls:=hso.1
 rw [hls]
 refine qaa (fun hc=>ql8 hv fun w2 f2=>hk w2 f2) (fun hc=>?_)
 have hlen:los.length<=60:=by have:=of_decide_eq_false hc; omega
 rw [qt5 hb]
 have hn40:8+(blocks%33).toNat<=40:=by omega
 have hn8:8<=8+(blocks%33).toNat:=by omega
 generalize 8+(blocks%33).toNat=n at hn40 hn8
 refine qtb hv hn8 (by omega) fun bb dbk pb FD F x D w1 hD hT hM f1 n1=>?_
 refine Own.newZ (Own.start [] w1) qwl fun r8 w2 e8 ho8=>?_
 have hb8:=ho8.at (i:=0) rfl
 have f12:Fr [] w1 w2:=ho8.fr
 have f02:Fr [] w w2:=f1.trans f12
 have hv2:=hv.frame0 f02
 have hvl:=hv.lt
 have hgS:HG∉(bb::FD)++F:=fun hm=>by have:=n1 HG hm; omega
 have hSl:∀ b∈(bb::FD)++F,b<r8:=fun b hb=>by
  have:b<w1.heap.size:=hD.pair.lt b hb
  omega
 have h0:Inv10 ((bb::FD)++F) (PInv n) w2 bb dbk 0 w2:=⟨pb,FD,bb::FD,F,x,_,_,_,none,wvZ,0,hD.frame0 f12,hT,.refl _ _,fun b hb=>.inl hb,qsN hM⟩
 have hs1:=f1.size
 have hs2:=f12.size
 have hnew:∀ b∈(bb::FD)++F,b∈([]:List Nat)\/w.heap.size<=b:=fun b hb=>.inr (n1 b hb)
 have hso2:Rds (HL.mk opCs) 6 ((bb::FD)++F) w2 so los:=hso.frame f02 hnew
 have hoo2:∀ o∈los,∃ a,OpOk ((bb::FD)++F) w2 o a:=fun o ho=>(hoo o ho).imp fun a ha=>ha.frame f02 hnew
 have hback:∀ {w':World},Fr (r8::((bb::FD)++F)) w2 w'->Fr [] w w':=fun f=>f02.trans' f fun b hb=>(List.mem_cons.1 hb).elim (fun e=>.inr (by omega)) (hnew b)
 have hgS8:HG∉r8::((bb::FD)++F):=fun hm=>(List.mem_cons.1 hm).elim (fun e=>by omega) hgS
 generalize hS0:(bb::FD)++F=S0 at h0 hgS hSl hso2 hoo2 hback hgS8
 have hr8S:r8∉S0:=fun hm=>by have:=hSl r8 hm; omega
 clear hD hT hM n1 hnew hS0
 refine qag (fun y w'=>∃ i:Nat,y=i/\i<=los.length/\Inv10 S0 (PInv n) w2 bb dbk i w') (fun y _=>((los.length:Int)-y).toNat) ⟨0,rfl,by omega,h0⟩ ?_
 rintro y w3 ⟨i,rfl,hi,h3⟩ X1 hX1
 refine qaa (fun hc=>?_) (fun hc=>?_)
 ·have hil:i<los.length:=by have:=of_decide_eq_true hc; omega
  obtain ⟨a,ha⟩:=hoo2 los[i] (List.getElem_mem hil)
  refine qaf (fun _ w'=>Inv10 S0 (PInv n) w2 bb dbk (i+1) w') ?_ ?_
  ·refine Rds.getA (hso2.frame h3.fr fun b hb=>.inl hb) i (cl:=opCs) rfl (List.getElem?_eq_getElem hil) rfl (y:=los[i]) rfl ?_
   refine Own.newSt (Own.start [] w3) (cs':=opA los[i]) (qv0 _) rfl (Nat.le_of_ble_eq_true rfl) fun r4 w4 e4 ho4 f4=>?_
   refine qaf (fun b w'=>b=decide (a.body.length>600\/a.act%12>8)/\w'=w4) ?_ ?_
   ·refine Own.ld (c:=.slice) ho4 0 rfl los[i].2.2.2.1 rfl ?_
    have e1:los[i].2.2.2.1.len=a.body.length:=ha.body.1
    rw [e1]
    refine qaa (fun hc=>⟨by have:=of_decide_eq_true hc; rw [decide_eq_true (Or.inl (by omega))],rfl⟩) (fun hc=>?_)
    refine Own.ld (c:=.int .u8) ho4 0 rfl los[i].1 rfl ⟨?_,rfl⟩
    have:=of_decide_eq_false hc
    rw [ha.act,Int.tmod_eq_emod_of_nonneg ha.ract.1]
    exact decide_eq_decide.2 ⟨fun h=>.inr h,fun h=>by omega⟩
   rintro b w5 ⟨rfl,rfl⟩
   have h4:=h3.frame0 f4
   refine qaa (fun hc=>h3.skip f4 fun s hI=>?_) (fun hc=>?_)
   ·exact hI.same rfl rfl rfl rfl
   ·have hl:=of_decide_eq_false hc
    refine Own.ldA (cl:=opCs) ho4 0 rfl los[i] rfl ?_
    exact h4.step (by omega) hv2 hgS ha (by omega) (fun s M' q' t hT hr hI=>hI.step (by omega) hT hr (by omega)) fun w6 h6=>h6
  rintro _ w4 h4
  rw [wi' _ (by omega)]
  exact hX1 _ _ ⟨i+1,by simp,by omega,h4⟩ (by omega)
 clear hX1
 have f3d:=h3.fr.drew
 have h3d:=h3.frame0 (Fr.refl [] w3).drew
 generalize World.drew w3=wd at f3d h3d
 obtain ⟨pb,FD,X,F,x,s,M',q',m,wv,t,hD,hT,hf,hn,hI⟩:=h3d
 have hp:=hD.pair
 have hx:=hp.ref.ok
 have hW:=hT.wf
 have hN:=hT.named
 have hsm:=hW.small
 have hbb:bb≠r8:=fun e=>by
  rcases hn bb (List.mem_append_left _ hp.bx) with h' | h'
  ·exact hr8S (e▸h')
  ·have:=qab hb8; omega
 have hb8d:wd.heap[r8]?=some (.cells (ownV fun _=>false).toArray OWT (0,0)):=by rw [f3d.block r8 (qab hb8) hr8S]; exact hb8
 refine qae (c:=.ptr) hp.cell (some ⟨pb,0,none⟩) qck ?_
 refine qae (c:=.ptr) hp.cell (some ⟨pb,0,none⟩) qck ?_
 refine qae (c:=.ptr) hp.cell (some ⟨pb,0,none⟩) qck ?_
 refine qae (c:=.ptr) hp.cell (some ⟨pb,0,none⟩) qck ?_
 have cp:∀ {w':World},Fr [] wd w'->w'.cell? ⟨bb,1,none⟩=some (.pointer (some ⟨pb,0,none⟩)):=fun f=>qvG (hp.frame0 f).cell qck
 refine qlB hp.pager (by have:=hsm.free; omega) fun sF wF tF fF=>?_
 refine qa9 (cp fF) (cp fF) (cp fF) ?_
 obtain ⟨BF,bF,nF⟩:=qd2 tF
 refine qo3 (hp.frame0 fF).pager (by have:=hsm.deferred; omega) fun sG wG tG fG=>?_
 have fG2:=fF.trans fG
 refine qaO (cp fG2) (cp fG2) ?_
 obtain ⟨BG,bG,nG⟩:=qd2 tG
 refine qjk (hp.frame0 fG2).pager hsm.fresh fun sR BR lR wR bR pR oR fR nR=>?_
 have fR2:=fG2.trans fR
 refine qar (cp fR2) ?_
 refine qjm (hp.frame0 fR2).pager (by have:=hsm.lists; omega) fun sL BL wL bL fL nL=>?_
 have fL2:=fR2.trans fL
 refine Own.new' (Own.start [] wL) fun r47 w4 e4 f4 ho4=>?_
 have f04:Fr [] wd w4:=fL2.trans f4
 have hall:∀ y,y∈s.M.all↔y∈s.M.free++(s.M.deferred++(lR++s.M.lists)):=fun y=>by
  simp only [PgM.all,List.mem_append,pR.mem_iff]
  constructor
  ·rintro (h | h | h | h)
   ·exact .inl h
   ·exact .inr (.inl h)
   ·exact .inr (.inr (.inr h))
   ·exact .inr (.inr (.inl h))
  ·rintro (h | h | h | h)
   ·exact .inl h
   ·exact .inr (.inl h)
   ·exact .inr (.inr (.inr h))
   ·exact .inr (.inr (.inl h))
 have hnd:(s.M.free++(s.M.deferred++(lR++s.M.lists))).Nodup:=by
  have hp2:(s.M.free++(s.M.deferred++(lR++s.M.lists))).Perm (s.M.free++(s.M.deferred++(s.M.lists++s.M.fresh.map (·.1)))):=
   (((pR.append_right _).trans List.perm_append_comm).append_left _).append_left _
  exact hp2.nodup_iff.2 hW.nodup
 have hrg:∀ y∈s.M.free++(s.M.deferred++(lR++s.M.lists)),2<=y/\y<n:=fun y hy=>by
  have:=hW.range y ((hall y).2 hy)
  rw [hI.opens.blocks,hI.size] at this
  exact this
 have hlt8:=qab hb8d
 have hb84:w4.heap[r8]?=some (.cells (ownV (inL [])).toArray OWT (0,0)):=by rw [f04.block r8 hlt8 (by simp)]; exact hb8d
 have rows:∀ (j:Nat) (s':Sl) (l:List Int),[(sF,s.M.free),(sG,s.M.deferred),(sR,lR),(sL,s.M.lists)][j]?=some (s',l)->Rd [r8] w4 s' l/\(∀ y∈l,2<=y/\y<n):=fun j s' l h=>by
  have hS:∀ {B:List Nat} {wq:World},(∀ b∈B,wq.heap.size<=b)->Fr [] wd wq->∀ b∈B,b∉[r8]:=fun hB f b hb hm=>by have:=hB b hb; rw [List.mem_singleton.1 hm] at this; have:=f.size; omega
  match j,h with
  | 0,h=>
   obtain ⟨rfl,rfl⟩:=Prod.mk.inj (Option.some.inj h)
   exact ⟨(bF.frame0 (((fG.trans fR).trans fL).trans f4)).rds qat (hS nF (.refl _ _)),fun y hy=>hrg y (List.mem_append_left _ hy)⟩
  | 1,h=>
   obtain ⟨rfl,rfl⟩:=Prod.mk.inj (Option.some.inj h)
   exact ⟨(bG.frame0 ((fR.trans fL).trans f4)).rds qat (hS nG fF),fun y hy=>hrg y (List.mem_append_right _ (List.mem_append_left _ hy))⟩
  | 2,h=>
   obtain ⟨rfl,rfl⟩:=Prod.mk.inj (Option.some.inj h)
   exact ⟨(bR.frame0 (fL.trans f4)).rds qat (hS nR fG2),fun y hy=>hrg y (List.mem_append_right _ (List.mem_append_right _ (List.mem_append_left _ hy)))⟩
  | 3,h=>
   obtain ⟨rfl,rfl⟩:=Prod.mk.inj (Option.some.inj h)
   exact ⟨(bL.frame0 f4).rds qat (hS nL fR2),fun y hy=>hrg y (List.mem_append_right _ (List.mem_append_right _ (List.mem_append_right _ hy)))⟩
  | j+4,h=>simp at h
 have h47:=ho4.at (i:=0) rfl
 have h47n:r47≠r8:=fun e=>by have:=fL2.size; omega
 have hflat:[(sF,s.M.free),(sG,s.M.deferred),(sR,lR),(sL,s.M.lists)].flatMap (·.2)=s.M.free++(s.M.deferred++(lR++s.M.lists)):=by simp
 have hlenF:∀ p∈[(sF,s.M.free),(sG,s.M.deferred),(sR,lR),(sL,s.M.lists)],p.2.length<=100000:=fun p hp'=>by
  simp only [List.mem_cons,List.not_mem_nil,or_false] at hp'
  rcases hp' with rfl | rfl | rfl | rfl
  ·exact hsm.free
  ·exact hsm.deferred
  ·show lR.length<=_; rw [pR.length_eq,List.length_map]; exact hsm.fresh
  ·exact hsm.lists
 have hcell:∀ (j:Nat) (p:Sl×List Int),[(sF,s.M.free),(sG,s.M.deferred),(sR,lR),(sL,s.M.lists)][j]?=some p->(#[Value.slice sF.a sF.len sF.cap,.slice sG.a sG.len sG.cap,.slice sR.a sR.len sR.cap,.slice sL.a sL.len sL.cap]:Array Value)[j]?=some (.slice p.1.a p.1.len p.1.cap):=fun j p h=>by
  match j,h with
  | 0,h=>rw [<- Option.some.inj h]; rfl
  | 1,h=>rw [<- Option.some.inj h]; rfl
  | 2,h=>rw [<- Option.some.inj h]; rfl
  | 3,h=>rw [<- Option.some.inj h]; rfl
  | j+4,h=>simp at h
 have hl4:[(sF,s.M.free),(sG,s.M.deferred),(sR,lR),(sL,s.M.lists)].length=4:=rfl
 generalize hRS:[(sF,s.M.free),(sG,s.M.deferred),(sR,lR),(sL,s.M.lists)]=RS at rows hflat hlenF hcell hl4
 have hndRS:(RS.flatMap (·.2)).Nodup:=by rw [hflat]; exact hnd
 refine qag (fun y w'=>∃ j:Nat,y=j/\j<=4/\w'.heap[r8]?=some (.cells (ownV (inL ((RS.take j).flatMap (·.2)))).toArray OWT (0,0))/\Fr [r8] w4 w') (fun y _=>((4:Int)-y).toNat) ⟨0,rfl,by omega,hb84,.refl _ _⟩ ?_
 rintro y w5 ⟨j,rfl,hj,h5,f5⟩ X2 hX2
 refine qaa (fun hc=>?_) (fun hc=>?_)
 ·have hj4:j<4:=by have:=of_decide_eq_true hc; omega
  obtain ⟨p,hp'⟩:∃ p,RS[j]?=some p:=⟨RS[j]'(by omega),List.getElem?_eq_getElem _⟩
  have hpl:=hlenF p (List.mem_of_getElem? hp')
  obtain ⟨hrow,hrange⟩:=rows j p.1 p.2 hp'
  have hcj:=hcell j p hp'
  have h475:w5.heap[r47]?=_:=(f5.block r47 (qab h47) (by simpa using h47n)).trans h47
  refine qcH (by omega) (by omega) ?_
  refine qae (c:=.slice) (off:=0+(j:Int).toNat*1) h475 p.1 (by rw [show 0+(j:Int).toNat*1=j by omega]; exact hcj) ?_
  have hpt:(RS.take (j+1)).flatMap (·.2)=(RS.take j).flatMap (·.2)++p.2:=by
   obtain ⟨hlt,he⟩:=List.getElem?_eq_some_iff.1 hp'
   rw [List.take_succ_eq_append_getElem hlt,List.flatMap_append,he]
   simp
  have hndj:((RS.take j).flatMap (·.2)++p.2).Nodup:=by
   rw [<- hpt]
   refine hndRS.sublist ?_
   conv=>rhs; rw [<- List.take_append_drop (j+1) RS,List.flatMap_append]
   exact List.sublist_append_left _ _
  generalize hdn:(RS.take j).flatMap (·.2)=done at h5 hpt hndj
  rw [hrow.1]
  refine qag (fun y w'=>∃ i:Nat,y=i/\i<=p.2.length/\w'.heap[r8]?=some (.cells (ownV (inL (done++p.2.take i))).toArray OWT (0,0))/\Fr [r8] w4 w') (fun y _=>((p.2.length:Int)-y).toNat) ⟨0,rfl,by omega,by rw [List.take_zero,List.append_nil]; exact h5,f5⟩ ?_
  rintro y w6 ⟨i,rfl,hi,h6,f6⟩ X3 hX3
  refine qaa (fun hc=>?_) (fun hc=>?_)
  ·have hil:i<p.2.length:=by have:=of_decide_eq_true hc; omega
   have hr6:=hrow.frame f6 fun b hb=>.inl hb
   have hget:=List.getElem?_eq_getElem hil
   have hg2:=hrange p.2[i] (List.getElem_mem hil)
   refine Rds.get (c:=.int .u32) hr6 i rfl hget rfl ?_
   obtain ⟨g,hg⟩:∃ g:Nat,p.2[i]=g:=⟨p.2[i].toNat,by omega⟩
   rw [hg] at hget hg2 ⊢
   have hnotin:((g:Int))∉done++p.2.take i:=fun hm=>by
    have h1:(done++p.2).Nodup:=hndj
    rw [<- List.take_append_drop i p.2,<- List.append_assoc,List.nodup_append] at h1
    refine h1.2.2 _ hm (g:Int) ?_ rfl
    rw [List.drop_eq_getElem_cons hil,hg]
    simp
   refine qaf (fun b w'=>b=false/\w'=w6) ?_ ?_
   ·refine cond_false (decide_eq_false (by omega)) ?_
    rw [wi' (g:Int) (by omega)]
    refine cond_false (decide_eq_false (by omega)) ?_
    refine qak ⟨by omega,by omega⟩ ?_
    rw [Int.toNat_natCast,Nat.mul_one]
    rw [Addr.add_mk]
    refine qae (c:=.bool) (off:=0+g) h6 (inL (done++p.2.take i) g) (by rw [Nat.zero_add]; exact qsO (by omega)) ?_
    refine cond_false (decide_eq_false hnotin) ?_
    refine qaa (fun hc2=>?_) (fun hc2=>⟨rfl,rfl⟩)
    have hi0:0<i:=by have:=of_decide_eq_true hc2; omega
    rw [wi' ((i:Int)-1) (by omega)]
    refine Rds.get (c:=.int .u32) hr6 (i-1) (by omega) (List.getElem?_eq_getElem (by omega:i-1<p.2.length)) rfl ⟨?_,rfl⟩
    have hne:=qvz (List.nodup_append.1 hndj).2.1 (List.getElem?_eq_getElem (by omega:i-1<p.2.length)) hget (by omega)
    exact beq_eq_false_iff_ne.2 hne
   rintro b w7 ⟨rfl,rfl⟩
   refine cond_false rfl (qak ⟨by omega,by omega⟩ ?_)
   rw [Int.toNat_natCast,Nat.mul_one]
   rw [Addr.add_mk]
   refine qaQ (off:=0+g) h6 (ownV (inL (done++p.2.take (i+1)))).toArray ?_ rfl (by rw [List.size_toArray,qic]; simp; omega) fun w8 h8 f8=>?_
   ·rw [Nat.zero_add]
    refine qrb (by omega) fun q hq=>?_
    rw [List.take_succ_eq_append_getElem hil,hg,<- List.append_assoc]
    by_cases e:q=g
    ·rw [if_pos e,e]; exact decide_eq_true (List.mem_append_right _ (by simp))
    ·rw [if_neg e]
     refine decide_eq_decide.2 ⟨fun h=>?_,fun h=>List.mem_append_left _ h⟩
     rcases List.mem_append.1 h with h | h
     ·exact h
     ·have:=List.mem_singleton.1 h; omega
   rw [wi' _ (by omega)]
   exact hX3 _ _ ⟨i+1,by simp,by omega,h8,f6.trans f8⟩ (by omega)
  ·have hie:i=p.2.length:=by have:=of_decide_eq_false hc; omega
   subst hie
   rw [List.take_length,<- hpt] at h6
   rw [wi' _ (by omega)]
   exact hX2 _ _ ⟨j+1,by simp,by omega,h6,f6⟩ (by omega)
 clear hX2
 have hje:j=4:=by have:=of_decide_eq_false hc; omega
 subst hje
 rw [<- hl4,List.take_length,hflat] at h5
 have f05:Fr [r8] wd w5:=(f04.mono fun b hb=>(nomatch hb)).trans f5
 have hr8X:r8∉X++F:=fun hm=>(hn r8 hm).elim hr8S fun h'=>by have:=qab hb8; omega
 have hXs:∀ b∈X++F,b∉[r8]:=fun b hb hm=>hr8X (List.mem_singleton.1 hm▸hb)
 have hc5:w5.heap[bb]?=some (.cells (bothV (some ⟨dbk,0,none⟩) (some ⟨pb,0,none⟩) x m wv t).toArray BTT (0,0)):=by rw [f05.block bb (qab hp.cell) (by simpa using hbb)]; exact hp.cell
 have hpgd:PagerAt wd (r8::X) pb (dbOf dbk s.M) F s.M:=hp.pager.apart hb8d hr8X
 have fix:∀ {a b:World},Fr [r8] a b->Fr (r8::X) a b:=fun f=>f.mono fun b hb _=>by rw [List.mem_singleton.1 hb]; simp
 have pgAt:∀ {w':World},Fr [r8] wd w'->PagerAt w' (r8::X) pb (dbOf dbk s.M) F s.M:=fun f=>hpgd.frameX (fix f) (fun b hb=>Nat.lt_of_lt_of_le (hpgd.xlt b hb) f.size) fun b hb=>.inl hb
 have dkAt:∀ {w':World},Fr [r8] wd w'->DiskAt w' dbk FD s.D:=fun f=>hp.disk.frame f fun b hb=>hXs b (List.mem_append_left _ (hp.sub b hb))
 have fAll:∀ {w':World},Fr [r8] wd w'->Fr (r8::S0) w2 w':=fun f=>(f3d.mono fun b hb _=>List.mem_cons_of_mem _ hb).trans (f.mono fun b hb _=>by rw [List.mem_singleton.1 hb]; simp)
 refine qae (c:=.ptr) hc5 (some ⟨pb,0,none⟩) qck ?_
 refine qjk (pgAt f05) hsm.fresh fun s6 B6 l6 w6 b6 p6 o6 f6 n6=>?_
 have hl6:l6.length<=100000:=by rw [p6.length_eq,List.length_map]; exact hsm.fresh
 have f06:Fr [r8] wd w6:=f05.trans (f6.mono fun b hb=>(nomatch hb))
 have h6:w6.heap[r8]?=some (.cells (ownV (inL (s.M.free++(s.M.deferred++(lR++s.M.lists))))).toArray OWT (0,0)):=by rw [f6.block r8 (qab h5) (by simp)]; exact h5
 have hr6:Rd [r8] w6 s6 l6:=b6.rds qat fun b hb hm=>by have:=n6 b hb; have:=qab h5; rw [List.mem_singleton.1 hm] at *; omega
 rw [b6.len]
 generalize hA:s.M.free++(s.M.deferred++(lR++s.M.lists))=A at hall hnd hrg h6 h5 hflat
 refine qag (fun y w'=>∃ i:Nat,y=i/\i<=l6.length/\w'.heap[r8]?=some (.cells (ownV (inNot A (l6.take i))).toArray OWT (0,0))/\Fr [r8] w6 w') (fun y _=>((l6.length:Int)-y).toNat) ⟨0,rfl,by omega,?_,.refl _ _⟩ ?_
 ·have e:inNot A (l6.take 0)=inL A:=by funext q; simp [inNot,inL]
  rw [e]; exact h6
 rintro y w7 ⟨i,rfl,hi,h7,f7⟩ X4 hX4
 refine qaa (fun hc=>?_) (fun hc=>?_)
 ·have hil:i<l6.length:=by have:=of_decide_eq_true hc; omega
  have hmem:l6[i]∈s.M.fresh.map (·.1):=p6.mem_iff.1 (List.getElem_mem hil)
  have hg2:2<=l6[i]/\l6[i]<n:=hrg _ ((hall _).1 (List.mem_append_right _ (List.mem_append_right _ (List.mem_append_right _ hmem))))
  refine Rds.get (c:=.int .u32) (hr6.frame f7 fun b hb=>.inl hb) i rfl (List.getElem?_eq_getElem hil) rfl ?_
  obtain ⟨g,hg⟩:∃ g:Nat,l6[i]=g:=⟨l6[i].toNat,by omega⟩
  rw [hg] at hg2 ⊢
  refine qak ⟨by omega,by omega⟩ ?_
  rw [Int.toNat_natCast,Nat.mul_one]
  rw [Addr.add_mk]
  refine qaQ (off:=0+g) h7 (ownV (inNot A (l6.take (i+1)))).toArray ?_ rfl (by rw [List.size_toArray,qic]; simp; omega) fun w8 h8 f8=>?_
  ·rw [Nat.zero_add]
   refine qrb (by omega) fun q hq=>?_
   rw [List.take_succ_eq_append_getElem hil,hg]
   by_cases e:q=g
   ·rw [if_pos e,e]; exact decide_eq_false fun h=>h.2 (List.mem_append_right _ (by simp))
   ·rw [if_neg e]
    refine decide_eq_decide.2 ⟨fun h=>⟨h.1,fun hm=>h.2 (List.mem_append_left _ hm)⟩,fun h=>⟨h.1,fun hm=>?_⟩⟩
    rcases List.mem_append.1 hm with hm | hm
    ·exact h.2 hm
    ·have:=List.mem_singleton.1 hm; omega
  rw [wi' _ (by omega)]
  exact hX4 _ _ ⟨i+1,by simp,by omega,h8,f7.trans f8⟩ (by omega)
 clear hX4
 have hie:i=l6.length:=by have:=of_decide_eq_false hc; omega
 subst hie
 rw [List.take_length] at h7
 have f07:=f06.trans f7
 refine qag (fun y w'=>∃ i:Nat,y=i/\2<=i/\i<=n/\Fr [] w7 w') (fun y _=>((n:Int)-y).toNat) ⟨2,rfl,by omega,by omega,.refl _ _⟩ ?_
 rintro y w8 ⟨i,rfl,hi2,hin,f8⟩ X5 hX5
 have f08:Fr [r8] wd w8:=f07.trans (f8.mono fun b hb=>(nomatch hb))
 refine qaa (fun hc=>?_) (fun hc=>?_)
 ·have hil:i<n:=by have:=of_decide_eq_true hc; omega
  have hc8:w8.heap[bb]?=some (.cells (bothV (some ⟨dbk,0,none⟩) (some ⟨pb,0,none⟩) x m wv t).toArray BTT (0,0)):=by rw [f08.block bb (qab hp.cell) (by simpa using hbb)]; exact hp.cell
  refine qae (c:=.ptr) hc8 (some ⟨pb,0,none⟩) qck ?_
  rw [qaJ (i:Int) (by omega)]
  have hv8:Hv w8:=hv2.frame (fAll f08) hgS8
  refine qoa (dkAt f08) hp.lim (pgAt f08) hv8 ⟨by omega,by omega⟩ (by have:=hsm.lists; omega) hsm.body fun s9 w9 r9 f9=>?_
  have h9:w9.heap[r8]?=some (.cells (ownV (inNot A l6)).toArray OWT (0,0)):=by rw [(f8.trans f9).block r8 (qab h7) (by simp)]; exact h7
  refine qak ⟨by omega,by omega⟩ ?_
  rw [Int.toNat_natCast,Nat.mul_one]
  rw [Addr.add_mk]
  refine qae (c:=.bool) (off:=0+i) h9 (inNot A l6 i) (by rw [Nat.zero_add]; exact qsO (by omega)) ?_
  have hread:=hI.read hW hN (x:=(i:Int)) ⟨by omega,by omega⟩
  have e:(((pagerReadM s.D s.M i).2.2==0)==inNot A l6 i)=false:=by
   have h1:inNot A l6 i=decide ((i:Int)∈s.M.all/\(i:Int)∉s.M.fresh.map (·.1)):=decide_eq_decide.2 ⟨fun h=>⟨(hall _).2 h.1,fun hm=>h.2 (p6.mem_iff.2 hm)⟩,fun h=>⟨(hall _).1 h.1,fun hm=>h.2 (p6.mem_iff.1 hm)⟩⟩
   rw [h1]
   by_cases h2:(pagerReadM s.D s.M i).2.2=0
   ·rw [decide_eq_false (hread.1 h2),h2]; rfl
   ·have h3:(i:Int)∈s.M.all/\(i:Int)∉s.M.fresh.map (·.1):=Classical.byContradiction fun h=>h2 (hread.2 h)
    rw [decide_eq_true h3,beq_eq_false_iff_ne.2 h2]; rfl
  refine cond_false e ?_
  rw [wi' _ (by omega)]
  exact hX5 _ _ ⟨i+1,by simp,by omega,by omega,f8.trans f9⟩ (by omega)
 ·refine ql8 (hv2.frame (fAll f08) hgS8) fun w9 f9=>hk w9 ((hback (fAll f08)).trans f9)
end Go.Proofs.YtmbcedengdoamaaGreatDoor
end
