/- Texts LpJ, LpK, LpL, LpM, LpI, LpN: contracts of the program's functions, one behind the other. Conditions: those that stand in each line. -/
import Derived.Test.YtmbcedengdoamaaGreatDoorCPlays5
section
set_option linter.unusedVariables false
set_option linter.unusedSimpArgs false
namespace Go.Proofs.YtmbcedengdoamaaGreatDoor
open Go Go.Pt
attribute [local irreducible] ld ldA ldV fld fldA newZ st new idx idxS idxA slc slcS slcP mkS chk nn call callV inv run runQ runU join loop held ext rng undefer s2a nxt ent IntKind.wrap
section
variable {d p m m':Option Addr} {x x':RV} {wv wv':List Value} {t t':Int}
theorem qrn (hx:x.Ok) (j:Nat):(bothV d p x m wv t).toArray[66+j]?=(Value.pointer m::wv++[Value.int .i64 t])[j]?:=by
 rw [List.getElem?_toArray,bothV,List.getElem?_append_right (by rw [qlH hx]; omega),qlH hx,Nat.add_sub_cancel_left]
theorem qsC (hx:x.Ok):(bothV d p x m wv t).toArray[66]?=some (.pointer m):=qrn hx 0
theorem qvZ (hx:x.Ok) (hw:wv.length=27):(bothV d p x m wv t).toArray[94]?=some (.int .i64 t):=by
 have:=qrn (d:=d) (p:=p) (m:=m) (wv:=wv) (t:=t) hx 28
 rw [show 66+28=94 from rfl] at this
 rw [this,List.getElem?_append_right (by rw [List.length_cons,hw]; omega),List.length_cons,hw]
 rfl
theorem qeu (hx:x.Ok) (j:Nat) (hj:j<64):(bothV d p x m wv t).toArray[2+j]?=(refV x).toArray[j]?:=by
 rw [List.getElem?_toArray,List.getElem?_toArray,bothV,List.append_assoc,List.getElem?_append_right (by show 2<=2+j; omega)]
 show (refV x++_)[2+j-2]?=_
 rw [Nat.add_sub_cancel_left,List.getElem?_append_left (by rw [qav hx]; exact hj)]
theorem qhJ (hx:x.Ok):(bothV d p x m wv t).toArray[38]?=some (.bool x.over):=(qeu hx 36 (by decide)).trans (qc3 hx)
theorem qhr (hx:x.Ok):(bothV d p x m wv t).toArray[37]?=some (.int .i64 x.turn):=(qeu hx 35 (by decide)).trans (qny hx)
theorem qbk (hx:x.Ok):(rvW x).length=27:=by rw [rvW,List.length_append,List.length_map,hx.roots]; rfl
theorem qq7:(rvW x).all Value.oneCell'=true:=by rw [rvW,List.all_append,qkr]; rfl
theorem qpy (hx:x.Ok):bothV d p x m wv t=([Value.pointer d,.pointer p]++(rvA x++supV x.sup.1 x.sup.2++rvB x))++rvW x++(.pointer m::wv++[.int .i64 t]):=by simp only [bothV,refV,List.append_assoc]
theorem qq3 (hx:x.Ok):([Value.pointer d,.pointer p]++(rvA x++supV x.sup.1 x.sup.2++rvB x)).length=39:=by rw [List.length_append,qee hx]; rfl
theorem qvU (hx:x.Ok):((bothV d p x m wv t).toArray.toList.drop 39).take 27=rvW x:=by
 show ((bothV d p x m wv t).drop 39).take 27=_
 rw [qpy hx,List.append_assoc,<- qq3 (d:=d) (p:=p) hx,List.drop_left,List.take_append_of_le_length (by rw [qbk hx]; exact Nat.le_refl _),List.take_of_length_le (by rw [qbk hx]; exact Nat.le_refl _)]
theorem qwp (hx:x.Ok) (hw:wv.length=27):((bothV d p x m wv t).toArray.toList.drop 67).take 27=wv:=by
 show ((bothV d p x m wv t).drop 67).take 27=_
 have e:bothV d p x m wv t=(([Value.pointer d,.pointer p]++refV x)++[.pointer m])++(wv++[.int .i64 t]):=by simp only [bothV,List.append_assoc,List.cons_append,List.nil_append]
 have hl:(([Value.pointer d,.pointer p]++refV x)++[Value.pointer m]).length=67:=by rw [List.length_append,qlH hx]; rfl
 rw [e,<- hl,List.drop_left,List.take_append_of_le_length (by rw [hw]; exact Nat.le_refl _),List.take_of_length_le (by rw [hw]; exact Nat.le_refl _)]
theorem qu4:splice (bothV d p x m wv t).toArray 1 [.pointer m']=(bothV d m' x m wv t).toArray:=
 qaq (A:=[Value.pointer d]) (X:=[.pointer p]) (Y:=[.pointer m']) (Z:=refV x++(.pointer m::wv++[.int .i64 t])) rfl
theorem qq5 (hx:x.Ok):splice (bothV d p x m wv t).toArray 66 [.pointer m']=(bothV d p x m' wv t).toArray:=by
 have:=qaq (A:=[Value.pointer d,.pointer p]++refV x) (X:=[.pointer m]) (Y:=[.pointer m']) (Z:=wv++[.int .i64 t]) rfl
 rw [qlH hx] at this
 have e:∀ q,bothV d p x q wv t=[Value.pointer d,.pointer p]++refV x++[.pointer q]++(wv++[.int .i64 t]):=fun q=>by simp only [bothV,List.append_assoc,List.cons_append,List.nil_append]
 rw [e m,e m']; exact this
theorem qum (hx:x.Ok) (hw:wv.length=wv'.length):splice (bothV d p x m wv t).toArray 67 wv'=(bothV d p x m wv' t).toArray:=by
 have hl:(([Value.pointer d,.pointer p]++refV x)++[Value.pointer m]).length=67:=by rw [List.length_append,qlH hx]; rfl
 have:=qaq (A:=([Value.pointer d,.pointer p]++refV x)++[.pointer m]) (X:=wv) (Y:=wv') (Z:=[.int .i64 t]) hw
 rw [hl] at this
 have e:∀ q,bothV d p x m q t=([Value.pointer d,.pointer p]++refV x)++[.pointer m]++q++[.int .i64 t]:=fun q=>by simp only [bothV,List.append_assoc,List.cons_append,List.nil_append]
 rw [e wv,e wv']; exact this
theorem qnl (hx:x.Ok) (hw:wv.length=27):splice (bothV d p x m wv t).toArray 94 [.int .i64 t']=(bothV d p x m wv t').toArray:=by
 have hl:(([Value.pointer d,.pointer p]++refV x)++([Value.pointer m]++wv)).length=94:=by rw [List.length_append,qlH hx,List.length_append,hw]; rfl
 have:=qaq (A:=([Value.pointer d,.pointer p]++refV x)++([Value.pointer m]++wv)) (X:=[.int .i64 t]) (Y:=[.int .i64 t']) (Z:=[]) rfl
 rw [hl] at this
 have e:∀ q,bothV d p x m wv q=([Value.pointer d,.pointer p]++refV x)++([.pointer m]++wv)++[.int .i64 q]++[]:=fun q=>by simp only [bothV,List.append_assoc,List.cons_append,List.nil_append]
 rw [e t,e t']; exact this
theorem qu8 (hx:x.Ok) {sf sd sfr:Sl} {roots:List Int} (hr:roots.length=24):splice (bothV d p x m wv t).toArray 39 ([slV sf,slV sd,slV sfr]++roots.map (Value.int .u32))=(bothV d p { x with sf:=sf,sd:=sd,sfr:=sfr,roots:=roots } m wv t).toArray:=by
 have:=qaq (A:=[Value.pointer d,.pointer p]++(rvA x++supV x.sup.1 x.sup.2++rvB x)) (X:=rvW x) (Y:=[slV sf,slV sd,slV sfr]++roots.map (Value.int .u32)) (Z:=.pointer m::wv++[.int .i64 t]) (by rw [qbk hx,List.length_append,List.length_map,hr]; rfl)
 rw [qq3 hx] at this
 rw [qpy hx,qpy (x:={ x with sf:=sf,sd:=sd,sfr:=sfr,roots:=roots }) ⟨hx.sup,hr⟩]
 exact this
end
def RW (S:List Nat) (w:World) (wv:List Value) (q:PgM):Prop:=
 ∃ sf sd sfr,wv=[slV sf,slV sd,slV sfr]++q.roots.map (Value.int .u32)/\Rd S w sf q.free/\Rd S w sd q.deferred/\Rds encPage 3 S w sfr q.fresh/\q.roots.length=24
theorem RW.frame {S S':List Nat} {w w':World} {wv:List Value} {q:PgM} (h:RW S w wv q) (f:Fr S w w') (hS:∀ b∈S',b∈S\/w.heap.size<=b):RW S' w' wv q:=by
 obtain ⟨sf,sd,sfr,h1,h2,h3,h4,h5⟩:=h
 exact ⟨sf,sd,sfr,h1,h2.frame f hS,h3.frame f hS,h4.frame f hS,h5⟩
theorem RP.work {S:List Nat} {w:World} {x:RV} {D:DiskM} {M:PgM} (h:RP S w x D M):RW S w (rvW x) M:=
 ⟨x.sf,x.sd,x.sfr,by rw [rvW,h.roots],h.free,h.deferred,h.fresh,by rw [<- h.roots]; exact h.ok.roots⟩
structure MarkOk (M M' q q':PgM) (t:Int):Prop where
 sim:Sim q q'
 wf:q.Wf
 named:q.Named
 over:q.over=false
 turn:t=q'.turn
 live:M.over=false->q.turn<=M.turn/\M'.turn-q'.turn=M.turn-q.turn/\(q.turn=M.turn->q.sup=M.sup/\q.lists=M.lists/\q.named=M.named)
theorem MarkOk.step {M M' q q' M2 M2':PgM} {t:Int} (h:MarkOk M M' q q' t) (ho:M2.over=false->M.over=false/\M2'.turn-M'.turn=M2.turn-M.turn/\M.turn<=M2.turn/\(M2.turn=M.turn->M2.sup=M.sup/\M2.lists=M.lists/\M2.named=M.named)):MarkOk M2 M2' q q' t:=
 ⟨h.sim,h.wf,h.named,h.over,h.turn,fun hov=>by
  obtain ⟨o1,o2,o3,o4⟩:=ho hov
  obtain ⟨l0,l1,l2⟩:=h.live o1
  refine ⟨by omega,by omega,fun e=>?_⟩
  have e2:M2.turn=M.turn:=by omega
  obtain ⟨a,b,c⟩:=o4 e2
  obtain ⟨a',b',c'⟩:=l2 (by omega)
  exact ⟨by rw [a,a'],by rw [b,b'],by rw [c,c']⟩⟩
def Dead (M:PgM):Prop:=M.over=true->M={ overM with turn:=M.turn }
structure Twin (s:StM) (M' q':PgM) (t:Int) (j:Nat):Prop where
 sim:Sim s.M M'
 wf:s.M.Wf
 named:s.M.Named
 turn:0<=s.M.turn/\s.M.turn<=j
 turn':0<=M'.turn/\M'.turn<=3*j
 mark:∀ q,s.k=some q->MarkOk s.M M' q q' t
 two:2<=s.D.safe.length
 dead:Dead s.M
structure Duo (w:World) (bb dbk pb:Nat) (FD X F:List Nat) (x:RV) (s:StM) (M' q':PgM) (k:Nat) (m:Option Addr) (wv:List Value) (t:Int):Prop where
 pair:Pair w bb dbk pb FD X F x s.D s.M s.D M' k m wv t
 mnone:s.k=none->m=none
 msome:∀ q,s.k=some q->(∃ kb,m=some ⟨kb,0,none⟩/\MarkAt w (X++F) kb pb q)/\RW (X++F) w wv q'
theorem Duo.frame0 {w w':World} {bb dbk pb:Nat} {FD X F:List Nat} {x:RV} {s:StM} {M' q':PgM} {k:Nat} {m:Option Addr} {wv:List Value} {t:Int} (h:Duo w bb dbk pb FD X F x s M' q' k m wv t) (f:Fr [] w w'):Duo w' bb dbk pb FD X F x s M' q' k m wv t:=
 ⟨h.pair.frame0 f,h.mnone,fun q hq=>by
  obtain ⟨⟨kb,e,hm⟩,hr⟩:=h.msome q hq
  exact ⟨⟨kb,e,hm.frame0 f⟩,hr.frame (f.mono fun b hb=>nomatch hb) fun b hb=>.inl hb⟩⟩
theorem Duo.lims {w:World} {bb dbk pb:Nat} {FD X F:List Nat} {x:RV} {s:StM} {M' q':PgM} {k k2:Nat} {m:Option Addr} {wv:List Value} {t:Int} (h:Duo w bb dbk pb FD X F x s M' q' k m wv t) (hk:k<=k2):Duo w bb dbk pb FD X F x s M' q' k2 m wv t:=⟨h.pair.lims hk,h.mnone,h.msome⟩
theorem Duo.turn {w w2:World} {bb dbk pb:Nat} {FD FD2 X X2 F F2:List Nat} {x x2:RV} {s:StM} {D2:DiskM} {M2 M' M2' q':PgM} {k k2:Nat} {m:Option Addr} {wv:List Value} {t:Int} (h:Duo w bb dbk pb FD X F x s M' q' k m wv t)
  (hp:Pair w2 bb dbk pb FD2 X2 F2 x2 D2 M2 D2 M2' k2 m wv t) (f:Fr (X++F) w w2) (n:∀ b∈X2++F2,b∈X++F\/w.heap.size<=b):Duo w2 bb dbk pb FD2 X2 F2 x2 ⟨D2,M2,s.k⟩ M2' q' k2 m wv t:=
 ⟨hp,h.mnone,fun q hq=>by
  obtain ⟨⟨kb,e,hm⟩,hr⟩:=h.msome q hq
  exact ⟨⟨kb,e,hm.frame f n⟩,hr.frame f n⟩⟩
theorem Pair.cellSet {w w':World} {bb dbk pb:Nat} {FD X F:List Nat} {x x2:RV} {D D' D2:DiskM} {M M' M2:PgM} {k:Nat} {m m2:Option Addr} {wv wv2:List Value} {t t2:Int} (h:Pair w bb dbk pb FD X F x D M D' M' k m wv t)
  (c:w'.heap[bb]?=some (.cells (bothV (some ⟨dbk,0,none⟩) (some ⟨pb,0,none⟩) x2 m2 wv2 t2).toArray BTT (0,0))) (f:Fr [bb] w w') (hr:RP (X++F) w' x2 D2 M2) (hl:wv2.length=27) (h1:wv2.all Value.oneCell'=true):Pair w' bb dbk pb FD X F x2 D M D2 M2 k m2 wv2 t2:=
 ⟨c,h.disk.frame f fun b hb hm=>h.nd ((show b=bb from List.mem_singleton.1 hm)▸hb),h.lim,h.pager.frameX (f.mono fun b hb _=>by rw [List.mem_singleton.1 hb]; exact h.bx) (fun b hb=>Nat.lt_of_lt_of_le (h.pager.xlt b hb) f.size) (fun b hb=>.inl hb),h.sub,h.bx,h.nd,hr,hl,h1⟩
theorem qtj {D:DiskM} {n:Int}:(fuseM D n).safe.length=D.safe.length:=by unfold fuseM; split <;> rfl
theorem qry {w:World} {bb dbk pb:Nat} {FD X F:List Nat} {x:RV} {s:StM} {M' q':PgM} {k j:Nat} {m:Option Addr} {wv:List Value} {t:Int} {K:Bool->World->Prop}
  (h:Duo w bb dbk pb FD X F x s M' q' k m wv t) (hT:Twin s M' q' t j) (hj:j<=100000) (hv:Hv w)
  (kk:∀ pb2 F2 x2 M2' m2 t2 w2,Duo w2 bb dbk pb2 FD X F2 x2 (anewM s) M2' q' k m2 wv t2->Twin (anewM s) M2' q' t2 (j+1)->Fr [bb] w w2->(∀ b∈X++F2,b∈X++F\/w.heap.size<=b)->K true w2) :
  call Tryz.prog 72 [.pointer (some ⟨bb,0,none⟩)] [.one .bool] w K:=by
 refine qeN (b:=some ⟨bb,0,none⟩) ?_
 unfold qcv
 have hp:=h.pair
 have hx:=hp.ref.ok
 have hD:=hp.lim.ok
 refine qab (qae (c:=.ptr) hp.cell (some ⟨dbk,0,none⟩) qpC ?_)
 refine qn6 X hp.pager.xlt hp.disk hD hv (fun hno w1 f1=>?_) (fun pb2 F2 M2 w1 hM hp1 f1 n1=>?_)
 ·-- it can't be opened
  obtain ⟨e,he⟩:∃ e,openM s.D=(none,e):=⟨(openM s.D).2,Prod.ext hno rfl⟩
  have hne:e≠0:=fun h0=>qrS (h0▸he)
  rw [he]
  have h1:=h.frame0 f1
  refine qab (qd1 (cl:=dC) (off:=0+2) h1.pair.cell x.d (qms hx) ?_)
  refine qjX h1.pair.ref.disk hD hT.two h1.pair.lt (fun e' he' w2 f2=>?_) (fun x2 M3 w2 hM3 hp2 f2=>by rw [he] at hM3; cases hM3)
  rw [he] at he'
  have he':e=e':=congrArg Prod.snd he'
  subst he'
  refine Own.newZ (Own.start [] w2) qbh fun r w3 e3 ho=>?_
  refine Own.stP ho 0 rfl qar qar fun w4 ho4 f4=>?_
  refine qaf (fun b w'=>b=false/\w'=w4) ?_ ?_
  ·refine cond_false (by simp) ⟨?_,rfl⟩
   have:(e==0)=false:=beq_eq_false_iff_ne.2 hne
   simp [this]
  rintro b w5 ⟨rfl,rfl⟩
  refine cond_false rfl ?_
  refine qaf (fun _ w'=>w'=w5) ?_ ?_
  ·exact cond_false (beq_eq_false_iff_ne.2 hne) rfl
  rintro _ w6 rfl
  have f06:Fr [] w w6:=(f1.trans f2).trans ho4.fr
  have h6:=h.frame0 f06
  have e1:anewM s=s:=by rw [anewM,he]
  refine kk pb F x M' m t w6 ?_ ?_ (f06.mono fun b hb=>nomatch hb) fun b hb=>.inl hb
  ·rw [e1]; exact h6
  ·rw [e1]
   exact ⟨hT.sim,hT.wf,hT.named,by have:=hT.turn; omega,by have:=hT.turn'; omega,hT.mark,hT.two,hT.dead⟩
 ·have h1:=h.frame0 f1
  refine qab (qd1 (cl:=dC) (off:=0+2) h1.pair.cell x.d (qms hx) ?_)
  have hnF2:∀ b∈X++F2,b∈X++F\/w.heap.size<=b:=fun b hb=>(List.mem_append.1 hb).elim (fun hb=>.inl (List.mem_append_left _ hb)) fun hb=>.inr (n1 b hb)
  have hd1:RD (X++F2) w1 x.d s.D:=hp.ref.disk.frame (f1.mono fun b hb=>nomatch hb) hnF2
  have hS1:∀ b∈X++F2,b<w1.heap.size:=fun b hb=>(List.mem_append.1 hb).elim (hp1.xlt b) (hp1.lt b)
  refine qjX hd1 hD hT.two hS1 (fun e he=>by rw [hM] at he; cases he) (fun x2 M3 w2 hM3 hp2 f2=>?_)
  rw [hM] at hM3
  have e3:M2=M3:=Option.some.inj (congrArg Prod.fst hM3)
  subst e3
  have hwf:=quA hD hM
  have hx2:=hp2.ok
  have l64:=qav hx2
  refine Own.newZ (Own.start [] w2) qbh fun r w3 e3 ho=>?_
  refine Own.stP ho 0 rfl qar hx2 fun w4 ho4 f4=>?_
  refine qaf (fun b w'=>b=false/\w'=w4) ?_ ?_
  ·exact cond_false (by simp) ⟨rfl,rfl⟩
  rintro b w5 ⟨rfl,rfl⟩
  refine cond_false rfl ?_
  have f15:Fr [] w1 w5:=f2.trans ho4.fr
  have h5:=h1.frame0 f15
  have hp5:=hp1.frame0 f15
  have hr5:=hp2.frame0 ho4.fr
  have hsz:=hT.turn'
  have htn:x.turn=M'.turn:=hp.ref.turn
  refine qaf (fun _ w'=>w'.heap[bb]?=some (.cells (bothV (some ⟨dbk,0,none⟩) (some ⟨pb2,0,none⟩) { x2 with turn:=M'.turn+2 } none wv (-1)).toArray BTT (0,0))/\Fr [r,bb] w5 w') ?_ ?_
  ·refine cond_true rfl ?_
   refine qab ?_
   simp only [Addr.add_mk]
   refine qae (c:=.int .i64) (off:=0+2+35) h5.pair.cell x.turn (qhr hx) ?_
   rw [wi' _ (by omega),htn]
   refine Own.st' ho4 0 rfl (refV { x2 with turn:=M'.turn+2 }).toArray (qhP hx2) rfl (by rw [List.size_toArray,l64]; exact Nat.le_of_ble_eq_true rfl) fun w6 ho6 f6=>?_
   have hx3:({ x2 with turn:=M'.turn+2 }:RV).Ok:=⟨hx2.sup,hx2.roots⟩
   have l643:=qav hx3
   have ho6d:=ho6.drew
   have hbr:bb≠r:=by have:=qac h1.pair.cell; have:=f2.size; omega
   have c6:w6.drew.heap[bb]?=some (.cells (bothV (some ⟨dbk,0,none⟩) (some ⟨pb,0,none⟩) x m wv t).toArray BTT (0,0)):=by
    show w6.heap[bb]?=_
    rw [f6.block bb (qac h5.pair.cell) (by simpa using hbr)]; exact h5.pair.cell
   have f6d:Fr [r] w5 w6.drew:=f6.drew
   generalize World.drew w6=wd at ho6d c6 f6d
   refine Own.ldP ho6d 0 rfl hx3 ?_
   refine qab ?_
   refine qaX (off:=0+1) c6 (bothV (some ⟨dbk,0,none⟩) (some ⟨pb2,0,none⟩) x m wv t).toArray qu4 rfl (by rw [qaN hx hp.wl]; exact Nat.le_of_ble_eq_true rfl) fun w7 c7 f7=>?_
   have hr7:w7.heap[r]?=some (.cells (refV { x2 with turn:=M'.turn+2 }).toArray RPT (0,0)):=by
    rw [f7.block r (qac (ho6d.at (i:=0) rfl)) (by simpa using fun e=>hbr e.symm)]; exact ho6d.at (i:=0) rfl
   refine qan (qaJ hr7 _ 0 0 (by show (refV { x2 with turn:=M'.turn+2 }).take _=_; exact List.take_length)) ?_
   refine qab (qal l643 ?_)
   refine qaX (off:=0+2) c7 (bothV (some ⟨dbk,0,none⟩) (some ⟨pb2,0,none⟩) { x2 with turn:=M'.turn+2 } m wv t).toArray (qkq hx hx3) qhA (by rw [qaN hx hp.wl,l643]; exact Nat.le_of_ble_eq_true rfl) fun w8 c8 f8=>?_
   refine qab ?_
   refine qaX (off:=0+66) c8 (bothV (some ⟨dbk,0,none⟩) (some ⟨pb2,0,none⟩) { x2 with turn:=M'.turn+2 } none wv t).toArray (qq5 hx3) rfl (by rw [qaN hx3 hp.wl]; exact Nat.le_of_ble_eq_true rfl) fun w9 c9 f9=>?_
   refine qab ?_
   refine qaX (off:=0+94) c9 (bothV (some ⟨dbk,0,none⟩) (some ⟨pb2,0,none⟩) { x2 with turn:=M'.turn+2 } none wv (-1)).toArray (qnl hx3 hp.wl) rfl (by rw [qaN hx3 hp.wl]; exact Nat.le_of_ble_eq_true rfl) fun w10 c10 f10=>?_
   have g:∀ {a b:World},Fr [bb] a b->Fr [r,bb] a b:=fun f=>f.mono fun b hb _=>by rw [List.mem_singleton.1 hb]; simp
   exact ⟨c10,((((f6d.mono fun b hb _=>by rw [List.mem_singleton.1 hb]; simp).trans (g f7)).trans (g f8)).trans (g f9)).trans (g f10)⟩
  rintro _ w6 ⟨c6,f6⟩
  have hrn:w2.heap.size<=r:=by omega
  have hrw:w.heap.size<=r:=Nat.le_trans (f1.trans f2).size hrn
  have f26:Fr [bb] w2 w6:=(ho4.fr.mono fun b hb=>nomatch hb).trans' f6 fun b hb=>by
   rcases List.mem_cons.1 hb with rfl | hb
   ·exact .inr hrn
   ·exact .inl hb
  have f16:Fr [bb] w1 w6:=(f2.mono fun b hb=>nomatch hb).trans f26
  have f06:Fr [bb] w w6:=(f1.mono fun b hb=>nomatch hb).trans f16
  have fX:∀ {a b:World},Fr [bb] a b->Fr X a b:=fun f=>f.mono fun b hb _=>by rw [List.mem_singleton.1 hb]; exact hp.bx
  have e1:anewM s=⟨s.D,M2,none⟩:=by rw [anewM,hM]
  have hrp:RP (X++F2) w6 { x2 with turn:=M'.turn+2 } s.D { M2 with turn:=M'.turn+2 }:=by
   have:=hp2.frame (S':=X++F2) (f26.mono fun b hb _=>by rw [List.mem_singleton.1 hb]; exact List.mem_append_left _ hp.bx) fun b hb=>.inl hb
   exact ⟨this.disk,this.sup,this.lists,this.named,rfl,this.over,this.free,this.deferred,this.fresh,this.roots,⟨hx2.sup,hx2.roots⟩⟩
  have hdb:dbOf dbk M2=some ⟨dbk,0,none⟩:=by rw [dbOf,if_neg (by rw [hwf.2.1]; decide)]
  refine kk pb2 F2 { x2 with turn:=M'.turn+2 } { M2 with turn:=M'.turn+2 } none (-1) w6 ?_ ?_ f06 hnF2
  ·rw [e1]
   refine ⟨⟨c6,h.pair.disk.frame f06 fun b hb hm=>hp.nd ((show b=bb from List.mem_singleton.1 hm)▸hb),hp.lim,?_,hp.sub,hp.bx,hp.nd,hrp,hp.wl,hp.w1⟩,fun _=>rfl,fun q hq=>nomatch hq⟩
   rw [hdb]
   exact hp1.frameX (fX f16) (fun b hb=>Nat.lt_of_lt_of_le (hp1.xlt b hb) f16.size) fun b hb=>.inl hb
  ·rw [e1]
   obtain ⟨_,sp,y,hy,hMe,_⟩:=qk9 hM
   refine ⟨?_,hwf.1,hwf.2.2.2,by show 0<=M2.turn/\M2.turn<=_; rw [hwf.2.2.1]; omega,by show 0<=M'.turn+2/\M'.turn+2<=_; omega,fun q hq=>(nomatch hq),hT.two,fun ho=>by rw [hwf.2.1] at ho; cases ho⟩
   rw [hMe]
   exact ⟨rfl,rfl,rfl,rfl,rfl,rfl,rfl,.refl _,.nil⟩
theorem qsV {M M':PgM} (h:Sim M M') (hd:Dead M):Sim (abortM M) (if M'.over then M' else begunM M'.sup M'.lists M'.named (M'.turn+1) M'.over M'.named):=by
 cases ho:M'.over with
 | true=>
  have ho':M.over=true:=h.over▸ho
  have e:=hd ho'
  rw [if_pos rfl]
  have h1:M.sup=overM.sup:=by rw [e]
  have h2:M.lists=overM.lists:=by rw [e]
  have h3:M.named=overM.named:=by rw [e]
  have h4:M.free=overM.free:=by rw [e]
  have h5:M.deferred=overM.deferred:=by rw [e]
  have h6:M.fresh=overM.fresh:=by rw [e]
  have h7:M.roots=overM.roots:=by rw [e]
  refine ⟨h.sup,h.lists,h.named,h.over,?_,?_,?_,?_,h.sorted⟩
  ·rw [h.free,h4]; show _=M.named; rw [h3]; rfl
  ·rw [h.deferred,h5]; rfl
  ·rw [h.roots,h7]; show _=M.sup.2.drop 3; rw [h1]; rfl
  ·have:=h.perm; rw [h6] at this; exact this
 | false=>
  rw [if_neg (by decide)]
  refine ⟨h.sup,h.lists,h.named,?_,h.named,rfl,?_,.refl _,.nil⟩
  ·show false=M.over; rw [<- ho]; exact h.over
  ·show M'.sup.2.drop 3=M.sup.2.drop 3; rw [h.sup]
theorem qrA {M:PgM} (hd:Dead M):Dead (abortM M):=fun ho=>by
 have ho:M.over=true:=ho
 have e:=hd ho
 show begunM M.sup M.lists M.named (M.turn+1) M.over M.named={ overM with turn:=M.turn+1 }
 rw [ho]
 have h1:M.sup=overM.sup:=by rw [e]
 have h2:M.lists=overM.lists:=by rw [e]
 have h3:M.named=overM.named:=by rw [e]
 rw [h1,h2,h3]
 rfl
theorem qqV {D:DiskM} {M:PgM} (hd:Dead M):Dead (commitM D M).1.2:=by
 unfold commitM
 split
 ·exact hd
 split
 ·exact hd
 split
 ·exact hd
 ·split
  ·intro _; rfl
  ·intro h; cases h
theorem qsT {D:DiskM} {M:PgM} {a:OpM} (hd:Dead M):Dead (pageA D M a):=fun ho=>by
 rw [(qod D M a).2.2.2.1] at ho
 have e:pageA D M a=M:=by
  unfold pageA pageM makeV putV dropV setRootM
  simp only [ho,if_true]
  split
  ·rfl
  split
  ·rfl
  split
  ·rfl
  split <;> rfl
 rw [e]
 exact hd ho
theorem quC {M M':PgM} (h:Sim M M') (hW:M.Wf) (D:DiskM) (a:OpM) (hn:U32 a.n) (hk:0<=a.kind/\a.kind<256) (hlg:0<=a.long/\a.long<65536) (hB:IsB a.body) :
  (pageM D D M M' a).1=true/\Sim (pageA D M a) (pageM D D M M' a).2.2:=by
 have:=h.page hW D a hn hk hlg hB
 rw [qjp] at this
 exact ⟨this.1,this.2.1⟩
theorem qpq {D:DiskM} {M M':PgM} (h:Sim M M') (hW:M.Wf) (ho:(commitM D M).1.2.over=false):M.over=false/\(commitR D M').1.2.turn-M'.turn=(commitM D M).1.2.turn-M.turn/\M.turn<=(commitM D M).1.2.turn/\
  ((commitM D M).1.2.turn=M.turn->(commitM D M).1.2.sup=M.sup/\(commitM D M).1.2.lists=M.lists/\(commitM D M).1.2.named=M.named):=by
 have hp:planM M'=planM M:=by rw [planM,planM,h.free,h.deferred,h.lists]
 have hn:∀ a b,nextS M' a b=nextS M a b:=fun a b=>by rw [nextS,nextS,h.sup,h.roots]
 have hf:∀ a b s,flushR D M'.fresh a b s=flushM D M.fresh a b s:=fun a b s=>by rw [flushR,flushM,h.freshR hW]
 have he:(M'.fresh=[]↔M.fresh=[]):=⟨fun e=>by have:=h.perm; rw [e] at this; exact this.symm.eq_nil,fun e=>by have:=h.perm; rw [e] at this; exact this.eq_nil⟩
 have keep:∀ {N:PgM},N=M->N.over=false->M.over=false/\M'.turn-M'.turn=N.turn-M.turn/\M.turn<=N.turn/\(N.turn=M.turn->N.sup=M.sup/\N.lists=M.lists/\N.named=M.named):=fun e ho1=>by
  subst e; exact ⟨ho1,by omega,Int.le_refl _,fun _=>⟨rfl,rfl,rfl⟩⟩
 unfold commitR
 unfold commitM at ho ⊢
 rw [h.over,h.deferred,h.roots,h.sup,hp]
 simp only [he,hn,hf]
 split
 ·rename_i h1; rw [if_pos h1] at ho; exact keep rfl ho
 rename_i h1; rw [if_neg h1] at ho
 split
 ·rename_i h2; rw [if_pos h2] at ho; exact keep rfl ho
 rename_i h2; rw [if_neg h2] at ho
 cases hpl:planM M with
 | none=>rw [hpl] at ho; exact keep rfl ho
 | some y=>
  rw [hpl] at ho
  dsimp only at ho ⊢
  split
  ·rename_i h3; rw [if_pos h3] at ho; cases ho
  ·refine ⟨by simpa using h1,?_,?_,fun e=>?_⟩
   ·show M'.turn+1-M'.turn=M.turn+1-M.turn; omega
   ·show M.turn<=M.turn+1; omega
   ·have e:M.turn+1=M.turn:=e; omega
theorem qvl {M q:PgM} (h1:q.sup=M.sup) (h2:q.lists=M.lists) (h3:q.named=M.named) (h4:q.turn=M.turn) (h5:q.over=M.over):({ M with free:=q.free,deferred:=q.deferred,fresh:=q.fresh,roots:=q.roots }:PgM)=q:=by
 cases M; cases q
 dsimp only at h1 h2 h3 h4 h5
 subst h1 h2 h3 h4 h5
 rfl
theorem qu3 {w:World} {bb dbk pb:Nat} {FD X F:List Nat} {x:RV} {s:StM} {M' q':PgM} {k j:Nat} {m:Option Addr} {wv:List Value} {t:Int} {o:OpC} {a:OpM} {K:Bool->World->Prop}
  (h:Duo w bb dbk pb FD X F x s M' q' k m wv t) (hT:Twin s M' q' t j) (hj:j<=100000) (hk6:k+5000<=1000000) (hv:Hv w) (hg:HG∉FD) (hgb:HG≠bb) (hop:OpOk (X++F) w o a) (hl:a.body.length<=600)
  (kk:∀ pb2 FD2 X2 F2 x2 M2' q2' m2 wv2 t2 w2,Duo w2 bb dbk pb2 FD2 X2 F2 x2 (stepM a s) M2' q2' (k+5000) m2 wv2 t2->Twin (stepM a s) M2' q2' t2 (j+1)->Fr (bb::(FD++F)) w w2->(∀ b∈X2++F2,b∈X++F\/w.heap.size<=b)->K true w2) :
  call Tryz.prog 27 [.pointer (some ⟨bb,0,none⟩),.agg (opA o)] [.one .bool] w K:=by
 obtain ⟨o0,o1,o2,o3,o4,o5⟩:=o
 obtain ⟨D,M,mk⟩:=s
 have ea:o0=a.act:=hop.act
 have en:o1=a.n:=hop.n
 have hnu:=hop.rn
 have hact:=hop.ract
 have tw:2<=D.safe.length:=hT.two
 refine qeZ (b:=some ⟨bb,0,none⟩) (o0:=o0) (o1:=o1) (o2:=o2) (o3:=o3) (o4:=o4) (o5:=o5) ?_
 unfold qcw
 refine Own.new' (Own.start [] w) fun r1 w2 e2 f2 ho=>?_
 have h2:=h.frame0 f2
 have hp2:Pair w2 bb dbk pb FD X F x D M D M' k m wv t:=h2.pair
 have hx:=hp2.ref.ok
 have l64:=qav hx
 have hv2:=hv.frame0 f2
 have hsz2:=f2.size
 refine Own.ld (c:=.int .u8) ho 0 rfl o0 rfl ?_
 have htm:Int.tmod o0 12=a.act%12:=by rw [ea,Int.tmod_eq_emod_of_nonneg hact.1]
 rw [htm]
 have ht1:0<=M.turn/\M.turn<=j:=hT.turn
 have ht2:=hT.turn'
 have hmk:∀ q,mk=some q->MarkOk M M' q q' t:=hT.mark
 have hsim:Sim M M':=hT.sim
 have hwf:M.Wf:=hT.wf
 have hnm:M.Named:=hT.named
 have hdead:Dead M:=hT.dead
 have bnF:=hp2.bnF
 have hbl:=qac hp2.cell
 have hxs:∀ b∈FD++F,b∈X++F:=fun b hb=>(List.mem_append.1 hb).elim (fun h'=>List.mem_append_left _ (hp2.sub b h')) (List.mem_append_right _)
 have fS:∀ {w3:World},Fr (bb::(FD++F)) w2 w3->Fr (bb::(FD++F)) w w3:=fun f=>(f2.mono fun b hb=>nomatch hb).trans f
 have nS:∀ {L:List Nat},(∀ b∈L,b∈X++F\/w2.heap.size<=b)->∀ b∈L,b∈X++F\/w.heap.size<=b:=fun hL b hb=>(hL b hb).imp id fun h'=>by omega
 have toX:∀ {w3 w4:World},Fr (bb::(FD++F)) w3 w4->Fr (X++F) w3 w4:=fun f=>f.mono fun b hb _=>(List.mem_cons.1 hb).elim (fun e=>by rw [e]; exact List.mem_append_left _ hp2.bx) (hxs b)
 have fB:∀ {w3 w4:World},Fr [bb] w3 w4->Fr (bb::(FD++F)) w3 w4:=fun f=>f.mono fun b hb _=>by rw [List.mem_singleton.1 hb]; simp
 have f0:∀ {S:List Nat} {w3 w4:World},Fr [] w3 w4->Fr S w3 w4:=fun f=>f.mono fun b hb=>nomatch hb
 refine qaa (fun hc=>?_) (fun hc=>?_)
 ·-- Commit
  have h5:a.act%12=5:=by simpa using hc
  have es:stepM a ⟨D,M,mk⟩=⟨(commitM D M).1.1,(commitM D M).1.2,mk⟩:=if_pos h5
  refine qab ?_
  refine qae (c:=.ptr) (off:=0+1) hp2.cell (some ⟨pb,0,none⟩) qb4 ?_
  refine qlb hp2.disk hp2.lim hp2.pager hp2.sub hwf hk6 ⟨ht1.1,by omega⟩ hv2 hg fun FD3 F3 w3 hd3 hl3 hp3 t3=>?_
  have hb3:bb∉FD++F:=fun hm=>(List.mem_append.1 hm).elim hp2.nd bnF
  have hnew:∀ b∈(FD3++X)++F3,b∈X++F\/w2.heap.size<=b:=fun b hb=>by
   rcases List.mem_append.1 hb with hb | hb
   ·rcases List.mem_append.1 hb with hb | hb
    ·exact (t3.2 b (List.mem_append_left _ hb)).imp (hxs b) id
    ·exact .inl (List.mem_append_left _ hb)
   ·exact (t3.2 b (List.mem_append_right _ hb)).imp (hxs b) id
  have h3:Pair w3 bb dbk pb FD3 (FD3++X) F3 x (commitM D M).1.1 (commitM D M).1.2 D M' (k+5000) m wv t:=
   ⟨by rw [t3.1.block bb hbl hb3]; exact hp2.cell,hd3,hl3,hp3,fun b hb=>List.mem_append_left _ hb,List.mem_append_right _ hp2.bx,fun hm=>(t3.2 bb (List.mem_append_left _ hm)).elim hb3 (fun h'=>by omega),
    hp2.ref.frame (t3.1.mono fun b hb _=>hxs b hb) hnew,hp2.wl,hp2.w1⟩
  refine qab ?_
  refine qas (off:=0+2) h3.cell (refV x) l64 (qrG hx) ?_
  have hcm:=hsim.commit hwf D
  refine qrO h3.ref (hsim.wf hwf) hp2.lim hk6 ⟨ht2.1,by omega⟩ h3.lt fun x4 w4 hp4 f4=>?_
  rw [hcm.1] at hp4
  refine Own.newZ (Own.start [] w4) qbh fun r w5 e5 hoz=>?_
  refine qba h3 (f4.trans hoz.fr) (hoz.at (i:=0) rfl) (by rw [e5]; exact f4.size) (hp4.frame (hoz.fr.mono fun b hb=>nomatch hb) fun b hb=>(List.mem_cons.1 hb).elim (fun e=>.inr (by rw [e,e5]; exact Nat.le_refl _)) .inl) fun w6 h6 f6=>?_
  have t1:=qpV (D:=D) ht1.1
  have t2:=qp7 (D:=D) ht2.1
  have f26:Fr (bb::(FD++F)) w2 w6:=(t3.1.mono fun b hb _=>List.mem_cons_of_mem _ hb).trans (fB f6)
  rw [hcm.2.1,show ((commitM D M).2==(commitM D M).2)=true from beq_self_eq_true _]
  refine kk pb FD3 (FD3++X) F3 x4 (commitR D M').1.2 q' m wv t w6 ?_ ?_ (fS f26) (nS hnew)
  ·rw [es]; exact h2.turn h6 (toX f26) hnew
  ·rw [es]
   refine ⟨hcm.2.2,qtL hwf,qo6 hnm,⟨t1.1,by dsimp only; omega⟩,⟨t2.1,by omega⟩,fun q hq=>(hmk q hq).step fun ho2=>?_,by show 2<=(commitM D M).1.1.safe.length; rw [qqw]; exact tw,qqV hdead⟩
   exact qpq hsim hwf ho2
 have hc5:¬ a.act%12=5:=by simpa using hc
 refine qaa (fun hc=>?_) (fun hc=>?_)
 ·-- Abort
  have h6:a.act%12=6:=by simpa using hc
  have es:stepM a ⟨D,M,mk⟩=⟨D,abortM M,mk⟩:=by rw [stepM,if_neg hc5,if_pos h6]
  refine qab ?_
  refine qae (c:=.ptr) (off:=0+1) hp2.cell (some ⟨pb,0,none⟩) qb4 ?_
  have hn4:=hwf.named4
  refine qs3 hp2.pager ⟨ht1.1,by omega⟩ (by omega) fun F3 w3 hp3 f3 n3=>?_
  rw [qgq hwf.namedS] at hp3
  have h3:=hp2.real (M2:=abortM M) hp3 rfl f3 n3
  refine qab ?_
  refine qas (off:=0+2) h3.cell (refV x) l64 (qrG hx) ?_
  refine qs8 h3.ref ⟨ht2.1,by omega⟩ fun x4 w4 hp4 f4=>?_
  have h4:=h3.frame0 f4
  have hx4:=hp4.ok
  refine qab (qal (qav hx4) ?_)
  refine qaX (off:=0+2) h4.cell (bothV (some ⟨dbk,0,none⟩) (some ⟨pb,0,none⟩) x4 m wv t).toArray (qkq hx hx4) qhA (by rw [qaN hx hp2.wl,qav hx4]; exact Nat.le_of_ble_eq_true rfl) fun w5 c5 f5=>?_
  have hr5:=hp4.frame (S':=X++F3) (f5.mono fun b hb _=>by rw [List.mem_singleton.1 hb]; exact List.mem_append_left _ hp2.bx) fun b hb=>.inl hb
  have h5:=h4.cellSet c5 f5 hr5 hp2.wl hp2.w1
  have f25:Fr (bb::(FD++F)) w2 w5:=((f3.mono fun b hb _=>List.mem_cons_of_mem _ (List.mem_append_right _ hb)).trans (f0 f4)).trans (fB f5)
  have hnew:∀ b∈X++F3,b∈X++F\/w2.heap.size<=b:=qka n3
  refine kk pb FD X F3 x4 (if M'.over then M' else begunM M'.sup M'.lists M'.named (M'.turn+1) M'.over M'.named) q' m wv t w5 ?_ ?_ (fS f25) (nS hnew)
  ·rw [es]; exact (h2.turn h5 (toX f25) hnew).lims (by omega)
  ·rw [es]
   refine ⟨qsV hsim hdead,quj hwf (hnm.apart hwf),qcL _ _ _ _ _,⟨by show 0<=M.turn+1; omega,by show M.turn+1<=_; omega⟩,?_,fun q hq=>(hmk q hq).step fun ho2=>?_,tw,qrA hdead⟩
   ·split
    ·omega
    ·show 0<=M'.turn+1/\M'.turn+1<=_; omega
   ·have ho2:M.over=false:=ho2
    have ho':M'.over=false:=by rw [hsim.over]; exact ho2
    rw [if_neg (by rw [ho']; decide)]
    refine ⟨ho2,?_,?_,fun e=>?_⟩
    ·show M'.turn+1-M'.turn=M.turn+1-M.turn; omega
    ·show M.turn<=M.turn+1; omega
    ·exact ⟨rfl,rfl,rfl⟩
 have hc6:¬ a.act%12=6:=by simpa using hc
 refine qaa (fun hc=>?_) (fun hc=>?_)
 ·-- Save
  have h7:a.act%12=7:=by simpa using hc
  have es:stepM a ⟨D,M,mk⟩=⟨D,M,if M.over then none else some M⟩:=by rw [stepM,if_neg hc5,if_neg hc6,if_pos h7]
  have fd:Fr [] w2 w2.drew:=(Fr.refl [] w2).drew
  have h2d:=h2.frame0 fd
  have sd:w2.drew.heap.size=w2.heap.size:=rfl
  generalize World.drew w2=wd at h2d fd sd
  have hpd:Pair wd bb dbk pb FD X F x D M D M' k m wv t:=h2d.pair
  refine qab ?_
  refine qae (c:=.ptr) (off:=0+1) hpd.cell (some ⟨pb,0,none⟩) qb4 ?_
  refine qab ?_
  refine qas (off:=0+2+37) hpd.cell (rvW x) (qbk hx) (qvU hx) ?_
  refine qab ?_
  refine qae (c:=.int .i64) (off:=0+2+35) hpd.cell x.turn (qhr hx) ?_
  have hsm:=hwf.small
  have xt:x.turn=M'.turn:=hpd.ref.turn
  have xo:x.over=M.over:=by rw [hpd.ref.over]; exact hsim.over
  have tail:∀ (m2:Option Addr) (w3:World),Fr [] wd w3->(M.over=true->m2=none)->(M.over=false->∃ kb,m2=some ⟨kb,0,none⟩/\MarkAt w3 (X++F) kb pb M)->
    (held [fun w'=>w'.cell? ⟨bb,0+2+35,none⟩=some (.int .i64 x.turn),fun w'=>cellsAt w' ⟨bb,0+2+37,none⟩ 0 (rvW x)] w3<|
    nn (some ⟨bb,0,none⟩) fun a_38=>st ⟨a_38.block,a_38.off+66,none⟩ [.pointer m2] w3 fun w_39=>
    nn (some ⟨bb,0,none⟩) fun a_40=>chk ((rvW x).length=27)<|st ⟨a_40.block,a_40.off+67,none⟩ (rvW x) w_39 fun w_41=>
    nn (some ⟨bb,0,none⟩) fun a_42=>st ⟨a_42.block,a_42.off+94,none⟩ [.int .i64 x.turn] w_41 fun w_43=>
    join PUnit (fun X_44=>nn (some ⟨bb,0,none⟩) fun a_45=>ld .bool ⟨(Addr.add a_45 2).block,(Addr.add a_45 2).off+36,none⟩ w_43 fun b_46=>
     cond b_46 (nn (some ⟨bb,0,none⟩) fun a_47=>st ⟨a_47.block,a_47.off+94,none⟩ [.int .i64 (-1)] w_43 fun w_48=>X_44 () w_48) (X_44 () w_43)) fun x_49 w_50=>
    nn (some ⟨bb,0,none⟩) fun a_51=>ld .ptr ⟨a_51.block,a_51.off+66,none⟩ w_50.drew fun p_52=>
    nn (some ⟨bb,0,none⟩) fun a_53=>ld .bool ⟨(Addr.add a_53 2).block,(Addr.add a_53 2).off+36,none⟩ w_50.drew fun b_54=>
    K (p_52.isNone==b_54) w_50.drew):=by
   intro m2 w3 f3 hov hno
   have h3:=h2d.frame0 f3
   have hp3:Pair w3 bb dbk pb FD X F x D M D M' k m wv t:=h3.pair
   have c3:=hp3.cell
   refine qaQ (by rw [qaj c3]; exact qhr hx) (qaJ c3 _ 39 0 (by rw [qbk hx]; exact qvU hx)) ?_
   refine qab ?_
   refine qaX (off:=0+66) c3 (bothV (some ⟨dbk,0,none⟩) (some ⟨pb,0,none⟩) x m2 wv t).toArray (qq5 hx) rfl (by rw [qaN hx hp2.wl]; exact Nat.le_of_ble_eq_true rfl) fun w4 c4 f4=>?_
   refine qab (qal (qbk hx) ?_)
   refine qaX (off:=0+67) c4 (bothV (some ⟨dbk,0,none⟩) (some ⟨pb,0,none⟩) x m2 (rvW x) t).toArray (qum hx (by rw [hp2.wl,qbk hx])) qq7 (by rw [qaN hx hp2.wl,qbk hx]; exact Nat.le_of_ble_eq_true rfl) fun w5 c5 f5=>?_
   refine qab ?_
   refine qaX (off:=0+94) c5 (bothV (some ⟨dbk,0,none⟩) (some ⟨pb,0,none⟩) x m2 (rvW x) x.turn).toArray (qnl hx (qbk hx)) rfl (by rw [qaN hx (qbk hx)]; exact Nat.le_of_ble_eq_true rfl) fun w6 c6 f6=>?_
   have f36:Fr [bb] w3 w6:=(f4.trans f5).trans f6
   refine qaf (fun _ w'=>w'.heap[bb]?=some (.cells (bothV (some ⟨dbk,0,none⟩) (some ⟨pb,0,none⟩) x m2 (rvW x) (if M.over then -1 else x.turn)).toArray BTT (0,0))/\Fr [bb] w3 w') ?_ ?_
   ·refine qab ?_
    refine qae (c:=.bool) (off:=0+2+36) c6 x.over (qhJ hx) ?_
    rw [xo]
    refine qaa (fun hc=>?_) (fun hc=>?_)
    ·refine qab ?_
     refine qaX (off:=0+94) c6 (bothV (some ⟨dbk,0,none⟩) (some ⟨pb,0,none⟩) x m2 (rvW x) (-1)).toArray (qnl hx (qbk hx)) rfl (by rw [qaN hx (qbk hx)]; exact Nat.le_of_ble_eq_true rfl) fun w7 c7 f7=>?_
     rw [if_pos hc]
     exact ⟨c7,f36.trans f7⟩
    ·rw [if_neg (by rw [hc]; decide)]
     exact ⟨c6,f36⟩
   rintro _ w7 ⟨c7,f7⟩
   have f7d:Fr [bb] w3 w7.drew:=f7.drew
   have c7d:w7.drew.heap[bb]?=some (.cells (bothV (some ⟨dbk,0,none⟩) (some ⟨pb,0,none⟩) x m2 (rvW x) (if M.over then -1 else x.turn)).toArray BTT (0,0)):=c7
   generalize World.drew w7=we at f7d c7d
   refine qab ?_
   refine qae (c:=.ptr) (off:=0+66) c7d m2 (qsC hx) ?_
   refine qab ?_
   refine qae (c:=.bool) (off:=0+2+36) c7d x.over (qhJ hx) ?_
   have fbX:Fr (X++F) w3 we:=f7d.mono fun b hb _=>by rw [List.mem_singleton.1 hb]; exact List.mem_append_left _ hp2.bx
   have hr7:RP (X++F) we x D M':=hp3.ref.frame fbX fun b hb=>.inl hb
   have h7:=hp3.cellSet c7d f7d hr7 (qbk hx) qq7
   have f27:Fr (bb::(FD++F)) w2 we:=((f0 fd).trans (f0 f3)).trans (fB f7d)
   have e:(m2.isNone==x.over)=true:=by
    rw [xo]
    cases ho:M.over with
    | true=>rw [hov ho]; rfl
    | false=>obtain ⟨kb,e,_⟩:=hno ho; rw [e]; rfl
   rw [e]
   refine kk pb FD X F x M' M' m2 (rvW x) (if M.over then -1 else x.turn) we ?_ ?_ (fS f27) fun b hb=>.inl hb
   ·rw [es]
    refine ⟨h7.lims (by omega),fun hn=>?_,fun q hq=>?_⟩
    ·cases ho:M.over with
     | true=>exact hov ho
     | false=>dsimp only at hn; rw [ho] at hn; cases hn
    ·cases ho:M.over with
     | true=>dsimp only at hq; rw [ho] at hq; cases hq
     | false=>
      dsimp only at hq
      rw [ho] at hq
      have hq:M=q:=Option.some.inj hq
      subst hq
      obtain ⟨kb,e,hm⟩:=hno ho
      exact ⟨⟨kb,e,hm.frame fbX fun b hb=>.inl hb⟩,hr7.work⟩
   ·rw [es]
    refine ⟨hsim,hwf,hnm,⟨ht1.1,by dsimp only; omega⟩,⟨ht2.1,by omega⟩,fun q hq=>?_,tw,hdead⟩
    cases ho:M.over with
    | true=>dsimp only at hq; rw [ho] at hq; cases hq
    | false=>
     dsimp only at hq
     rw [ho] at hq
     have hq:M=q:=Option.some.inj hq
     subst hq
     rw [if_neg (by decide),xt]
     exact ⟨hsim,hwf,hnm,ho,rfl,fun _=>⟨Int.le_refl _,by show M'.turn-M'.turn=M.turn-M.turn; omega,fun _=>⟨rfl,rfl,rfl⟩⟩⟩
  refine qug hpd.pager (by have:=hsm.free; omega) (by have:=hsm.deferred; omega) (fun ho=>?_) (fun ho kb w3 hm f3=>?_)
  ·exact tail none wd (.refl _ _) (fun _=>rfl) fun h'=>by rw [ho] at h'; cases h'
  ·exact tail (some ⟨kb,0,none⟩) w3 f3 (fun h'=>by rw [ho] at h'; cases h') fun _=>⟨kb,rfl,hm⟩
 have hc7:¬ a.act%12=7:=by simpa using hc
 refine qaa (fun hc=>?_) (fun hc=>?_)
 ·-- Back
  have h8:a.act%12=8:=by simpa using hc
  have es:stepM a ⟨D,M,mk⟩=⟨D,backM M mk,mk⟩:=by rw [stepM,if_neg hc5,if_neg hc6,if_neg hc7,if_pos h8]
  have fd:Fr [] w2 w2.drew:=(Fr.refl [] w2).drew
  have h2d:=h2.frame0 fd
  have sd:w2.drew.heap.size=w2.heap.size:=rfl
  generalize World.drew w2=wd at h2d fd sd
  have hpd:Pair wd bb dbk pb FD X F x D M D M' k m wv t:=h2d.pair
  refine qab ?_
  refine qae (c:=.ptr) (off:=0+1) hpd.cell (some ⟨pb,0,none⟩) qb4 ?_
  refine qab ?_
  refine qae (c:=.ptr) (off:=0+66) hpd.cell m (qsC hx) ?_
  have xt:x.turn=M'.turn:=hpd.ref.turn
  have xo:x.over=M.over:=by rw [hpd.ref.over]; exact hsim.over
  have same:∀ {w':World},backM M mk=M->Fr [] w2 w'->K true w':=fun {w'} e f=>by
   refine kk pb FD X F x M' q' m wv t w' ?_ ?_ (fS (f0 f)) fun b hb=>.inl hb
   ·rw [es,e]; exact (h2.frame0 f).lims (by omega)
   ·rw [es,e]; exact ⟨hsim,hwf,hnm,⟨ht1.1,by dsimp only; omega⟩,⟨ht2.1,by omega⟩,hmk,tw,hdead⟩
  refine qtW (q:=mk.getD M) hpd.pager (S:=X++F) (fun b hb=>hb) (fun hm=>?_) (fun ho=>?_) (fun ho hno=>?_) (fun ho hm htq F3 w3 hp3 f3 n3=>?_)
  ·cases hk:mk with
   | none=>exact absurd (h2d.mnone hk) hm
   | some q=>
    obtain ⟨⟨kb,e,hmm⟩,_⟩:=h2d.msome q hk
    have hs:=(hmk q hk).wf.small
    exact ⟨kb,e,hmm,Nat.le_trans hs.free (by decide),Nat.le_trans hs.deferred (by decide)⟩
  ·refine qab ?_
   refine qae (c:=.bool) (off:=0+2+36) hpd.cell x.over (qhJ hx) ?_
   rw [xo]
   refine cond_true ho ?_
   exact same (by unfold backM; exact if_pos ho) fd
  ·have fe:Fr [] w2 wd.drew:=fd.drew
   have hpe:=hpd.frame0 (Fr.refl [] wd).drew
   generalize World.drew wd=we at fe hpe
   refine qab ?_
   refine qae (c:=.bool) (off:=0+2+36) hpe.cell x.over (qhJ hx) ?_
   rw [xo]
   refine cond_false ho ?_
   have hpf:=hpe.frame0 (Fr.refl [] we).drew
   have ff:Fr [] w2 we.drew:=fe.drew
   refine qaf (fun b w'=>b=true/\w'=we.drew) ?_ ?_
   ·refine qab ?_
    refine qae (w:=we.drew) (c:=.ptr) (off:=0+66) hpf.cell m (qsC hx) ?_
    cases hme:m with
    | none=>exact cond_true rfl ⟨rfl,rfl⟩
    | some ad=>
     refine cond_false rfl ?_
     refine qab ?_
     rw [hme] at hpf hno
     refine qae (w:=we.drew) (c:=.int .i64) (off:=0+94) hpf.cell t (qvZ hx hp2.wl) ?_
     refine qab ?_
     refine qae (w:=we.drew) (c:=.int .i64) (off:=0+2+35) hpf.cell x.turn (qhr hx) ?_
     refine ⟨?_,rfl⟩
     cases hk:mk with
     | none=>have:=h2d.mnone hk; rw [hme] at this; cases this
     | some q=>
      rw [hk] at hno
      have hmq:=hmk q hk
      have hl:=hmq.live ho
      have hne:q.turn≠M.turn:=hno.resolve_left (by simp)
      have:t≠x.turn:=by rw [hmq.turn,xt]; omega
      simp [this]
   rintro b w' ⟨rfl,rfl⟩
   refine cond_true rfl ?_
   refine same ?_ ff
   cases hk:mk with
   | none=>unfold backM; rw [if_neg (by rw [ho]; decide)]
   | some q=>
    rw [hk] at hno
    unfold backM; rw [if_neg (by rw [ho]; decide)]
    refine if_neg fun e=>?_
    rcases hno with hn | hn
    ·obtain ⟨⟨kb,e',_⟩,_⟩:=h2d.msome q hk
     rw [hn] at e'; cases e'
    ·exact hn e
  ·obtain ⟨q,hk⟩:∃ q,mk=some q:=by
    cases hk:mk with
    | none=>exact absurd (h2d.mnone hk) hm
    | some q=>exact ⟨q,rfl⟩
   subst hk
   have htq:q.turn=M.turn:=htq
   have hmq:=hmk q rfl
   obtain ⟨l0,l1,l2⟩:=hmq.live ho
   obtain ⟨s1,s2,s3⟩:=l2 htq
   have eq1:({ M with free:=q.free,deferred:=q.deferred,fresh:=q.fresh,roots:=q.roots }:PgM)=q:=qvl s1 s2 s3 htq (by rw [hmq.over]; exact ho.symm)
   have hp3:PagerAt w3 X pb (dbOf dbk M) F3 q:=by rw [<- eq1]; exact hp3
   have h3:=hpd.real (M2:=q) hp3 (by rw [hmq.over]; exact ho.symm) f3 n3
   refine qab ?_
   refine qae (c:=.bool) (off:=0+2+36) h3.cell x.over (qhJ hx) ?_
   rw [xo]
   refine cond_false ho ?_
   have h3e:=h3.frame0 (Fr.refl [] w3).drew
   have hme:=(h2d.msome q rfl).2
   refine qaf (fun b w'=>b=false/\w'=w3.drew) ?_ ?_
   ·refine qab ?_
    refine qae (w:=w3.drew) (c:=.ptr) (off:=0+66) h3e.cell m (qsC hx) ?_
    cases hmm:m with
    | none=>exact absurd hmm hm
    | some ad=>
     refine cond_false rfl ?_
     rw [hmm] at h3e
     refine qab ?_
     refine qae (w:=w3.drew) (c:=.int .i64) (off:=0+94) h3e.cell t (qvZ hx hp2.wl) ?_
     refine qab ?_
     refine qae (w:=w3.drew) (c:=.int .i64) (off:=0+2+35) h3e.cell x.turn (qhr hx) ?_
     refine ⟨?_,rfl⟩
     have:t=x.turn:=by rw [hmq.turn,xt]; omega
     simp [this]
   rintro b w' ⟨rfl,rfl⟩
   refine cond_false rfl ?_
   have sz3:w3.drew.heap.size=w3.heap.size:=rfl
   have f3e:Fr F wd w3.drew:=f3.drew
   generalize World.drew w3=we at h3e f3e sz3
   refine qab ?_
   refine qas (off:=0+67) h3e.cell wv hp2.wl (qwp hx hp2.wl) ?_
   refine qab (qal hp2.wl ?_)
   obtain ⟨sf,sd',sfr,ew,g1,g2,g3,gr⟩:=hme
   subst ew
   have hx5:({ x with sf:=sf,sd:=sd',sfr:=sfr,roots:=q'.roots }:RV).Ok:=⟨hx.sup,gr⟩
   have hwl:([slV sf,slV sd',slV sfr]++q'.roots.map (Value.int .u32)).length=27:=hp2.wl
   have hw1:([slV sf,slV sd',slV sfr]++q'.roots.map (Value.int .u32)).all Value.oneCell'=true:=hp2.w1
   refine qaX (off:=0+2+37) h3e.cell (bothV (some ⟨dbk,0,none⟩) (some ⟨pb,0,none⟩) { x with sf:=sf,sd:=sd',sfr:=sfr,roots:=q'.roots } m ([slV sf,slV sd',slV sfr]++q'.roots.map (Value.int .u32)) t).toArray (qu8 hx gr) hw1 (by rw [qaN hx hwl,hwl]; exact Nat.le_of_ble_eq_true rfl) fun w5 c5 f5=>?_
   have hnew:∀ b∈X++F3,b∈X++F\/wd.heap.size<=b:=qka n3
   have fX:∀ {a b:World},Fr [bb] a b->Fr (X++F) a b:=fun f=>f.mono fun b hb _=>by rw [List.mem_singleton.1 hb]; exact List.mem_append_left _ hp2.bx
   have fd5:Fr (X++F) wd w5:=(f3e.mono fun b hb _=>List.mem_append_right _ hb).trans (fX f5)
   have sm:=hmq.sim
   have hr5:RP (X++F3) w5 { x with sf:=sf,sd:=sd',sfr:=sfr,roots:=q'.roots } D { M' with free:=q'.free,deferred:=q'.deferred,fresh:=q'.fresh,roots:=q'.roots }:=by
    have hr:=h3e.ref.frame (S':=X++F3) (f5.mono fun b hb _=>by rw [List.mem_singleton.1 hb]; exact List.mem_append_left _ hp2.bx) fun b hb=>.inl hb
    exact ⟨hr.disk,hr.sup,hr.lists,hr.named,hr.turn,hr.over,g1.frame fd5 hnew,g2.frame fd5 hnew,g3.frame fd5 hnew,rfl,hx5⟩
   have h5:=h3e.cellSet c5 f5 hr5 hwl hw1
   have f25:Fr (bb::(FD++F)) w2 w5:=((f0 fd).trans (f3e.mono fun b hb _=>List.mem_cons_of_mem _ (List.mem_append_right _ hb))).trans (fB f5)
   have hnew2:∀ b∈X++F3,b∈X++F\/w2.heap.size<=b:=fun b hb=>(hnew b hb).imp id fun h'=>by omega
   have eb:backM M (some q)=q:=by unfold backM; rw [if_neg (by rw [ho]; decide)]; exact if_pos htq
   have sM:=hsim
   refine kk pb FD X F3 { x with sf:=sf,sd:=sd',sfr:=sfr,roots:=q'.roots } { M' with free:=q'.free,deferred:=q'.deferred,fresh:=q'.fresh,roots:=q'.roots } q' m ([slV sf,slV sd',slV sfr]++q'.roots.map (Value.int .u32)) t w5 ?_ ?_ (fS f25) (nS hnew2)
   ·rw [es,eb]
    exact (h2.turn h5 (toX f25) hnew2).lims (by omega)
   ·rw [es,eb]
    have hover':M'.over=false:=by rw [sM.over]; exact ho
    refine ⟨⟨?_,?_,?_,?_,sm.free,sm.deferred,sm.roots,sm.perm,sm.sorted⟩,hmq.wf,hmq.named,⟨by dsimp only; omega,by dsimp only; omega⟩,⟨ht2.1,by show M'.turn<=_; omega⟩,fun q2 hq2=>?_,tw,fun h'=>by rw [hmq.over] at h'; cases h'⟩
    ·show M'.sup=q.sup; rw [sM.sup,s1]
    ·show M'.lists=q.lists; rw [sM.lists,s2]
    ·show M'.named=q.named; rw [sM.named,s3]
    ·show M'.over=q.over; rw [hover',hmq.over]
    ·have hq2:q=q2:=Option.some.inj hq2
     subst hq2
     exact ⟨sm,hmq.wf,hmq.named,hmq.over,hmq.turn,fun _=>⟨Int.le_refl _,by show M'.turn-q'.turn=q.turn-q.turn; omega,fun _=>⟨rfl,rfl,rfl⟩⟩⟩
 have hc8:¬ a.act%12=8:=by simpa using hc
 refine qaa (fun hc=>?_) (fun hc=>?_)
 ·-- opened anew
  have h9:a.act%12=9:=by simpa using hc
  have es:stepM a ⟨D,M,mk⟩=anewM ⟨D,M,mk⟩:=by rw [stepM,if_neg hc5,if_neg hc6,if_neg hc7,if_neg hc8,if_pos h9]
  refine qry h2 hT hj hv2 fun pb2 F2 x2 M2' m2 t2 w3 h3 hT3 f3 n3=>?_
  refine kk pb2 FD X F2 x2 M2' q' m2 wv t2 w3 ?_ ?_ (fS (fB f3)) (nS n3)
  ·rw [es]; exact h3.lims (by omega)
  ·rw [es]; exact hT3
 have hc9:¬ a.act%12=9:=by simpa using hc
 refine qaa (fun hc=>?_) (fun hc=>?_)
 ·-- Fuse
  have h10:a.act%12=10:=by simpa using hc
  have es:stepM a ⟨D,M,mk⟩=⟨fuseM D (a.n%20),M,mk⟩:=by rw [stepM,if_neg hc5,if_neg hc6,if_neg hc7,if_neg hc8,if_neg hc9,if_pos h10]
  have hn20:IntKind.wrap .i64 (Int.tmod o1 20)=a.n%20:=by
   rw [en,Int.tmod_eq_emod_of_nonneg hnu.1]
   exact wi' _ (by omega)
  have fd:Fr [] w2 w2.drew:=(Fr.refl [] w2).drew
  have hod:=ho.drew
  have h2d:=h2.frame0 fd
  generalize World.drew w2=wd at h2d fd hod
  have hpd:Pair wd bb dbk pb FD X F x D M D M' k m wv t:=h2d.pair
  refine qab ?_
  refine qae (c:=.ptr) hpd.cell (some ⟨dbk,0,none⟩) qpC ?_
  refine Own.ld (c:=.int .u32) hod 0 rfl o1 rfl ?_
  rw [hn20]
  refine qun hpd.disk fun w3 hd3 f3=>?_
  have hdb:dbk∈FD:=hpd.disk.mem
  have f3d:Fr [dbk] wd w3.drew:=f3.drew
  have hd3d:DiskAt w3.drew dbk FD (fuseM D (a.n%20)):=hd3.frame0 (Fr.refl [] w3).drew
  generalize World.drew w3=we at f3d hd3d
  have hr1:r1∉FD/\r1≠bb:=⟨fun hm=>by have:=h.pair.disk.lt r1 hm; omega,fun e=>by have:=qac h.pair.cell; omega⟩
  have bbne:bb∉[dbk]:=fun hm=>hpd.nd (List.mem_singleton.1 hm▸hdb)
  have c1:wd.heap[r1]?=some (.cells (opA (o0,o1,o2,o3,o4,o5)) OPT (0,0)):=hod.at (i:=0) rfl
  have c1e:we.heap[r1]?=some (.cells (opA (o0,o1,o2,o3,o4,o5)) OPT (0,0)):=by rw [f3d.block r1 (qac c1) (fun hm=>hr1.1 (List.mem_singleton.1 hm▸hdb))]; exact c1
  have ce:=hpd.cell
  rw [<- f3d.block bb (qac ce) bbne] at ce
  refine qab ?_
  refine qd1 (cl:=dC) (off:=0+2) ce x.d (qms hx) ?_
  refine qae (c:=.int .u32) c1e o1 rfl ?_
  rw [hn20]
  have f3X:Fr (X++F) wd we:=f3d.mono fun b hb _=>by rw [List.mem_singleton.1 hb]; exact List.mem_append_left _ (hp2.sub _ hdb)
  have hre:=hpd.ref.frame (S':=X++F) f3X fun b hb=>.inl hb
  refine quK hre.disk fun d' w4 hrd4 f4=>?_
  have c4:=ce
  rw [<- f4.block bb (qac ce) (by simp)] at c4
  refine qab ?_
  have hx5:({ x with d:=d' }:RV).Ok:=⟨hx.sup,hx.roots⟩
  refine qaX (off:=0+2) c4 (bothV (some ⟨dbk,0,none⟩) (some ⟨pb,0,none⟩) { x with d:=d' } m wv t).toArray (qq8 hx) rfl (by rw [qaN hx hp2.wl]; exact Nat.le_of_ble_eq_true rfl) fun w5 c5 f5=>?_
  have f5X:Fr (X++F) w4 w5:=f5.mono fun b hb _=>by rw [List.mem_singleton.1 hb]; exact List.mem_append_left _ hp2.bx
  have hr5:=(hre.frame0 f4).frame (S':=X++F) f5X fun b hb=>.inl hb
  have hrd5:=hrd4.frame (S':=X++F) f5X fun b hb=>.inl hb
  have fe5:Fr [dbk,bb] wd w5:=((f3d.mono fun b hb _=>by rw [List.mem_singleton.1 hb]; simp).trans (f0 f4)).trans (f5.mono fun b hb _=>by rw [List.mem_singleton.1 hb]; simp)
  have fe5X:Fr X wd w5:=fe5.mono fun b hb _=>by
   rcases List.mem_cons.1 hb with rfl | hb
   ·exact hp2.sub _ hdb
   ·rw [List.mem_singleton.1 hb]; exact hp2.bx
  have h5:Pair w5 bb dbk pb FD X F { x with d:=d' } (fuseM D (a.n%20)) M (fuseM D (a.n%20)) M' k m wv t:=
   ⟨c5,(hd3d.frame0 f4).frame f5 fun b hb hm=>hp2.nd ((show b=bb from List.mem_singleton.1 hm)▸hb),hp2.lim.fuse (by omega),hpd.pager.frameX fe5X (fun b hb=>Nat.lt_of_lt_of_le (hpd.pager.xlt b hb) fe5X.size) (fun b hb=>.inl hb),hp2.sub,hp2.bx,hp2.nd,
    ⟨hrd5,hr5.sup,hr5.lists,hr5.named,hr5.turn,hr5.over,hr5.free,hr5.deferred,hr5.fresh,hr5.roots,hx5⟩,hp2.wl,hp2.w1⟩
  have f25:Fr (bb::(FD++F)) w2 w5:=(f0 fd).trans (fe5.mono fun b hb _=>by
   rcases List.mem_cons.1 hb with rfl | hb
   ·exact List.mem_cons_of_mem _ (List.mem_append_left _ hdb)
   ·rw [List.mem_singleton.1 hb]; simp)
  refine kk pb FD X F { x with d:=d' } M' q' m wv t w5 ?_ ?_ (fS f25) fun b hb=>.inl hb
  ·rw [es]; exact (h2.turn h5 (toX f25) fun b hb=>.inl hb).lims (by omega)
  ·rw [es]
   exact ⟨hsim,hwf,hnm,⟨ht1.1,by dsimp only; omega⟩,⟨ht2.1,by omega⟩,hmk,by show 2<=(fuseM D (a.n%20)).safe.length; rw [qtj]; exact tw,hdead⟩
 have hc10:¬ a.act%12=10:=by simpa using hc
 refine qaa (fun hc=>?_) (fun hc=>?_)
 ·-- Crash
  have h11:a.act%12=11:=by simpa using hc
  have es:stepM a ⟨D,M,mk⟩=anewM ⟨crashM D a.lost,M,mk⟩:=by rw [stepM,if_neg hc5,if_neg hc6,if_neg hc7,if_neg hc8,if_neg hc9,if_neg hc10,if_pos h11]
  have fd:Fr [] w2 w2.drew:=(Fr.refl [] w2).drew
  have hod:=ho.drew
  have h2d:=h2.frame0 fd
  have hlost:=hop.lost.frame0 (f2.trans fd)
  generalize World.drew w2=wd at h2d fd hod hlost
  have hpd:Pair wd bb dbk pb FD X F x D M D M' k m wv t:=h2d.pair
  refine qab ?_
  refine qae (c:=.ptr) hpd.cell (some ⟨dbk,0,none⟩) qpC ?_
  refine Own.ld (c:=.slice) hod 0 rfl o5 rfl ?_
  refine qtw hpd.disk hpd.lim.ok (hlost.weak fun b hb=>.inl (List.mem_append_left _ (hp2.sub b hb))) fun FD3 w3 hd3 f3 n3=>?_
  have f3d:Fr FD wd w3.drew:=f3.drew
  have hd3d:DiskAt w3.drew dbk FD3 (crashM D a.lost):=hd3.frame0 (Fr.refl [] w3).drew
  generalize World.drew w3=we at f3d hd3d
  have hr1:r1∉FD:=fun hm=>by have:=h.pair.disk.lt r1 hm; omega
  have c1:wd.heap[r1]?=some (.cells (opA (o0,o1,o2,o3,o4,o5)) OPT (0,0)):=hod.at (i:=0) rfl
  have c1e:we.heap[r1]?=some (.cells (opA (o0,o1,o2,o3,o4,o5)) OPT (0,0)):=by rw [f3d.block r1 (qac c1) hr1]; exact c1
  have ce:=hpd.cell
  rw [<- f3d.block bb (qac ce) hp2.nd] at ce
  refine qab ?_
  refine qd1 (cl:=dC) (off:=0+2) ce x.d (qms hx) ?_
  refine qae (c:=.slice) c1e o5 rfl ?_
  have f3X:Fr (X++F) wd we:=f3d.mono fun b hb _=>List.mem_append_left _ (hp2.sub _ hb)
  have hre:=hpd.ref.frame (S':=X++F) f3X fun b hb=>.inl hb
  have hle:=hlost.frame (S':=X++F) f3X fun b hb=>.inl hb
  have hS:∀ b∈X++F,b<we.heap.size:=fun b hb=>Nat.lt_of_lt_of_le (hpd.lt b hb) f3X.size
  refine qtp hre.disk hp2.lim.ok hS hle fun d' w4 hrd4 f4=>?_
  have c4:=ce
  rw [<- f4.block bb (qac ce) (by simp)] at c4
  refine qab ?_
  have hx5:({ x with d:=d' }:RV).Ok:=⟨hx.sup,hx.roots⟩
  refine qaX (off:=0+2) c4 (bothV (some ⟨dbk,0,none⟩) (some ⟨pb,0,none⟩) { x with d:=d' } m wv t).toArray (qq8 hx) rfl (by rw [qaN hx hp2.wl]; exact Nat.le_of_ble_eq_true rfl) fun w5 c5 f5=>?_
  have f5X:Fr (X++F) w4 w5:=f5.mono fun b hb _=>by rw [List.mem_singleton.1 hb]; exact List.mem_append_left _ hp2.bx
  have hr5:=(hre.frame0 f4).frame (S':=X++F) f5X fun b hb=>.inl hb
  have hrd5:=hrd4.frame (S':=X++F) f5X fun b hb=>.inl hb
  have fe5:Fr (bb::FD) wd w5:=((f3d.mono fun b hb _=>List.mem_cons_of_mem _ hb).trans (f0 f4)).trans (f5.mono fun b hb _=>by rw [List.mem_singleton.1 hb]; simp)
  have fe5X:Fr X wd w5:=fe5.mono fun b hb _=>(List.mem_cons.1 hb).elim (fun e=>by rw [e]; exact hp2.bx) (hp2.sub b)
  have h5:Pair w5 bb dbk pb FD3 X F { x with d:=d' } (crashM D a.lost) M (crashM D a.lost) M' k m wv t:=
   ⟨c5,(hd3d.frame0 f4).frame f5 fun b hb hm=>hp2.nd ((show b=bb from List.mem_singleton.1 hm)▸n3 b hb),hp2.lim.crash,hpd.pager.frameX fe5X (fun b hb=>Nat.lt_of_lt_of_le (hpd.pager.xlt b hb) fe5X.size) (fun b hb=>.inl hb),fun b hb=>hp2.sub b (n3 b hb),hp2.bx,fun hm=>hp2.nd (n3 _ hm),
    ⟨hrd5,hr5.sup,hr5.lists,hr5.named,hr5.turn,hr5.over,hr5.free,hr5.deferred,hr5.fresh,hr5.roots,hx5⟩,hp2.wl,hp2.w1⟩
  have f25:Fr (bb::(FD++F)) w2 w5:=(f0 fd).trans (fe5.mono fun b hb _=>(List.mem_cons.1 hb).elim (fun e=>by rw [e]; simp) fun hb=>List.mem_cons_of_mem _ (List.mem_append_left _ hb))
  have hD5:=h2.turn h5 (toX f25) fun b hb=>.inl hb
  have hv5:Hv w5:=(hv2.frame0 fd).frame fe5 fun hm=>(List.mem_cons.1 hm).elim hgb hg
  have hT5:Twin ⟨crashM D a.lost,M,mk⟩ M' q' t j:=⟨hsim,hwf,hnm,ht1,ht2,hmk,by show 2<=(crashM D a.lost).safe.length; rw [qrE]; exact tw,hdead⟩
  refine qry hD5 hT5 hj hv5 fun pb2 F2 x2 M2' m2 t2 w6 h6 hT6 f6 n6=>?_
  have hsz5:=f25.size
  refine kk pb2 FD3 X F2 x2 M2' q' m2 wv t2 w6 ?_ ?_ (fS (f25.trans (fB f6))) fun b hb=>(n6 b hb).imp id fun h'=>by omega
  ·rw [es]; exact h6.lims (by omega)
  ·rw [es]; exact hT6
 have hc11:¬ a.act%12=11:=by simpa using hc
 have es:stepM a ⟨D,M,mk⟩=⟨D,pageA D M a,mk⟩:=by rw [stepM,if_neg hc5,if_neg hc6,if_neg hc7,if_neg hc8,if_neg hc9,if_neg hc10,if_neg hc11]
 refine Own.ldA (cl:=opCs) ho 0 rfl (o0,o1,o2,o3,o4,o5) rfl ?_
 refine qvE (o:=(o0,o1,o2,o3,o4,o5)) hp2 hwf.small (hsim.wf hwf).small hp2.lim.ok hv2 (hop.frame0 f2) hl fun F2 x2 w3 h3 f3 n3=>?_
 have hp:=quC hsim hwf D a hop.rn hop.rkind hop.rlong hop.rbody
 rw [qjp] at h3
 have hsup:=qod D M a
 have ht:=(qsG D D M M' a).2
 have f23:Fr (bb::(FD++F)) w2 w3:=f3.mono fun b hb _=>(List.mem_cons.1 hb).elim (fun e=>by rw [e]; simp) fun hb=>List.mem_cons_of_mem _ (List.mem_append_right _ hb)
 have hnew:∀ b∈X++F2,b∈X++F\/w2.heap.size<=b:=qka n3
 have hp1:(pageM D D M M' a).1=true:=hp.1
 rw [hp1]
 refine kk pb FD X F2 x2 (pageM D D M M' a).2.2 q' m wv t w3 ?_ ?_ (fS f23) (nS hnew)
 ·rw [es]; exact (h2.turn h3 (toX f23) hnew).lims (by omega)
 ·rw [es]
  refine ⟨hp.2,qvH hwf hop.rn hop.rkind hop.rlong hop.rbody,qst hwf hnm,?_,?_,fun q hq=>(hmk q hq).step fun ho2=>?_,tw,qsT hdead⟩
  ·dsimp only; rw [hsup.2.2.2.2]; exact ⟨ht1.1,by omega⟩
  ·rw [ht]; exact ⟨ht2.1,by omega⟩
  ·have ho2:(pageA D M a).over=false:=ho2
   rw [hsup.2.2.2.1] at ho2
   refine ⟨ho2,?_,?_,fun _=>⟨hsup.1,hsup.2.1,hsup.2.2.1⟩⟩
   ·show (pageM D D M M' a).2.2.turn-M'.turn=(pageA D M a).turn-M.turn
    rw [ht,hsup.2.2.2.2]; omega
   ·show M.turn<=(pageA D M a).turn
    rw [hsup.2.2.2.2]; exact Int.le_refl _
section
abbrev ROT:TypeId:=42
abbrev rootC (r:Int×Int×Int):Array Value:=#[.int .u32 r.1,.int .u32 r.2.1,.int .u32 r.2.2]
theorem qws (a b c a' b' c':Int):eqV Tryz.prog 2 ROT (.agg #[.int .u32 a,.int .u32 b,.int .u32 c]) (.agg #[.int .u32 a',.int .u32 b',.int .u32 c'])=some (bif a==a' then (bif b==b' then (bif c==c' then true else false) else false) else false):=by kernel_rfl
theorem qvM {P:Program} {t:TypeId} {x y:Operand} {cs ds:Array Value} {w:World} {K:Bool->Prop} (d:Nat) (hd:d<=10000) (r:Bool) (h:eqV P d t (.agg cs) (.agg ds)=some r)
  (hg:P.eqGuardType P.depth t=false) (k:K (!r)) :
  runQ [Ty1.one Cell.bool] (fun w'=>(do eqGuard .neq t x y (.agg cs) (.agg ds); binOp .neq t (.agg cs) (.agg ds):Sem Value).run P w') w K:=by
 have hr:=qks d t _ _ r h (10000-d) w
 rw [show d+(10000-d)=10000 by omega] at hr
 have hb:(binOp .neq t (.agg cs) (.agg ds)).run P w=.ok (.bool (!r)) w:=qaF (P:=P) true hr (by simp) (by simp) (by simp) (by simp)
 refine qax (ts:=[Ty1.one Cell.bool]) (!r) ?_ k
 show ((do eqGuard .neq t x y (.agg cs) (.agg ds); binOp .neq t (.agg cs) (.agg ds):Sem Value).run P w)=Result.ok (Value.bool (!r)) w
 simp [eqGuard,hg,hb]
theorem qvK {x y:Operand} {r:Int×Int×Int} {w:World} {K:Bool->Prop} (k:K false) :
  runQ [Ty1.one Cell.bool] (fun w'=>(do eqGuard .neq ROT x y (.agg (rootC r)) (.agg (rootC r)); binOp .neq ROT (.agg (rootC r)) (.agg (rootC r)):Sem Value).run Tryz.prog w') w K:=
 qvM 2 (by decide) true (by rw [rootC,qws]; simp) (by kernel_rfl) k
theorem qfE {w:World} {b off:Nat} {cs:Array Value} {T:TypeId} {fr:Nat×Nat} {v:Value} (hb:w.heap[b]?=some (.cells cs T fr)) (hx:cs[off]?=some v):w.cell? ⟨b,off,none⟩=some v:=by rw [qaj hb]; exact hx
theorem qua {l:List Int} (h:l.length=24) (t:Nat) (ht:t<8):((l.map (Value.int .u32)).drop (3*t)).take 3=(rootC (l.getD (3*t) 0,l.getD (3*t+1) 0,l.getD (3*t+2) 0)).toList:=by
 obtain ⟨a0,a1,a2,a3,a4,a5,a6,a7,a8,a9,a10,a11,a12,a13,a14,a15,a16,a17,a18,a19,a20,a21,a22,a23,rfl⟩:=qpm h
 match t,ht with
 | 0,_=>rfl
 | 1,_=>rfl
 | 2,_=>rfl
 | 3,_=>rfl
 | 4,_=>rfl
 | 5,_=>rfl
 | 6,_=>rfl
 | 7,_=>rfl
section
variable {d p m:Option Addr} {x:RV} {wv:List Value} {t:Int}
theorem qoS (hx:x.Ok):(bothV d p x m wv t).toArray[39]?=some (slV x.sf):=(qeu hx 37 (by decide)).trans (qdg hx)
theorem quW (hx:x.Ok):(bothV d p x m wv t).toArray[40]?=some (slV x.sd):=(qeu hx 38 (by decide)).trans (qmo hx)
theorem qtA (hx:x.Ok):(bothV d p x m wv t).toArray[41]?=some (slV x.sfr):=(qeu hx 39 (by decide)).trans (qbl hx)
theorem quT (hx:x.Ok):(bothV d p x m wv t).toArray[35]?=some (slV x.sl):=(qeu hx 33 (by decide)).trans (qgs hx)
theorem qtE (hx:x.Ok):(bothV d p x m wv t).toArray[7]?=some (.int .u64 x.sup.1):=(qeu hx 5 (by decide)).trans (qtk hx)
theorem qoi (hx:x.Ok):(bothV d p x m wv t).toArray[8]?=some (.int .u32 (x.sup.2.getD 0 0)):=(qeu hx 6 (by decide)).trans (qqa hx 0 (by decide))
theorem quR (hx:x.Ok):((bothV d p x m wv t).toArray.toList.drop 42).take 24=x.roots.map (Value.int .u32):=by
 have h:=qlw hx
 have h2:=qrG (d:=d) (p:=p) (m:=m) (wv:=wv) (t:=t) hx
 have e:(refV x).toArray.toList=refV x:=rfl
 rw [e,<- h2,List.drop_take,List.drop_drop,List.take_take] at h
 exact h
theorem quX (hx:x.Ok) (n:Nat) (hn:n<8):((bothV d p x m wv t).toArray.toList.drop (42+3*n)).take 3=(rootC (x.roots.getD (3*n) 0,x.roots.getD (3*n+1) 0,x.roots.getD (3*n+2) 0)).toList:=by
 rw [<- qua hx.roots n hn,<- quR (d:=d) (p:=p) (m:=m) (wv:=wv) (t:=t) hx,List.drop_take,List.drop_drop,List.take_take,Nat.min_eq_left (by omega)]
end
theorem qsb {M M':PgM} (h:Sim M M') (hW:M.Wf) {l:List Int} (hp:l.Perm (M.fresh.map (·.1))) (hs:l.Pairwise (·<=·)):l=M'.fresh.map (·.1):=
 qbF (hp.trans (h.perm.map _).symm) hs (qoQ h.sorted)
theorem quu {w:World} {bb dbk pb:Nat} {FD X F:List Nat} {x:RV} {D D':DiskM} {M M':PgM} {k:Nat} {m:Option Addr} {wv:List Value} {t:Int} {K:Bool->World->Prop}
  (h:Pair w bb dbk pb FD X F x D M D' M' k m wv t) (hs:Sim M M') (hW:M.Wf) (hk:∀ w',Fr [] w w'->K true w') :
  call Tryz.prog 36 [.pointer (some ⟨bb,0,none⟩)] [.one .bool] w K:=by
 refine qej (b:=some ⟨bb,0,none⟩) ?_
 unfold qca
 have hx:=h.ref.ok
 have hsm:=hW.small
 have esup:x.sup=M.sup:=by rw [h.ref.sup,hs.sup]
 have elf:x.sf.len=M.free.length:=by have:=h.ref.free.1; rw [hs.free] at this; exact this
 have hfr:=h.ref.fresh
 have elfr:x.sfr.len=M'.fresh.length:=hfr.1
 have hb4:U32 (M.sup.2.getD 0 0):=qd2 hW.u32 0
 have hn4:=hW.n4
 refine qaf (fun b w'=>b=false/\Fr [] w w') ?_ ?_
 ·have fd:Fr [] w w.drew:=(Fr.refl [] w).drew
  have h0:=h.frame0 fd
  generalize World.drew w=wd at h0 fd
  refine qab ?_
  refine qae (c:=.ptr) (off:=0+1) h0.cell (some ⟨pb,0,none⟩) qb4 ?_
  refine qab ?_
  refine qae (c:=.slice) (off:=0+2+37) h0.cell x.sf (qoS hx) ?_
  refine qut h0.pager ?_
  refine qan (qfE (off:=0+2+37) h0.cell (qoS hx)) ?_
  rw [elf]
  refine cond_false (by simp) ?_
  refine qab ?_
  refine qae (c:=.ptr) (off:=0+1) h0.cell (some ⟨pb,0,none⟩) qb4 ?_
  refine qab ?_
  refine qae (c:=.int .u64) (off:=0+2+5) h0.cell x.sup.1 (qtE hx) ?_
  refine qrv h0.pager ?_
  refine qan (qfE (off:=0+2+5) h0.cell (qtE hx)) ?_
  rw [esup]
  refine cond_false (by simp) ?_
  refine qab ?_
  refine qae (c:=.ptr) (off:=0+1) h0.cell (some ⟨pb,0,none⟩) qb4 ?_
  refine qab ?_
  refine qae (c:=.int .u32) (off:=0+2+5+1) h0.cell (x.sup.2.getD 0 0) (qoi hx) ?_
  refine qsm h0.pager hb4 ?_
  refine qan (qfE (off:=0+2+5+1) h0.cell (qoi hx)) ?_
  rw [esup,wi' _ (by omega)]
  refine cond_false (by simp) ?_
  refine qab ?_
  refine qae (c:=.ptr) (off:=0+1) h0.cell (some ⟨pb,0,none⟩) qb4 ?_
  refine qab ?_
  refine qae (c:=.slice) (off:=0+2+37) h0.cell x.sf (qoS hx) ?_
  refine qlr h0.pager (by have:=hsm.free; omega) fun s1 w1 t1 f1=>?_
  have h1:=h0.frame0 f1
  refine qan (qfE (off:=0+2+37) h1.cell (qoS hx)) ?_
  obtain ⟨B1,b1,n1⟩:=qdV t1
  refine qcR (S:=[]) (Buf.rds qau b1 fun b hb hm=>nomatch hm) (hs.free▸h1.ref.free) (by have:=hsm.free; omega) fun w2 s2=>?_
  have f2:=f1.trans (.of_same s2)
  have h2:=h0.frame0 f2
  refine cond_false rfl ?_
  refine qab ?_
  refine qae (c:=.ptr) (off:=0+1) h2.cell (some ⟨pb,0,none⟩) qb4 ?_
  refine qab ?_
  refine qae (c:=.slice) (off:=0+2+33) h2.cell x.sl (quT hx) ?_
  refine qjI h2.pager (by have:=hsm.lists; omega) fun s3 B3 w3 b3 f3 n3=>?_
  have h3:=h2.frame0 f3
  refine qan (qfE (off:=0+2+33) h3.cell (quT hx)) ?_
  refine qcR (S:=[]) (Buf.rds qau b3 fun b hb hm=>nomatch hm) (hs.lists▸h3.ref.lists) (by have:=hsm.lists; omega) fun w4 s4=>?_
  have f4:=(f2.trans f3).trans (.of_same s4)
  have h4:=h0.frame0 f4
  refine cond_false rfl ?_
  refine qab ?_
  refine qae (c:=.ptr) (off:=0+1) h4.cell (some ⟨pb,0,none⟩) qb4 ?_
  refine qab ?_
  refine qae (c:=.slice) (off:=0+2+37+1) h4.cell x.sd (quW hx) ?_
  refine qpe h4.pager (by have:=hsm.deferred; omega) fun s5 w5 t5 f5=>?_
  have h5:=h4.frame0 f5
  refine qan (qfE (off:=0+2+37+1) h5.cell (quW hx)) ?_
  obtain ⟨B5,b5,n5⟩:=qdV t5
  refine qcR (S:=[]) (Buf.rds qau b5 fun b hb hm=>nomatch hm) (hs.deferred▸h5.ref.deferred) (by have:=hsm.deferred; omega) fun w6 s6=>?_
  exact ⟨rfl,((fd.trans f4).trans f5).trans (.of_same s6)⟩
 rintro b w1 ⟨rfl,f1⟩
 refine cond_false rfl ?_
 have h1:=h.frame0 f1
 refine qab ?_
 refine qae (c:=.ptr) (off:=0+1) h1.cell (some ⟨pb,0,none⟩) qb4 ?_
 refine qnZ h1.pager hsm.fresh fun s2 B2 l2 w2 b2 p2 o2 f2 n2=>?_
 have hl2:l2=M'.fresh.map (·.1):=qsb hs hW p2 o2
 have h2:=h1.frame0 f2
 refine qab ?_
 refine qae (c:=.slice) (off:=0+2+37+2) h2.cell x.sfr (qtA hx) ?_
 have e2:s2.len=M'.fresh.length:=by rw [b2.len,hl2,List.length_map]
 rw [e2,elfr]
 refine cond_false (by simp) ?_
 have hml:M'.fresh.length<=100000:=by rw [hs.perm.length_eq]; exact hsm.fresh
 have f02:=f1.trans f2
 refine qag (fun y w'=>∃ i:Nat,y=i/\i<=M'.fresh.length/\Fr [] w2 w') (fun y _=>((M'.fresh.length:Int)-y).toNat) ⟨0,rfl,by omega,.refl _ _⟩ ?_
 rintro y w3 ⟨i,rfl,hi,f3⟩ X1 hX1
 refine qaa (fun hc=>?_) (fun hc=>?_)
 ·have hil:i<M'.fresh.length:=by have:=of_decide_eq_true hc; omega
  have f3d:=f3.drew
  have h3:=h2.frame0 f3d
  have b3:=b2.frame0 f3d
  generalize World.drew w3=wd at f3d h3 b3
  have hget:l2[i]?=some (M'.fresh[i].1):=by rw [hl2,List.getElem?_map,List.getElem?_eq_getElem hil]; rfl
  refine Rds.get (c:=.int .u32) (b3.rds (S:=[]) qau fun b hb hm=>nomatch hm) i rfl hget rfl ?_
  refine qab ?_
  refine qae (c:=.slice) (off:=0+2+37+2) h3.cell x.sfr (qtA hx) ?_
  obtain ⟨hn2,bo,oo,ha,_,cs,T,fr,hbk,hcs⟩:=h3.ref.fresh.at i (List.getElem?_eq_getElem hil)
  have c0:cs[oo+i*3]?=some (.int .u32 M'.fresh[i].1):=by
   have:=congrArg (·[0]?) hcs
   simpa [encPage] using this
  refine qaU ha ⟨by omega,by omega⟩ ?_
  rw [Int.toNat_natCast]
  refine qae (c:=.int .u32) hbk M'.fresh[i].1 c0 ?_
  refine cond_false (by simp) ?_
  rw [wi' _ (by omega)]
  exact hX1 _ _ ⟨i+1,by simp,by omega,f3d⟩ (by omega)
 ·clear hX1
  refine qag (fun y w'=>∃ i:Nat,y=(i:Int)-1/\i<=10/\Fr [] w2 w') (fun y _=>(9-y).toNat) ⟨0,rfl,by omega,f3⟩ ?_
  rintro y w4 ⟨i,rfl,hi,f4⟩ X2 hX2
  refine qaa (fun hc=>?_) (fun hc=>hk w4 (f02.trans f4))
  have hi9:(i:Int)-1<=8:=of_decide_eq_true hc
  refine Own.newSt (Own.start [] w4) (cs':=rootC (0,0,0)) rfl rfl (Nat.le_of_ble_eq_true rfl) fun r w5 e5 ho5 f5=>?_
  have f25:=f4.trans f5
  have h5:=h2.frame0 f25
  have hwant:∀ n:Nat,n<8->rootM M n=(x.roots.getD (3*n) 0,x.roots.getD (3*n+1) 0,x.roots.getD (3*n+2) 0):=fun n hn=>by
   rw [rootM,if_neg (by omega),Int.toNat_natCast,h.ref.roots,hs.roots]
  refine qaf (fun _ w'=>Own [] w4 w' [(r,.cells (rootC (rootM M ((i:Int)-1))) ROT (0,0))]) ?_ ?_
  ·refine qaf (fun b w'=>b=decide (0<=(i:Int)-1/\(i:Int)-1<8)/\w'=w5) ?_ ?_
   ·refine qaa (fun hc=>?_) (fun hc=>?_)
    ·have:=of_decide_eq_true hc
     exact ⟨decide_eq_decide.2 ⟨fun h=>⟨by omega,h⟩,fun h=>h.2⟩,rfl⟩
    ·have:=of_decide_eq_false hc
     exact ⟨(decide_eq_false fun h=>by omega).symm,rfl⟩
   rintro b w6 ⟨rfl,rfl⟩
   refine qaa (fun hc=>?_) (fun hc=>?_)
   ·obtain ⟨hc1,hc2⟩:=of_decide_eq_true hc
    obtain ⟨n,hn⟩:∃ n:Nat,(i:Int)-1=n:=⟨i-1,by omega⟩
    rw [hn] at hc2 ⊢
    refine qab (qal ⟨by omega,hc2⟩ ?_)
    rw [Int.toNat_natCast]
    simp only [Addr.add_mk]
    have hr:=quX (d:=some ⟨dbk,0,none⟩) (p:=some ⟨pb,0,none⟩) (m:=m) (wv:=wv) (t:=t) hx n (by omega)
    rw [<- hwant n (by omega)] at hr
    refine qd1 (cl:=[.int .u32,.int .u32,.int .u32]) (off:=0+2+37+3+n*3) h5.cell (rootM M n) (by rw [show 0+2+37+3+n*3=42+3*n by omega]; exact hr) ?_
    exact Own.st' ho5 0 rfl (rootC (rootM M n)) rfl rfl (Nat.le_of_ble_eq_true rfl) fun w7 ho7 f7=>ho7
   ·have hc:=of_decide_eq_false hc
    have:rootM M ((i:Int)-1)=(0,0,0):=if_pos (by omega)
    rw [this]; exact ho5
  rintro _ w6 ho6
  have ho6d:=ho6.drew
  generalize World.drew w6=wd at ho6d
  have f26:=f4.trans ho6d.fr
  have h6:=h2.frame0 f26
  refine qab ?_
  refine qae (c:=.ptr) (off:=0+1) h6.cell (some ⟨pb,0,none⟩) qb4 ?_
  refine Own.ldA (cl:=[.int .u32,.int .u32,.int .u32]) ho6d 0 rfl (rootM M ((i:Int)-1)) rfl ?_
  refine quD h6.pager fun w7 f7=>?_
  refine qan ((ho6d.frame0 f7).cells 0 rfl rfl) ?_
  refine qvK ?_
  refine cond_false rfl ?_
  rw [wi' _ (by omega)]
  exact hX2 _ _ ⟨i+1,by omega,by omega,f26.trans f7⟩ (by omega)
theorem quI {w:World} {bb dbk pb:Nat} {FD X F:List Nat} {x:RV} {D:DiskM} {M M':PgM} {k:Nat} {m:Option Addr} {wv:List Value} {t:Int} {K:Bool->World->Prop}
  (h:Pair w bb dbk pb FD X F x D M D M' k m wv t) (hk:∀ w',Fr [] w w'->K true w') :
  call Tryz.prog 37 [.pointer (some ⟨bb,0,none⟩)] [.one .bool] w K:=by
 refine qeh (b:=some ⟨bb,0,none⟩) ?_
 unfold qcc
 have hx:=h.ref.ok
 have hD:=h.lim.ok
 have hsf:=hD.safe
 have els:x.d.1.len=D.safe.length:=h.ref.disk.safe.1
 have elw:x.d.2.1.len=D.waits.length:=h.ref.disk.waits.1
 have c2:(bothV (some ⟨dbk,0,none⟩) (some ⟨pb,0,none⟩) x m wv t).toArray[2]?=some (.slice x.d.1.a x.d.1.len x.d.1.cap):=rfl
 have c3:(bothV (some ⟨dbk,0,none⟩) (some ⟨pb,0,none⟩) x m wv t).toArray[3]?=some (.slice x.d.2.1.a x.d.2.1.len x.d.2.1.cap):=rfl
 refine qab ?_
 refine qae (c:=.slice) (off:=0+2) h.cell x.d.1 c2 ?_
 rw [els]
 refine qag (fun y w'=>∃ i:Nat,y=i/\i<=D.safe.length/\Fr [] w w') (fun y _=>((D.safe.length:Int)-y).toNat) ⟨0,rfl,by omega,.refl _ _⟩ ?_
 rintro y w1 ⟨i,rfl,hi,f1⟩ X1 hX1
 have h1:=h.frame0 f1
 refine qaa (fun hc=>?_) (fun hc=>?_)
 ·have hil:i<D.safe.length:=by have:=of_decide_eq_true hc; omega
  refine qab ?_
  refine qae (c:=.ptr) h1.cell (some ⟨dbk,0,none⟩) qpC ?_
  refine qfO h1.disk hD fun s2 B2 w2 b2 f2 n2=>?_
  have h2:=h1.frame0 f2
  refine qab ?_
  refine qd1 (cl:=dC) (off:=0+2) h2.cell x.d (qms hx) ?_
  refine qey h2.ref.disk hD fun w3 f3=>?_
  refine qaf (fun b w'=>b=false/\w'=w3) ?_ ?_
  ·refine qa3 (S:=[]) ((b2.frame0 f3).rds qat fun b hb hm=>nomatch hm) (qaY hD _).1 ?_
   refine cond_false (by simp) ⟨by simp,rfl⟩
  rintro b w4 ⟨rfl,rfl⟩
  refine cond_false rfl ?_
  rw [wi' _ (by omega)]
  exact hX1 _ _ ⟨i+1,by simp,by omega,(f1.trans f2).trans f3⟩ (by omega)
 ·have f1d:=f1.drew
  have h2:=h.frame0 f1d
  generalize World.drew w1=wd at f1d h2
  refine qab ?_
  refine qae (c:=.ptr) h2.cell (some ⟨dbk,0,none⟩) qpC ?_
  refine qab ?_
  refine qae (c:=.slice) (off:=0+2+0+1) h2.cell x.d.2.1 c3 ?_
  refine qsP h2.disk ?_
  refine qan (qfE (off:=0+2+0+1) h2.cell c3) ?_
  rw [elw,show ((D.waits.length:Int)==(D.waits.length:Int))=true from beq_self_eq_true _]
  exact hk wd f1d
end
def opZ:Array Value:=#[.int .u8 0,.int .u32 0,.int .u8 0,.slice none 0 0,.int .u16 0,.slice none 0 0]
theorem qvI (o:OpC):splice opZ 0 (HL.mk opCs o)=opA o:=rfl
section
theorem que {b:Int} (hb:0<=b/\b<256):IntKind.wrap .i64 (8+IntKind.wrap .i64 (Int.tmod b 33))=((8+(b%33).toNat:Nat):Int):=by
 have e:=Int.tmod_eq_emod_of_nonneg (b:=33) hb.1
 rw [e,wi' (b%33) (by omega),wi' (8+b%33) (by omega)]
 omega
theorem qtg {w:World} {n:Nat} {Kf:World->Prop} {K:Nat->World->Prop} (hv:Hv w) (h8:8<=n) (h4:n<=4096)
  (hk:∀ bb dbk pb FD F x D w',Duo w' bb dbk pb FD (bb::FD) F x ⟨D,madeM n,none⟩ (madeM n) (madeM n) 5000 none wvZ 0->Twin ⟨D,madeM n,none⟩ (madeM n) (madeM n) 0 1->Made D n->Fr [] w w'->(∀ b∈(bb::FD)++F,w.heap.size<=b)->K bb w') :
  call Tryz.prog 26 [.int .i64 n] [.raw,.one .bool] w fun t w1=>newZ Tryz.prog BTT w1 fun r w2=>chk (t.1.length=95)<|st ⟨r,0,none⟩ t.1 w2 fun w3=>cond (!t.2) (Kf w3) (K r w3):=by
 refine quH (n:=n) hv h8 h4 fun dbk pb FD F D x w2 hdk hlm hpg hmade hrp f2 n2=>?_
 have hx:=hrp.ok
 have l95:=qqe (d:=some ⟨dbk,0,none⟩) (p:=some ⟨pb,0,none⟩) (m:=none) (t:=0) hx qb3
 refine Own.newZ (Own.start [] w2) qsD fun bb w3 e3 ho3=>?_
 refine qal l95 ?_
 refine Own.st' ho3 0 rfl (bothV (some ⟨dbk,0,none⟩) (some ⟨pb,0,none⟩) x none wvZ 0).toArray (qa1 (by rw [qaN qar qb3,l95])) (qsZ qnm) (by rw [qaN qar qb3,l95]; exact Nat.le_of_ble_eq_true rfl) fun w4 ho4 f4=>?_
 refine cond_false rfl ?_
 have f24:=ho4.fr
 have lbb:w2.heap.size<=bb:=by omega
 have hsz2:=f2.size
 have hD12:D.safe.length=n:=by have:(D.safe.length:Int)=(n:Nat):=hmade.size; omega
 have hP0:Pair w4 bb dbk pb FD (bb::FD) F x D (madeM n) D (madeM n) 5000 none wvZ 0:=by
  refine ⟨ho4.at (i:=0) rfl,hdk.frame0 f24,hlm,hpg.frameX (X':=bb::FD) (f24.mono fun b hb=>nomatch hb) (fun b hb=>?_) (fun b hb=>?_),fun b hb=>List.mem_cons_of_mem _ hb,by simp,fun hm=>by have:=hdk.lt bb hm; omega,hrp.frame (f24.mono fun b hb=>nomatch hb) (fun b hb=>?_),qb3,qnm⟩
  ·exact (List.mem_cons.1 hb).elim (fun e=>by rw [e]; exact qac (ho4.at (i:=0) rfl)) fun hb=>Nat.lt_of_lt_of_le (hdk.lt b hb) f24.size
  ·exact (List.mem_cons.1 hb).elim (fun e=>.inr (by rw [e]; exact lbb)) .inl
  ·rcases List.mem_append.1 hb with hb | hb
   ·exact (List.mem_cons.1 hb).elim (fun e=>.inr (by rw [e]; exact lbb)) fun hb=>.inl (List.mem_append_left _ hb)
   ·exact .inl (List.mem_append_right _ hb)
 refine hk bb dbk pb FD F x D w4 ⟨hP0,fun _=>rfl,fun q hq=>nomatch hq⟩ ⟨⟨rfl,rfl,rfl,rfl,rfl,rfl,rfl,.refl _,.nil⟩,qrx h8 h4,qcL _ _ _ _ _,⟨by show (0:Int)<=1; decide,by show (1:Int)<=_; decide⟩,⟨by show (0:Int)<=1; decide,by show (1:Int)<=_; decide⟩,fun q hq=>(nomatch hq),by show 2<=D.safe.length; omega,fun ho=>by cases ho⟩ hmade (f2.trans f24) fun b hb=>?_
 rcases List.mem_append.1 hb with hb | hb
 ·exact (List.mem_cons.1 hb).elim (fun e=>by rw [e]; omega) fun hb=>n2 b (List.mem_append_left _ hb)
 ·exact n2 b (List.mem_append_right _ hb)
def Inv10 (S0:List Nat) (I:StM->Nat->Prop) (w0:World) (bb dbk:Nat) (i:Nat) (w:World):Prop:=
 ∃ (pb:Nat) (FD X F:List Nat) (x:RV) (s:StM) (M' q':PgM) (m:Option Addr) (wv:List Value) (t:Int),
  Duo w bb dbk pb FD X F x s M' q' (5000+5000*i) m wv t/\Twin s M' q' t (1+i)/\Fr S0 w0 w/\(∀ b∈X++F,b∈S0\/w0.heap.size<=b)/\I s i
section
variable {S0:List Nat} {I:StM->Nat->Prop} {w0 w w':World} {bb dbk i:Nat}
theorem Inv10.fr (h:Inv10 S0 I w0 bb dbk i w):Fr S0 w0 w:=by obtain ⟨_,_,_,_,_,_,_,_,_,_,_,_,_,hf,_⟩:=h; exact hf
theorem Inv10.frame0 (h:Inv10 S0 I w0 bb dbk i w) (f:Fr [] w w'):Inv10 S0 I w0 bb dbk i w':=by
 obtain ⟨pb,FD,X,F,x,s,M',q',m,wv,t,hD,hT,hf,hn,hi⟩:=h
 exact ⟨pb,FD,X,F,x,s,M',q',m,wv,t,hD.frame0 f,hT,hf.trans (f.mono fun b hb=>(nomatch hb)),hn,hi⟩
theorem Inv10.skip (h:Inv10 S0 I w0 bb dbk i w) (f:Fr [] w w') (hI:∀ s,I s i->I s (i+1)):Inv10 S0 I w0 bb dbk (i+1) w':=by
 obtain ⟨pb,FD,X,F,x,s,M',q',m,wv,t,hD,hT,hf,hn,hi⟩:=h
 exact ⟨pb,FD,X,F,x,s,M',q',m,wv,t,(hD.frame0 f).lims (by omega),⟨hT.sim,hT.wf,hT.named,by have:=hT.turn; omega,by have:=hT.turn'; omega,hT.mark,hT.two,hT.dead⟩,hf.trans (f.mono fun b hb=>(nomatch hb)),hn,hI s hi⟩
theorem Inv10.step {o:OpC} {a:OpM} {K:Bool->World->Prop} (h:Inv10 S0 I w0 bb dbk i w) (hi:i<=100) (hv:Hv w0) (hgS:HG∉S0) (hop:OpOk S0 w0 o a) (hl:a.body.length<=600)
  (hI:∀ s M' q' t,Twin s M' q' t (1+i)->s.M.roots.length=24->I s i->I (stepM a s) (i+1)) (kk:∀ w',Inv10 S0 I w0 bb dbk (i+1) w'->K true w') :
  call Tryz.prog 27 [.pointer (some ⟨bb,0,none⟩),.agg (opA o)] [.one .bool] w K:=by
 obtain ⟨pb,FD,X,F,x,s,M',q',m,wv,t,hD,hT,hf,hn,hi'⟩:=h
 have hvl:=hv.lt
 have hX:HG∉X:=fun hm=>(hn HG (List.mem_append_left _ hm)).elim hgS fun h'=>by omega
 have hg:HG∉FD:=fun hm=>hX (hD.pair.sub HG hm)
 have hgb:HG≠bb:=fun e=>hX (e▸hD.pair.bx)
 have ha:OpOk (X++F) w o a:=hop.frame hf hn
 have hr:s.M.roots.length=24:=by obtain ⟨_,_,_,_,_,_,_,_,_,hx⟩:=hD.pair.pager; exact hx.rootlen
 have hsz:=hf.size
 refine qu3 hD hT (by omega) (by omega) (hv.frame hf hgS) hg hgb ha hl fun pb2 FD2 X2 F2 x2 M2' q2' m2 wv2 t2 w2 hD2 hT2 f2 n2=>?_
 refine kk w2 ⟨pb2,FD2,X2,F2,x2,stepM a s,M2',q2',m2,wv2,t2,hD2.lims (by omega),⟨hT2.sim,hT2.wf,hT2.named,by have:=hT2.turn; omega,by have:=hT2.turn'; omega,hT2.mark,hT2.two,hT2.dead⟩,hf.trans' f2 fun b hb=>?_,fun b hb=>?_,hI s M' q' t hT hr hi'⟩
 ·rcases List.mem_cons.1 hb with rfl | hb
  ·exact hn _ (List.mem_append_left _ hD.pair.bx)
  ·exact hn b ((List.mem_append.1 hb).elim (fun h'=>List.mem_append_left _ (hD.pair.sub b h')) (List.mem_append_right _))
 ·exact (n2 b hb).elim (hn b) fun h'=>.inr (by omega)
end
theorem qoD {w:World} {blocks:Int} {so:Sl} {los:List OpC} {K:Bool->World->Prop} (hv:Hv w) (hb:0<=blocks/\blocks<256) (hso:Rds (HL.mk opCs) 6 [] w so los) (hoo:∀ o∈los,∃ a,OpOk [] w o a) (hk:∀ w',Fr [] w w'->K true w') :
  call Tryz.prog 7 [.int .u8 blocks,.slice so.a so.len so.cap] [.one .bool] w K:=by
 refine qeK (blocks:=blocks) (ops:=so) ?_
 unfold qcd
 have hls:=hso.1
 rw [hls]
 refine qaa (fun hc=>qmR hv fun w2 f2=>hk w2 f2) (fun hc=>?_)
 have hlen:los.length<=60:=by have:=of_decide_eq_false hc; omega
 rw [que hb]
 refine qtg hv (by omega) (by omega) fun bb dbk pb FD F x D w1 hD hT hM f1 n1=>?_
 have h0:Inv10 [] (fun _ _=>True) w bb dbk 0 w1:=⟨pb,FD,bb::FD,F,x,_,_,_,none,wvZ,0,hD,hT,f1,fun b hb=>.inr (n1 b hb),trivial⟩
 clear hD hT hM f1 n1
 refine qag (fun y w'=>∃ i:Nat,y=i/\i<=los.length/\Inv10 [] (fun _ _=>True) w bb dbk i w') (fun y _=>((los.length:Int)-y).toNat) ⟨0,rfl,by omega,h0⟩ ?_
 rintro y w2 ⟨i,rfl,hi,h2⟩ X1 hX1
 refine qaa (fun hc=>?_) (fun hc=>?_)
 ·have hil:i<los.length:=by have:=of_decide_eq_true hc; omega
  obtain ⟨a,ha⟩:=hoo los[i] (List.getElem_mem hil)
  have hf2:Fr [] w w2:=h2.fr
  refine qaf (fun _ w'=>Inv10 [] (fun _ _=>True) w bb dbk (i+1) w') ?_ ?_
  ·refine Rds.getA (hso.frame0 hf2) i (cl:=opCs) rfl (List.getElem?_eq_getElem hil) rfl (y:=los[i]) rfl ?_
   refine Own.newSt (Own.start [] w2) (cs':=opA los[i]) (qvI _) rfl (Nat.le_of_ble_eq_true rfl) fun r3 w3 e3 ho3 f3=>?_
   refine qaf (fun b w'=>b=decide (a.body.length>600\/a.lost.length>100)/\w'=w3) ?_ ?_
   ·refine Own.ld (c:=.slice) ho3 0 rfl los[i].2.2.2.1 rfl ?_
    have e1:los[i].2.2.2.1.len=a.body.length:=ha.body.1
    have e2:los[i].2.2.2.2.2.len=a.lost.length:=ha.lost.1
    rw [e1]
    refine qaa (fun hc=>⟨by have:=of_decide_eq_true hc; rw [decide_eq_true (Or.inl (by omega))],rfl⟩) (fun hc=>?_)
    refine Own.ld (c:=.slice) ho3 0 rfl los[i].2.2.2.2.2 rfl ⟨?_,rfl⟩
    have:=of_decide_eq_false hc
    rw [e2]
    exact decide_eq_decide.2 ⟨fun h=>.inr (by omega),fun h=>by omega⟩
   rintro b w4 ⟨rfl,rfl⟩
   refine qaa (fun hc=>h2.skip f3 fun _ h=>h) (fun hc=>?_)
   have hl:=of_decide_eq_false hc
   refine qaf (fun b w'=>b=false/\Inv10 [] (fun _ _=>True) w bb dbk (i+1) w') ?_ ?_
   ·refine Own.ldA (cl:=opCs) ho3 0 rfl los[i] rfl ?_
    have h3:=h2.frame0 f3
    refine h3.step (by omega) hv (by simp) ha (by omega) (fun _ _ _ _ _ _ h=>h) fun w5 h5=>?_
    refine cond_false rfl ?_
    obtain ⟨pb,FD,X,F,x,s,M',q',m,wv,t,hD,hT,hf,hn,hi'⟩:=h5
    refine quu hD.pair hT.sim hT.wf fun w6 f6=>⟨rfl,pb,FD,X,F,x,s,M',q',m,wv,t,hD.frame0 f6,hT,hf.trans f6,hn,hi'⟩
   rintro b w5 ⟨rfl,h5⟩
   exact cond_false rfl h5
  rintro _ w3 h3
  rw [wi' _ (by omega)]
  exact hX1 _ _ ⟨i+1,by simp,by omega,h3⟩ (by omega)
 ·obtain ⟨pb,FD,X,F,x,s,M',q',m,wv,t,hD,hT,hf,hn,hi'⟩:=h2
  refine qmR (hv.frame0 hf) fun w3 f3=>?_
  refine cond_true rfl ?_
  refine quI (hD.frame0 f3).pair fun w4 f4=>?_
  exact hk w4 ((hf.trans f3).trans f4)
end
end Go.Proofs.YtmbcedengdoamaaGreatDoor
end
